/- C17, C18, C19, C20, C22, R6. -/
import Derived.Test.YtfpioigggjnffaaGreatDoorQ8
import Derived.Test.YtfpioigggjnffaaGreatDoorQ7
set_option linter.unnecessarySimpa false
set_option linter.unusedSimpArgs false
set_option linter.unusedVariables false
set_option autoImplicit false
namespace Go.Proofs.YtfpioigggjnffaaGreatDoor.E
open Go.Ev
variable {pre:List Ctl} {f:List Int}
theorem Rel.close {s s' t:Stk} {c:Ctl} (hp:risesB 0 pre=some 0) (hf:finB f=true) (h:Rel pre f s s') (h1:1<s.ctrls.length) (e:closeS s= .ok (c,t)): ∃t',closeS s'= .ok (c,t')∧Rel pre f t t':=by
 unfold closeS at e ⊢
 cases ht:topC s with
 |error x=>rw[ht] at e;cases e
 |ok k=>
  obtain⟨c',k1,k2,k3⟩:=h.top hp hf ht
  have hl:=(topC_ok ht).2
  have hl':=(topC_ok k1).2
  rw[ht] at e
  rw[k1]
  obtain⟨d,d',rest,g1,g2,g3,g4⟩:=h
  rw[g1] at hl h1
  rw[g2,List.getLast?_append] at hl'
  cases rest with
  |nil=>simp at h1
  |cons a r=>
   have e1:k=c':=by
    have h5:(⟨2,f,0,d'⟩::a::r:List Ctl).getLast? =(⟨2,[],0,d⟩::a::r:List Ctl).getLast? :=by rw[List.getLast?_cons_cons,List.getLast?_cons_cons]
    rw[h5,hl] at hl'
    simpa using hl'
   subst e1
   simp only at e ⊢
   rw[g3]
   cases hw:wantV k.ht k.dead k.fin.reverse s.vals with
   |error x=>rw[hw] at e;cases e
   |ok v=>
    rw[hw] at e
    simp only at e ⊢
    split at e
    ·cases e
    ·rename_i hv
     rw[if_neg hv]
     cases e
     refine⟨_,rfl,d,d',(a::r).dropLast,by simp only;rw[g1];rfl, ?_,rfl,g4⟩
     simp only
     rw[g2,List.dropLast_append_of_ne_nil (by simp)]
     rfl
end Go.Proofs.YtfpioigggjnffaaGreatDoor.E
set_option autoImplicit false
namespace Go.Proofs.YtfpioigggjnffaaGreatDoor.E
open Go.Ev
variable {pre:List Ctl} {f:List Int}
def RelW (pre:List Ctl) (f:List Int) (w w':WkS):Prop:=w.e=0→w'.e=0∧Rel pre f w.s w'.s
theorem put_ok {w:WkS} {s:Stk} (h:w.e=0):w.put (.ok s)=⟨s,0⟩:=by unfold WkS.put;rw[if_neg (by omega)]
theorem RelW.put {w w':WkS} {r r':Except Int Stk} (h:RelW pre f w w') (hr: ∀t,w.e=0→r= .ok t→Rel pre f w.s w'.s→∃t',r'= .ok t'∧Rel pre f t t') (he: ∀e,r= .error e→e≠0):RelW pre f (w.put r) (w'.put r'):=by
 intro h0
 obtain⟨a,s,e1,e2⟩:=put_e0 he h0
 obtain⟨b,hR⟩:=h a
 obtain⟨t',e3,hR'⟩:=hr s a e1 hR
 rw[e3,put_ok b,e2]
 exact⟨rfl,hR'⟩
theorem RelW.want {w w':WkS} (hp:risesB 0 pre=some 0) (hf:finB f=true) (h:RelW pre f w w') {l l':List Int} (hl:w.e=0→l=l'):RelW pre f (w.want l) (w'.want l'):=
 h.put (fun _ h0 e hR=>by rw[←hl h0];exact hR.want hp hf e) (fun _ x=>by have:=wantS_err x;omega)
theorem RelW.push {w w':WkS} (hp:risesB 0 pre=some 0) (hf:finB f=true) (h:RelW pre f w w') {l l':List Int} (hl:w.e=0→l=l'):RelW pre f (w.push l) (w'.push l'):=
 h.put (fun _ h0 e hR=>by rw[←hl h0];exact hR.push hp hf e) (fun _ x=>by have:=pushS_err x;omega)
theorem RelW.opens {w w':WkS} (hp:risesB 0 pre=some 0) (hf:finB f=true) (h:RelW pre f w w') (op:Int) {l l':List Int} (hl:w.e=0→l=l'):RelW pre f (w.opens op l) (w'.opens op l'):=
 h.put (fun _ h0 e hR=>by rw[←hl h0];exact hR.open hp hf e) (fun _ x=>by have:=openS_err x;omega)
theorem RelW.kill {w w':WkS} (hp:risesB 0 pre=some 0) (hf:finB f=true) (h:RelW pre f w w'):RelW pre f w.kill w'.kill:=
 h.put (fun _ _ e hR=>hR.kill hp hf e) (fun _ x=>by have:=killS_err x;omega)
theorem RelW.must {w w':WkS} (h:RelW pre f w w') {b b':Bool} (hb:w.e=0→b=true→b'=true) {e:Int} (he:e≠0):RelW pre f (w.must b e) (w'.must b' e):=by
 intro h0
 obtain⟨h1,h2⟩:=must_e0 he h0
 have h3:=must_true he h0
 obtain⟨h4,h5⟩:=h h1
 have:w'.must b' e=w':=by unfold WkS.must;rw[hb h1 h3];rfl
 rw[this,h2];exact⟨h4,h5⟩
theorem RelW.pop {w w':WkS} (hp:risesB 0 pre=some 0) (hf:finB f=true) (h:RelW pre f w w'):RelW pre f w.pop.2 w'.pop.2∧(w.pop.2.e=0→w.pop.1=w'.pop.1):=by
 have key:w.pop.2.e=0→w.e=0∧∃x t,popS w.s= .ok (x,t):=fun h0=>by
  unfold WkS.pop at h0
  cases hq:popS w.s with
  |ok r=>
   obtain⟨x,t⟩:=r
   rw[hq] at h0
   exact⟨(put_e0 (fun _ x=>by cases x) h0).1,x,t,rfl⟩
  |error e=>
   rw[hq] at h0
   obtain⟨_,s,e1,_⟩:=put_e0 (fun e' x=>by cases x;have:=popS_err hq;omega) h0
   cases e1
 have both:w.pop.2.e=0→(w'.pop.2.e=0∧Rel pre f w.pop.2.s w'.pop.2.s)∧w.pop.1=w'.pop.1:=fun h0=>by
  obtain⟨a,x,t,hq⟩:=key h0
  obtain⟨b,hR⟩:=h a
  obtain⟨t',hq',hR'⟩:=hR.pop hp hf hq
  unfold WkS.pop
  rw[hq,hq']
  simp only
  rw[put_ok a,put_ok b]
  exact⟨⟨rfl,hR'⟩,trivial⟩
 exact⟨fun h0=>(both h0).1,fun h0=>(both h0).2⟩
theorem RelW.closed {w w':WkS} (hp:risesB 0 pre=some 0) (hf:finB f=true) (h:RelW pre f w w') (h1:w.e=0→1<w.s.ctrls.length):RelW pre f w.closed.2 w'.closed.2∧(w.closed.2.e=0→w.closed.1=w'.closed.1):=by
 have key:w.closed.2.e=0→w.e=0∧∃x t,closeS w.s= .ok (x,t):=fun h0=>by
  unfold WkS.closed at h0
  cases hq:closeS w.s with
  |ok r=>
   obtain⟨x,t⟩:=r
   rw[hq] at h0
   exact⟨(put_e0 (fun _ x=>by cases x) h0).1,x,t,rfl⟩
  |error e=>
   rw[hq] at h0
   obtain⟨_,s,e1,_⟩:=put_e0 (fun e' x=>by cases x;have:=closeS_err hq;omega) h0
   cases e1
 have both:w.closed.2.e=0→(w'.closed.2.e=0∧Rel pre f w.closed.2.s w'.closed.2.s)∧w.closed.1=w'.closed.1:=fun h0=>by
  obtain⟨a,x,t,hq⟩:=key h0
  obtain⟨b,hR⟩:=h a
  obtain⟨t',hq',hR'⟩:=hR.close hp hf (h1 a) hq
  unfold WkS.closed
  rw[hq,hq']
  simp only
  rw[put_ok a,put_ok b]
  exact⟨⟨rfl,hR'⟩,trivial⟩
 exact⟨fun h0=>(both h0).1,fun h0=>(both h0).2⟩
end Go.Proofs.YtfpioigggjnffaaGreatDoor.E
set_option autoImplicit false
namespace Go.Proofs.YtfpioigggjnffaaGreatDoor.E
open Go.Ev
variable {pre:List Ctl} {f:List Int} {acc:Int→Int×Int×Bool} {shape:Int→Option (List Int×Int)} {env env':TEnv}
structure SameEnv (a b:TEnv):Prop where
 types:b.types=a.types
 funcs:b.funcs=a.funcs
 tables:b.tables=a.tables
 mems:b.mems=a.mems
 globals:b.globals=a.globals
 locs:b.locs=a.locs
theorem Rel.topIf {s s':Stk} (h:Rel pre f s s') (e:topIf s=true):topIf s'=true∧1<s.ctrls.length:=by
 obtain⟨d,d',rest,g1,g2,_,_⟩:=h
 unfold Go.Proofs.YtfpioigggjnffaaGreatDoor.E.topIf at e ⊢
 rw[g1] at e ⊢
 cases rest with
 |nil=>simp at e
 |cons a r=>
  rw[List.getLast?_cons_cons] at e
  refine⟨?_,by simp⟩
  have:s'.ctrls.getLast? =(a::r).getLast? :=by
   rw[g2,List.getLast?_append,List.getLast?_cons_cons]
   cases hh:(a::r).getLast? with
   |none=>simp at hh
   |some x=>rfl
  rw[this];exact e
theorem RelW.call {w w':WkS} (hp:risesB 0 pre=some 0) (hf:finB f=true) (he:SameEnv env env') (h:RelW pre f w w') (i:TInstr):RelW pre f (callS env w i) (callS env' w' i):=by
 have ht:typeS env' i.a=typeS env i.a:=by unfold typeS;rw[he.funcs,he.types]
 unfold callS
 simp only
 rw[he.tables,he.types,ht]
 refine RelW.push hp hf (RelW.want hp hf ?_ fun _=>rfl) fun _=>rfl
 by_cases h17:i.op=17
 ·rw[if_pos h17,if_pos h17,if_pos h17];exact(h.must (fun _ x=>x) (by decide)).want hp hf fun _=>rfl
 ·rw[if_neg h17,if_neg h17,if_neg h17];exact h.must (fun _ x=>x) (by decide)
end Go.Proofs.YtfpioigggjnffaaGreatDoor.E
set_option autoImplicit false
namespace Go.Proofs.YtfpioigggjnffaaGreatDoor.E
open Go.Ev
variable {pre:List Ctl} {f:List Int} {acc:Int→Int×Int×Bool} {shape:Int→Option (List Int×Int)} {env env':TEnv} {sane:TInstr→Bool}
theorem RelW.mem {w w':WkS} (hp:risesB 0 pre=some 0) (hf:finB f=true) (he:SameEnv env env') (h:RelW pre f w w') (i:TInstr):RelW pre f (memoryS acc env w i) (memoryS acc env' w' i):=by
 unfold memoryS
 simp only
 rw[he.mems]
 have hm:RelW pre f (w.must (decide (0<env.mems)) 6) (w'.must (decide (0<env.mems)) 6):=h.must (fun _ x=>x) (by decide)
 by_cases h63:i.op=63
 ·rw[if_pos h63,if_pos h63];exact hm.push hp hf fun _=>rfl
 ·rw[if_neg h63,if_neg h63]
  by_cases h64:i.op=64
  ·rw[if_pos h64,if_pos h64];exact(hm.want hp hf fun _=>rfl).push hp hf fun _=>rfl
  ·rw[if_neg h64,if_neg h64]
   have hn:=hm.must (b:=decide (i.a≤3)&&decide ((2:Int)^i.a.toNat≤(acc i.op).2.1)) (fun _ x=>x) (e:=5) (by decide)
   cases(acc i.op).2.2 with
   |true=>exact hn.want hp hf fun _=>rfl
   |false=>exact(hn.want hp hf fun _=>rfl).push hp hf fun _=>rfl
end Go.Proofs.YtfpioigggjnffaaGreatDoor.E
set_option autoImplicit false
namespace Go.Proofs.YtfpioigggjnffaaGreatDoor.E
open Go.Ev
variable {acc:Int→Int×Int×Bool} {shape:Int→Option (List Int×Int)} {env:TEnv} {sane:TInstr→Bool}
theorem labelS_err {s:Stk} {n e:Int} (x:labelS s n= .error e):e≠0:=by
 unfold labelS at x
 split at x
 ·cases x;decide
 ·split at x
  ·cases x;decide
  ·split at x
   ·cases x;decide
   ·cases x
theorem label_e0 {w:WkS} {n:Int} (h:(w.label n).2.e=0):w.e=0∧∃l,labelS w.s n= .ok l∧w.label n=(l,w):=by
 unfold WkS.label at h ⊢
 cases hl:labelS w.s n with
 |ok l=>rw[hl] at h;exact⟨h,l,rfl,rfl⟩
 |error e=>
  rw[hl] at h
  exact absurd (must_true (labelS_err hl) h) (by decide)
theorem Rel.label {s s':Stk} {n:Int} {l:List Int} (h:Rel [] [] s s') (e:labelS s n= .ok l):labelS s' n= .ok l:=by
 have hs:saneS s=true:=by
  unfold labelS at e
  cases hh:saneS s with
  |true=>rfl
  |false=>rw[hh] at e;cases e
 have hs':=h.sane (pre:=[]) (f:=[]) rfl rfl hs
 obtain⟨d,d',rest,g1,g2,_,_⟩:=h
 unfold labelS at e ⊢
 rw[hs] at e
 rw[hs']
 simp only[Bool.not_true,Bool.false_eq_true,if_false] at e ⊢
 rw[g1] at e
 rw[g2]
 simp only[List.nil_append,List.length_cons] at e ⊢
 split at e
 ·cases e
 ·rename_i hn
  rw[if_neg hn]
  generalize rest.length+1-1-n.toNat=k at e ⊢
  cases k with
  |zero=>simpa using e
  |succ k=>simpa using e
theorem RelW.label {w w':WkS} (h:RelW [] [] w w') (n:Int):RelW [] [] (w.label n).2 (w'.label n).2∧((w.label n).2.e=0→(w.label n).1=(w'.label n).1):=by
 have both:(w.label n).2.e=0→((w'.label n).2.e=0∧Rel [] [] (w.label n).2.s (w'.label n).2.s)∧(w.label n).1=(w'.label n).1:=fun h0=>by
  obtain⟨a,l,hl,e1⟩:=label_e0 h0
  obtain⟨b,hR⟩:=h a
  have e2:w'.label n=(l,w'):=by unfold WkS.label;rw[hR.label hl]
  rw[e1,e2]
  exact⟨⟨b,hR⟩,rfl⟩
 exact⟨fun h0=>(both h0).1,fun h0=>(both h0).2⟩
theorem RelW.labels {w w':WkS} {t t' l:List Int} (h:RelW [] [] w w') (ht:w.e=0→t=t'):RelW [] [] (labelsS w t l) (labelsS w' t' l):=by
 induction l generalizing w w' with
 |nil=>exact h
 |cons n l ih=>
  simp only[labelsS]
  obtain⟨h1,h2⟩:=h.label n
  refine ih (h1.must (fun h0 hb=> ?_) (by decide)) fun h0=>ht (label_e0 (must_e0 (by decide) h0).1).1
  rw[←h2 h0,←ht (label_e0 h0).1];exact hb
end Go.Proofs.YtfpioigggjnffaaGreatDoor.E
set_option autoImplicit false
set_option maxRecDepth 100000
set_option maxHeartbeats 4000000
set_option pp.maxSteps 20000
namespace Go.Proofs.YtfpioigggjnffaaGreatDoor.E
open Go.Ev
theorem renL_wk (fr:Nat→Option Nat) (fs:Nat→Nat→Option Nat) (w:WkS):renL fr fs (wk w)=wk w:=rfl
theorem refsL_wk (w:WkS):refsL (wk w)=[]:=rfl
theorem wk_0 (w:WkS):(wk w)[0]? =some (.d (.list (byt w.s.vals))):=rfl
theorem wk_1 (w:WkS):(wk w)[1]? =some (.d (.list (ctlds w.s.ctrls))):=rfl
theorem wk_2 (w:WkS):(wk w)[2]? =some (.d (.int .i64 w.e)):=rfl
theorem wk_stk (w:WkS):takeN (wk w) 2=some [.d (.list (byt w.s.vals)), .d (.list (ctlds w.s.ctrls))]:=rfl
attribute [go_sem] renL_wk refsL_wk wk_0 wk_1 wk_2 wk_stk
theorem rchosen_ev (fu n b:Nat) (w:WkS) (hb:b+100<fu) (hm:b+100<1000000) (h:Rm b w.s) (i:TInstr):evF (G fu) (n+7) 56 [.ptr 0 0, .d i.d] [.cells (wk w)]=some (.tup [],[.cells (wk (chosenS w i))]):=by
 have P0:=wpop_ev fu n w (h.ok (by omega) (by omega))
 have I:=i32_ev fu (n+5)
 have P1:=wwant_ev fu (n+1) w [127] (h.ok (by omega) (by omega)) (by simp;omega) (by simp)
 have h1:=h.want [127]
 have P2:=wpop_ev fu n (w.want [127]) (h1.ok (by omega) (by omega))
 have P3:=wpop_ev fu n (w.want [127]).pop.2 (h1.pop.ok (by omega) (by omega))
 have P4:=wmust_ev fu (n+5) (w.want [127]).pop.2.pop.2 ((w.want [127]).pop.1==0||(w.want [127]).pop.2.pop.1==0||(w.want [127]).pop.1==(w.want [127]).pop.2.pop.1) 5
 have h4:Rm b ((w.want [127]).pop.2.pop.2.must ((w.want [127]).pop.1==0||(w.want [127]).pop.2.pop.1==0||(w.want [127]).pop.1==(w.want [127]).pop.2.pop.1) 5).s:=(h1.pop.pop).must _ _
 have P5:=fun x=>wpush_ev fu n ((w.want [127]).pop.2.pop.2.must ((w.want [127]).pop.1==0||(w.want [127]).pop.2.pop.1==0||(w.want [127]).pop.1==(w.want [127]).pop.2.pop.1) 5) [x] (h4.ok (by omega) (by omega)) (by simp;omega) (by simp)
 unfold chosenS
 rw[evF.eq_2,evX.eq_def,Gext,exts_no _ (f:=56) (by decide),GP,Tryz.func56];simp only[Tryz.f56,evB]
 by_cases h26:i.op=26
 ·rw[if_pos h26]
  simp only[go_sem,Nat.reduceAdd,Nat.reduceMul,Nat.reduceSub,Nat.reduceLT,Nat.reduceLeDiff,Nat.reduceEqDiff,Nat.reduceBEq,Nat.reduceBeqDiff,Int.reduceEq,Int.reduceLT,Int.reduceLE,Int.reduceToNat,Int.reduceNeg,Int.reduceAdd,Int.reduceSub,Int.reduceMul,reduceIte,reduceCtorEq,Nat.reducePow,Nat.reduceDiv,Nat.reduceMod,Int.reduceBEq,TInstr.d,h26,P0]
 rw[if_neg h26]
 simp only[byt1] at P1 P5 I
 generalize(w.want [127]).pop.1=x at*
 generalize(w.want [127]).pop.2.pop.1=y at*
 by_cases hx:x=0
 ·subst hx
  simp only[beq_self_eq_true,Bool.true_or] at P4 P5
  simp only[go_sem,Nat.reduceAdd,Nat.reduceMul,Nat.reduceSub,Nat.reduceLT,Nat.reduceLeDiff,Nat.reduceEqDiff,Nat.reduceBEq,Nat.reduceBeqDiff,Int.reduceEq,Int.reduceLT,Int.reduceLE,Int.reduceToNat,Int.reduceNeg,Int.reduceAdd,Int.reduceSub,Int.reduceMul,reduceIte,reduceCtorEq,Nat.reducePow,Nat.reduceDiv,Nat.reduceMod,Int.reduceBEq,TInstr.d,h26,I,P1,P2,P3,P4,P5]
 ·by_cases hy:y=0
  ·subst hy
   simp only[beq_self_eq_true,Bool.or_true,Bool.true_or] at P4 P5
   simp only[go_sem,Nat.reduceAdd,Nat.reduceMul,Nat.reduceSub,Nat.reduceLT,Nat.reduceLeDiff,Nat.reduceEqDiff,Nat.reduceBEq,Nat.reduceBeqDiff,Int.reduceEq,Int.reduceLT,Int.reduceLE,Int.reduceToNat,Int.reduceNeg,Int.reduceAdd,Int.reduceSub,Int.reduceMul,reduceIte,reduceCtorEq,Nat.reducePow,Nat.reduceDiv,Nat.reduceMod,Int.reduceBEq,TInstr.d,h26,I,P1,P2,P3,P4,P5,hx]
  ·by_cases hxy:x=y
   ·subst hxy
    have e1:(x==0)=false:=by simpa using hx
    simp only[e1,beq_self_eq_true,Bool.or_true,Bool.false_or] at P4 P5
    simp only[go_sem,Nat.reduceAdd,Nat.reduceMul,Nat.reduceSub,Nat.reduceLT,Nat.reduceLeDiff,Nat.reduceEqDiff,Nat.reduceBEq,Nat.reduceBeqDiff,Int.reduceEq,Int.reduceLT,Int.reduceLE,Int.reduceToNat,Int.reduceNeg,Int.reduceAdd,Int.reduceSub,Int.reduceMul,reduceIte,reduceCtorEq,Nat.reducePow,Nat.reduceDiv,Nat.reduceMod,Int.reduceBEq,TInstr.d,h26,I,P1,P2,P3,P4,P5,hx,e1]
   ·have e1:(x==0)=false:=by simpa using hx
    have e2:(y==0)=false:=by simpa using hy
    have e3:(x==y)=false:=by simpa using hxy
    simp only[e1,e2,e3,Bool.or_false] at P4 P5
    simp only[go_sem,Nat.reduceAdd,Nat.reduceMul,Nat.reduceSub,Nat.reduceLT,Nat.reduceLeDiff,Nat.reduceEqDiff,Nat.reduceBEq,Nat.reduceBeqDiff,Int.reduceEq,Int.reduceLT,Int.reduceLE,Int.reduceToNat,Int.reduceNeg,Int.reduceAdd,Int.reduceSub,Int.reduceMul,reduceIte,reduceCtorEq,Nat.reducePow,Nat.reduceDiv,Nat.reduceMod,Int.reduceBEq,TInstr.d,h26,I,P1,P2,P3,P4,P5,hx,hy,hxy,e1,e2,e3]
theorem wlabel_ev (fu n b:Nat) (w:WkS) (hb:b+100<fu) (hm:b+100<1000000) (h:Rm b w.s) (k:Int) (hk: -9223372036854775808≤k∧k≤9223372036854775807):
 evF (G fu) (n+6) 117 [.ptr 0 0, .d (.int .i64 k)] [.cells (wk w)]=some (.d (.list (byt (w.label k).1)),[.cells (wk (w.label k).2)])∨((w.label k).1=[]∧evF (G fu) (n+6) 117 [.ptr 0 0, .d (.int .i64 k)] [.cells (wk w)]=some (.row 1 0 0 0,[.cells (wk (w.label k).2), .row 1 [] 0 false false])):=by
 have R:=r9label_ev fu (n+2) w.s k (h.ok (by omega) (by omega)) hk
 rw[evF.eq_2,evX.eq_def,Gext,exts_no _ (f:=117) (by decide),GP,Tryz.func117];simp only[Tryz.f117,evB]
 unfold WkS.label
 cases hr:labelS w.s k with
 |error e=>
  rw[hr] at R
  have he:=labelS_err hr
  have M:=wmust_ev fu (n+4) w false e
  simp only[labR9,Stk.dd] at R
  right
  refine⟨rfl, ?_⟩
  simp only[go_sem,Nat.reduceAdd,Nat.reduceMul,Nat.reduceSub,Nat.reduceLT,Nat.reduceLeDiff,Nat.reduceEqDiff,Nat.reduceBEq,Nat.reduceBeqDiff,Int.reduceEq,Int.reduceLT,Int.reduceLE,Int.reduceToNat,Int.reduceNeg,Int.reduceAdd,Int.reduceSub,Int.reduceMul,reduceIte,reduceCtorEq,Nat.reducePow,Nat.reduceDiv,Nat.reduceMod,Int.reduceBEq,R,M,he]
 |ok l=>
  rw[hr] at R
  have M:=wmust_ev fu (n+4) w true 0
  have hM:w.must true 0=w:=by simp[WkS.must]
  rw[hM] at M
  simp only[labR9,Stk.dd] at R
  have hl:=hr
  unfold labelS at hl
  split at hl
  ·cases hl
  ·split at hl
   ·cases hl
   ·cases hg:w.s.ctrls[w.s.ctrls.length-1-k.toNat]? with
    |none=>rw[hg] at hl;cases hl
    |some c=>
     rw[hg] at hl R
     simp only[Except.ok.injEq] at hl
     by_cases h3:c.op=3
     ·rw[if_pos h3] at hl
      subst hl
      simp only[h3,decide_true,if_true] at R
      right
      refine⟨rfl, ?_⟩
      simp only[go_sem,Nat.reduceAdd,Nat.reduceMul,Nat.reduceSub,Nat.reduceLT,Nat.reduceLeDiff,Nat.reduceEqDiff,Nat.reduceBEq,Nat.reduceBeqDiff,Int.reduceEq,Int.reduceLT,Int.reduceLE,Int.reduceToNat,Int.reduceNeg,Int.reduceAdd,Int.reduceSub,Int.reduceMul,reduceIte,reduceCtorEq,Nat.reducePow,Nat.reduceDiv,Nat.reduceMod,Int.reduceBEq,R,M]
     ·simp only[h3,decide_false,Bool.false_eq_true,if_false] at R
      left
      simp only[go_sem,Nat.reduceAdd,Nat.reduceMul,Nat.reduceSub,Nat.reduceLT,Nat.reduceLeDiff,Nat.reduceEqDiff,Nat.reduceBEq,Nat.reduceBeqDiff,Int.reduceEq,Int.reduceLT,Int.reduceLE,Int.reduceToNat,Int.reduceNeg,Int.reduceAdd,Int.reduceSub,Int.reduceMul,reduceIte,reduceCtorEq,Nat.reducePow,Nat.reduceDiv,Nat.reduceMod,Int.reduceBEq,R,M]
theorem rnested_ev (fu n b:Nat) (w:WkS) (hb:b+100<fu) (hm:b+100<1000000) (h:Rm b w.s) (i:TInstr):evF (G fu) (n+7) 53 [.ptr 0 0, .d i.d] [.cells (wk w)]=some (.tup [],[.cells (wk (nestedS w i))]):=by
 have I:=i32_ev fu (n+5)
 have g2:=h.2
 have hll:(leftOf i).length≤1:=by unfold leftOf;split<;>simp
 unfold nestedS
 rw[evF.eq_2,evX.eq_def,Gext,exts_no _ (f:=53) (by decide),GP,Tryz.func53];simp only[Tryz.f53,evB]
 simp only[byt1] at I
 have sl:sizedAll 1 [D.int .u8 (IntKind.wrap .u8 i.a)]=true:=rfl
 have hW:IntKind.wrap .u8 i.a=i.a%256:=wrap_u8_mod _
 by_cases h4:i.op=4
 ·rw[if_pos h4]
  have P1:=wwant_ev fu (n+1) w [127] (h.ok (by omega) (by omega)) (by simp;omega) (by simp)
  have P2:=wopen_ev fu n (w.want [127]) 4 (leftOf i) ((h.want [127]).ok (by omega) (by omega)) (by omega)
  unfold leftOf at P2 ⊢
  by_cases a0:i.a=0
  ·simp only[a0,if_true,List.map_nil] at P2 ⊢
   simp only[byt1] at P1
   simp only[go_sem,Nat.reduceAdd,Nat.reduceMul,Nat.reduceSub,Nat.reduceLT,Nat.reduceLeDiff,Nat.reduceEqDiff,Nat.reduceBEq,Nat.reduceBeqDiff,Int.reduceEq,Int.reduceLT,Int.reduceLE,Int.reduceToNat,Int.reduceNeg,Int.reduceAdd,Int.reduceSub,Int.reduceMul,reduceIte,reduceCtorEq,Nat.reducePow,Nat.reduceDiv,Nat.reduceMod,Int.reduceBEq,TInstr.d,h4,a0,ctlds_len,I,P1,P2]
  ·simp only[a0,if_false,byt1] at P1 P2 ⊢
   simp only[go_sem,Nat.reduceAdd,Nat.reduceMul,Nat.reduceSub,Nat.reduceLT,Nat.reduceLeDiff,Nat.reduceEqDiff,Nat.reduceBEq,Nat.reduceBeqDiff,Int.reduceEq,Int.reduceLT,Int.reduceLE,Int.reduceToNat,Int.reduceNeg,Int.reduceAdd,Int.reduceSub,Int.reduceMul,reduceIte,reduceCtorEq,Nat.reducePow,Nat.reduceDiv,Nat.reduceMod,Int.reduceBEq,TInstr.d,h4,a0,ctlds_len,I,P1,P2,hW]
 rw[if_neg h4]
 by_cases h5:i.op=5
 ·rw[if_pos h5]
  have P1:=wmust_ev fu (n+5) w (topIf w.s) 5
  have h1:Rm b (w.must (topIf w.s) 5).s:=h.must _ _
  have P2:=wclosed_ev fu n (w.must (topIf w.s) 5) (h1.ok (by omega) (by omega)) (by omega)
  have h2:=h1.closed
  have hl:=closed_len (w.must (topIf w.s) 5)
  have P3:=wopen_ev fu n (w.must (topIf w.s) 5).closed.2 5 (w.must (topIf w.s) 5).closed.1.fin (h2.ok (by omega) (by omega)) (by omega)
  generalize hw1:w.must (topIf w.s) 5=w1 at*
  rw[topIf_get] at P1
  by_cases hp:0<w.s.ctrls.length
  ·have hx:(ctlds w.s.ctrls)[w.s.ctrls.length-1]? =some (w.s.ctrls.getD (w.s.ctrls.length-1) ctl0).dd:=getD_map (by omega)
   have Wn:IntKind.wrap .i64 ((w.s.ctrls.length:Int)-1)=((w.s.ctrls.length-1:Nat):Int):=by have:=h.2;rw[wrap_i64 (by omega) (by omega)];omega
   have hpI:(0:Int)<w.s.ctrls.length:=by omega
   generalize w.s.ctrls.getD (w.s.ctrls.length-1) ctl0=c at*
   simp only[hp,decide_true,Bool.true_and] at P1
   simp only[Ctl.dd] at hx P2
   by_cases a0:i.a=0
   ·by_cases h4:c.op=4
    ·simp only[h4,decide_true] at P1
     simp only[go_sem,Nat.reduceAdd,Nat.reduceMul,Nat.reduceSub,Nat.reduceLT,Nat.reduceLeDiff,Nat.reduceEqDiff,Nat.reduceBEq,Nat.reduceBeqDiff,Int.reduceEq,Int.reduceLT,Int.reduceLE,Int.reduceToNat,Int.reduceNeg,Int.reduceAdd,Int.reduceSub,Int.reduceMul,reduceIte,reduceCtorEq,Nat.reducePow,Nat.reduceDiv,Nat.reduceMod,Int.reduceBEq,TInstr.d,h5,a0,ctlds_len,hpI,Wn,idx,hx,P1,P2,P3,h4]
    ·simp only[h4,decide_false] at P1
     simp only[go_sem,Nat.reduceAdd,Nat.reduceMul,Nat.reduceSub,Nat.reduceLT,Nat.reduceLeDiff,Nat.reduceEqDiff,Nat.reduceBEq,Nat.reduceBeqDiff,Int.reduceEq,Int.reduceLT,Int.reduceLE,Int.reduceToNat,Int.reduceNeg,Int.reduceAdd,Int.reduceSub,Int.reduceMul,reduceIte,reduceCtorEq,Nat.reducePow,Nat.reduceDiv,Nat.reduceMod,Int.reduceBEq,TInstr.d,h5,a0,ctlds_len,hpI,Wn,idx,hx,P1,P2,P3,h4]
   ·by_cases h4:c.op=4
    ·simp only[h4,decide_true] at P1
     simp only[go_sem,Nat.reduceAdd,Nat.reduceMul,Nat.reduceSub,Nat.reduceLT,Nat.reduceLeDiff,Nat.reduceEqDiff,Nat.reduceBEq,Nat.reduceBeqDiff,Int.reduceEq,Int.reduceLT,Int.reduceLE,Int.reduceToNat,Int.reduceNeg,Int.reduceAdd,Int.reduceSub,Int.reduceMul,reduceIte,reduceCtorEq,Nat.reducePow,Nat.reduceDiv,Nat.reduceMod,Int.reduceBEq,TInstr.d,h5,a0,ctlds_len,hpI,Wn,idx,hx,P1,P2,P3,h4]
    ·simp only[h4,decide_false] at P1
     simp only[go_sem,Nat.reduceAdd,Nat.reduceMul,Nat.reduceSub,Nat.reduceLT,Nat.reduceLeDiff,Nat.reduceEqDiff,Nat.reduceBEq,Nat.reduceBeqDiff,Int.reduceEq,Int.reduceLT,Int.reduceLE,Int.reduceToNat,Int.reduceNeg,Int.reduceAdd,Int.reduceSub,Int.reduceMul,reduceIte,reduceCtorEq,Nat.reducePow,Nat.reduceDiv,Nat.reduceMod,Int.reduceBEq,TInstr.d,h5,a0,ctlds_len,hpI,Wn,idx,hx,P1,P2,P3,h4]
  ·have hpI: ¬(0:Int)<w.s.ctrls.length:=by omega
   simp only[hp,decide_false,Bool.false_and] at P1
   simp only[Ctl.dd] at P2
   by_cases a0:i.a=0
   ·simp only[go_sem,Nat.reduceAdd,Nat.reduceMul,Nat.reduceSub,Nat.reduceLT,Nat.reduceLeDiff,Nat.reduceEqDiff,Nat.reduceBEq,Nat.reduceBeqDiff,Int.reduceEq,Int.reduceLT,Int.reduceLE,Int.reduceToNat,Int.reduceNeg,Int.reduceAdd,Int.reduceSub,Int.reduceMul,reduceIte,reduceCtorEq,Nat.reducePow,Nat.reduceDiv,Nat.reduceMod,Int.reduceBEq,TInstr.d,h5,a0,ctlds_len,hpI,P1,P2,P3]
   ·simp only[go_sem,Nat.reduceAdd,Nat.reduceMul,Nat.reduceSub,Nat.reduceLT,Nat.reduceLeDiff,Nat.reduceEqDiff,Nat.reduceBEq,Nat.reduceBeqDiff,Int.reduceEq,Int.reduceLT,Int.reduceLE,Int.reduceToNat,Int.reduceNeg,Int.reduceAdd,Int.reduceSub,Int.reduceMul,reduceIte,reduceCtorEq,Nat.reducePow,Nat.reduceDiv,Nat.reduceMod,Int.reduceBEq,TInstr.d,h5,a0,ctlds_len,hpI,P1,P2,P3]
 rw[if_neg h5]
 by_cases h11:i.op=11
 ·rw[if_pos h11]
  have P1:=wmust_ev fu (n+5) w (decide (1<w.s.ctrls.length)) 5
  have h1:Rm b (w.must (decide (1<w.s.ctrls.length)) 5).s:=h.must _ _
  have P2:=wclosed_ev fu n (w.must (decide (1<w.s.ctrls.length)) 5) (h1.ok (by omega) (by omega)) (by omega)
  have h2:=h1.closed
  have hl:=closed_len (w.must (decide (1<w.s.ctrls.length)) 5)
  have P3:=wmust_ev fu (n+5) (w.must (decide (1<w.s.ctrls.length)) 5).closed.2 ((w.must (decide (1<w.s.ctrls.length)) 5).closed.1.op !=4||(w.must (decide (1<w.s.ctrls.length)) 5).closed.1.fin.isEmpty) 5
  have h3:=h2.must ((w.must (decide (1<w.s.ctrls.length)) 5).closed.1.op !=4||(w.must (decide (1<w.s.ctrls.length)) 5).closed.1.fin.isEmpty) 5
  have P4:=wpush_ev fu n ((w.must (decide (1<w.s.ctrls.length)) 5).closed.2.must ((w.must (decide (1<w.s.ctrls.length)) 5).closed.1.op !=4||(w.must (decide (1<w.s.ctrls.length)) 5).closed.1.fin.isEmpty) 5) (w.must (decide (1<w.s.ctrls.length)) 5).closed.1.fin (h3.ok (by omega) (by omega)) (by omega) (by omega)
  have hd:decide ((1:Int)<(w.s.ctrls.length:Int))=decide (1<w.s.ctrls.length):=by
   by_cases hc:1<w.s.ctrls.length
   ·have:(1:Int)<w.s.ctrls.length:=by omega
    simp[hc,this]
   ·have: ¬(1:Int)<w.s.ctrls.length:=by omega
    simp[hc,this]
  generalize hw1:w.must (decide (1<w.s.ctrls.length)) 5=w1 at*
  generalize w1.closed.1=c at*
  simp only[Ctl.dd] at P2
  by_cases a0:i.a=0
  ·by_cases h4:c.op=4
   ·have e4:(c.op !=4)=false:=by simpa using h4
    by_cases h6:c.fin=[]
    ·simp only[e4,h6,List.isEmpty_nil,Bool.or_true,byt0] at P3 P4
     simp only[go_sem,Nat.reduceAdd,Nat.reduceMul,Nat.reduceSub,Nat.reduceLT,Nat.reduceLeDiff,Nat.reduceEqDiff,Nat.reduceBEq,Nat.reduceBeqDiff,Int.reduceEq,Int.reduceLT,Int.reduceLE,Int.reduceToNat,Int.reduceNeg,Int.reduceAdd,Int.reduceSub,Int.reduceMul,reduceIte,reduceCtorEq,Nat.reducePow,Nat.reduceDiv,Nat.reduceMod,Int.reduceBEq,TInstr.d,h11,a0,ctlds_len,hd,P1,P2,P3,P4,h4,h6,bne,List.map_nil,byt0]
    ·have e5:c.fin.isEmpty=false:=by simpa using h6
     have e6: ¬(c.fin.length:Int)=0:=by intro hh;exact h6 (List.length_eq_zero_iff.1 (by omega))
     simp only[e4,e5,Bool.or_false] at P3 P4
     simp only[go_sem,Nat.reduceAdd,Nat.reduceMul,Nat.reduceSub,Nat.reduceLT,Nat.reduceLeDiff,Nat.reduceEqDiff,Nat.reduceBEq,Nat.reduceBeqDiff,Int.reduceEq,Int.reduceLT,Int.reduceLE,Int.reduceToNat,Int.reduceNeg,Int.reduceAdd,Int.reduceSub,Int.reduceMul,reduceIte,reduceCtorEq,Nat.reducePow,Nat.reduceDiv,Nat.reduceMod,Int.reduceBEq,TInstr.d,h11,a0,ctlds_len,hd,P1,P2,P3,P4,h4,e5,e6,byt_len,bne]
   ·have e4:(c.op !=4)=true:=by simpa using h4
    simp only[e4,Bool.true_or] at P3 P4
    simp only[go_sem,Nat.reduceAdd,Nat.reduceMul,Nat.reduceSub,Nat.reduceLT,Nat.reduceLeDiff,Nat.reduceEqDiff,Nat.reduceBEq,Nat.reduceBeqDiff,Int.reduceEq,Int.reduceLT,Int.reduceLE,Int.reduceToNat,Int.reduceNeg,Int.reduceAdd,Int.reduceSub,Int.reduceMul,reduceIte,reduceCtorEq,Nat.reducePow,Nat.reduceDiv,Nat.reduceMod,Int.reduceBEq,TInstr.d,h11,a0,ctlds_len,hd,P1,P2,P3,P4,h4,e4]
  ·by_cases h4:c.op=4
   ·have e4:(c.op !=4)=false:=by simpa using h4
    by_cases h6:c.fin=[]
    ·simp only[e4,h6,List.isEmpty_nil,Bool.or_true,byt0] at P3 P4
     simp only[go_sem,Nat.reduceAdd,Nat.reduceMul,Nat.reduceSub,Nat.reduceLT,Nat.reduceLeDiff,Nat.reduceEqDiff,Nat.reduceBEq,Nat.reduceBeqDiff,Int.reduceEq,Int.reduceLT,Int.reduceLE,Int.reduceToNat,Int.reduceNeg,Int.reduceAdd,Int.reduceSub,Int.reduceMul,reduceIte,reduceCtorEq,Nat.reducePow,Nat.reduceDiv,Nat.reduceMod,Int.reduceBEq,TInstr.d,h11,a0,ctlds_len,hd,P1,P2,P3,P4,h4,h6,bne,List.map_nil,byt0]
    ·have e5:c.fin.isEmpty=false:=by simpa using h6
     have e6: ¬(c.fin.length:Int)=0:=by intro hh;exact h6 (List.length_eq_zero_iff.1 (by omega))
     simp only[e4,e5,Bool.or_false] at P3 P4
     simp only[go_sem,Nat.reduceAdd,Nat.reduceMul,Nat.reduceSub,Nat.reduceLT,Nat.reduceLeDiff,Nat.reduceEqDiff,Nat.reduceBEq,Nat.reduceBeqDiff,Int.reduceEq,Int.reduceLT,Int.reduceLE,Int.reduceToNat,Int.reduceNeg,Int.reduceAdd,Int.reduceSub,Int.reduceMul,reduceIte,reduceCtorEq,Nat.reducePow,Nat.reduceDiv,Nat.reduceMod,Int.reduceBEq,TInstr.d,h11,a0,ctlds_len,hd,P1,P2,P3,P4,h4,e5,e6,byt_len,bne]
   ·have e4:(c.op !=4)=true:=by simpa using h4
    simp only[e4,Bool.true_or] at P3 P4
    simp only[go_sem,Nat.reduceAdd,Nat.reduceMul,Nat.reduceSub,Nat.reduceLT,Nat.reduceLeDiff,Nat.reduceEqDiff,Nat.reduceBEq,Nat.reduceBeqDiff,Int.reduceEq,Int.reduceLT,Int.reduceLE,Int.reduceToNat,Int.reduceNeg,Int.reduceAdd,Int.reduceSub,Int.reduceMul,reduceIte,reduceCtorEq,Nat.reducePow,Nat.reduceDiv,Nat.reduceMod,Int.reduceBEq,TInstr.d,h11,a0,ctlds_len,hd,P1,P2,P3,P4,h4,e4]
 rw[if_neg h11]
 have P2:=wopen_ev fu n w i.op (leftOf i) (h.ok (by omega) (by omega)) (by omega)
 unfold leftOf at P2 ⊢
 by_cases a0:i.a=0
 ·simp only[a0,if_true,List.map_nil] at P2 ⊢
  simp only[go_sem,Nat.reduceAdd,Nat.reduceMul,Nat.reduceSub,Nat.reduceLT,Nat.reduceLeDiff,Nat.reduceEqDiff,Nat.reduceBEq,Nat.reduceBeqDiff,Int.reduceEq,Int.reduceLT,Int.reduceLE,Int.reduceToNat,Int.reduceNeg,Int.reduceAdd,Int.reduceSub,Int.reduceMul,reduceIte,reduceCtorEq,Nat.reducePow,Nat.reduceDiv,Nat.reduceMod,Int.reduceBEq,TInstr.d,h4,h5,h11,a0,ctlds_len,P2]
 ·simp only[a0,if_false,byt1] at P2 ⊢
  simp only[go_sem,Nat.reduceAdd,Nat.reduceMul,Nat.reduceSub,Nat.reduceLT,Nat.reduceLeDiff,Nat.reduceEqDiff,Nat.reduceBEq,Nat.reduceBeqDiff,Int.reduceEq,Int.reduceLT,Int.reduceLE,Int.reduceToNat,Int.reduceNeg,Int.reduceAdd,Int.reduceSub,Int.reduceMul,reduceIte,reduceCtorEq,Nat.reducePow,Nat.reduceDiv,Nat.reduceMod,Int.reduceBEq,TInstr.d,h4,h5,h11,a0,ctlds_len,P2,hW]
end Go.Proofs.YtfpioigggjnffaaGreatDoor.E
