/- Q2, C2, C3. -/
import Derived.Test.YtfpioigggjnffaaGreatDoorC1
set_option linter.unnecessarySimpa false
set_option linter.unusedSimpArgs false
set_option linter.unusedVariables false
set_option autoImplicit false
set_option maxRecDepth 100000
set_option maxHeartbeats 4000000
set_option pp.maxSteps 20000
namespace Go.Proofs.YtfpioigggjnffaaGreatDoor.E
open Go.Ev
theorem ctlds_sized (l:List Ctl):sizedAll 4 (ctlds l)=true:=sizedAll_map (fun x=>⟨_,rfl⟩) l
theorem cloneC_ev (fu n:Nat) (l:List Ctl) (h:l.length≤1099511627776):evF (G fu) (n+1) 126 [.d (.list (ctlds l))] []=some (.row 0 0 0 l.length,[.row 4 (ctlds l) 0 false false]):=by
 rw[evF.eq_2,evX.eq_def,Gext,exts_126]
 cases l with
 |nil=>rfl
 |cons x l=>
  have hs:=ctlds_sized (x::l)
  have hl:=ctlds_len (x::l)
  simp only[ctlds,List.map_cons] at hs hl ⊢
  simp only[cloneX,G0P,Tryz.func126]
  simp only[Tryz.f126,evB]
  have h':l.length≤1099511627775:=by simp at h;omega
  simp only[go_sem,Nat.reduceAdd,Nat.reduceMul,Nat.reduceSub,Nat.reduceLT,Nat.reduceLeDiff,Nat.reduceEqDiff,Nat.reduceBEq,Nat.reduceBeqDiff,Int.reduceEq,Int.reduceLT,Int.reduceLE,Int.reduceToNat,Int.reduceNeg,Int.reduceAdd,Int.reduceSub,Int.reduceMul,reduceIte,reduceCtorEq,Nat.reducePow,Nat.reduceDiv,Nat.reduceMod,Int.reduceBEq,hs,hl,h,h']
def wcells (lv lc j:Nat):List V:=[.row 1 0 0 lv, .row 2 0 0 lc, .eptr 2 0 j 0]
def beginR (s:Stk):Option Res:=match topC s with
 | .error e=>some (.tup [.agg [.nilsl, .nilsl, .nilp], .d (.int .i64 e)],[])
 | .ok _=>some (.tup [.agg [.row 0 0 0 s.vals.length, .row 1 0 0 s.ctrls.length, .eptr 1 0 (s.ctrls.length-1) 0], .d (.int .i64 0)],[.row 1 (byt s.vals) 0 false false, .row 4 (ctlds s.ctrls) 0 false false])
theorem begin_ev (fu n:Nat) (s:Stk) (h:s.vals.length<fu) (hc:s.ctrls.length<fu) (hs:s.vals.length<1000000) (hcs:s.ctrls.length<1000000):evF (G fu) (n+7) 131 [.d s.dd] []=beginR s:=by
 have S:=saneS_ev fu n s h hc hs hcs
 have C1:=clone_ev fu (n+5) s.vals (by omega)
 have C2:=cloneC_ev fu (n+5) s.ctrls (by omega)
 simp only[Stk.dd] at S
 unfold beginR topC
 rw[evF.eq_2,evX.eq_def,Gext,exts_no _ (f:=131) (by decide),GP,Tryz.func131];simp only[Tryz.f131,evB]
 cases hsn:saneS s with
 |false=>
  rw[hsn] at S
  simp only[go_sem,Nat.reduceAdd,Nat.reduceMul,Nat.reduceSub,Nat.reduceLT,Nat.reduceLeDiff,Nat.reduceEqDiff,Nat.reduceBEq,Nat.reduceBeqDiff,Int.reduceEq,Int.reduceLT,Int.reduceLE,Int.reduceToNat,Int.reduceNeg,Int.reduceAdd,Int.reduceSub,Int.reduceMul,reduceIte,reduceCtorEq,Nat.reducePow,Nat.reduceDiv,Nat.reduceMod,Int.reduceBEq,Stk.dd,S]
 |true=>
  rw[hsn] at S
  cases hcl:s.ctrls.getLast? with
  |none=>
   have h0:(s.ctrls.length:Int)=0:=by rw[List.getLast?_eq_none_iff] at hcl;rw[hcl];rfl
   simp only[go_sem,Nat.reduceAdd,Nat.reduceMul,Nat.reduceSub,Nat.reduceLT,Nat.reduceLeDiff,Nat.reduceEqDiff,Nat.reduceBEq,Nat.reduceBeqDiff,Int.reduceEq,Int.reduceLT,Int.reduceLE,Int.reduceToNat,Int.reduceNeg,Int.reduceAdd,Int.reduceSub,Int.reduceMul,reduceIte,reduceCtorEq,Nat.reducePow,Nat.reduceDiv,Nat.reduceMod,Int.reduceBEq,Stk.dd,S,ctlds_len,byt_len,C1,C2,h0]
  |some c=>
   have hpos:0<s.ctrls.length:=by
    cases hh:s.ctrls with
    |nil=>rw[hh] at hcl;cases hcl
    |cons _ _=>simp
   have hne: ¬(s.ctrls.length:Int)=0:=by omega
   have Wn:IntKind.wrap .i64 ((s.ctrls.length:Int)-1)=((s.ctrls.length-1:Nat):Int):=by rw[wrap_i64 (by omega) (by omega)];omega
   have hlt:((s.ctrls.length-1:Nat):Int)<s.ctrls.length:=by omega
   simp only[go_sem,Nat.reduceAdd,Nat.reduceMul,Nat.reduceSub,Nat.reduceLT,Nat.reduceLeDiff,Nat.reduceEqDiff,Nat.reduceBEq,Nat.reduceBeqDiff,Int.reduceEq,Int.reduceLT,Int.reduceLE,Int.reduceToNat,Int.reduceNeg,Int.reduceAdd,Int.reduceSub,Int.reduceMul,reduceIte,reduceCtorEq,Nat.reducePow,Nat.reduceDiv,Nat.reduceMod,Int.reduceBEq,Stk.dd,S,ctlds_len,byt_len,C1,C2,hne]
   (rw[cond_free];rotate_left;·rfl)
   simp only[go_sem,Nat.reduceAdd,Nat.reduceMul,Nat.reduceSub,Nat.reduceLT,Nat.reduceLeDiff,Nat.reduceEqDiff,Nat.reduceBEq,Nat.reduceBeqDiff,Int.reduceEq,Int.reduceLT,Int.reduceLE,Int.reduceToNat,Int.reduceNeg,Int.reduceAdd,Int.reduceSub,Int.reduceMul,reduceIte,reduceCtorEq,Nat.reducePow,Nat.reduceDiv,Nat.reduceMod,Int.reduceBEq,Wn,hlt]
   (rw[cond_free];rotate_left;·rfl)
   simp only[go_sem,Nat.reduceAdd,Nat.reduceMul,Nat.reduceSub,Nat.reduceLT,Nat.reduceLeDiff,Nat.reduceEqDiff,Nat.reduceBEq,Nat.reduceBeqDiff,Int.reduceEq,Int.reduceLT,Int.reduceLE,Int.reduceToNat,Int.reduceNeg,Int.reduceAdd,Int.reduceSub,Int.reduceMul,reduceIte,reduceCtorEq,Nat.reducePow,Nat.reduceDiv,Nat.reduceMod,Int.reduceBEq]
theorem top_get {X:List D} {v:List Int} (hX:X.take v.length=byt v) (h:0<v.length):X[v.length-1]? =some (.int .u8 (v.getLastD 0)):=by
 have h1:(X.take v.length)[v.length-1]? =X[v.length-1]? :=by rw[List.getElem?_take,if_pos (by omega)]
 have hne:v≠[]:=fun e=>by rw[e] at h;simp at h
 rw[←h1,hX,List.getElem?_map,←List.getLast?_eq_getElem?,List.getLast?_eq_some_getLast hne,List.getLastD_eq_getLast?,List.getLast?_eq_some_getLast hne]
 rfl
theorem pop_ev (fu n:Nat) (v:List Int) (lc j:Nat) (X Y:List D) (f1 g1 f2 g2:Bool) (c:Ctl) (hX:X.take v.length=byt v) (hY:Y[j]? =some c.dd) (hh:0≤c.ht) (hl:v.length<1000000):
 evF (G fu) (n+1) 179 [.ptr 0 0] [.cells (wcells v.length lc j), .row 1 X 0 f1 g1, .row 4 Y 0 f2 g2]=some (match popV c.ht c.dead v with
  | .ok (t,v')=>(.tup [.d (.int .u8 t), .d (.int .i64 0)],[.cells (wcells v'.length lc j), .row 1 X 0 f1 g1, .row 4 Y 0 f2 g2])
  | .error e=>(.tup [.d (.int .u8 0), .d (.int .i64 e)],[.cells (wcells v.length lc j), .row 1 X 0 f1 g1, .row 4 Y 0 f2 g2])):=by
 rw[evF.eq_2,evX.eq_def,Gext,exts_no _ (f:=179) (by decide),GP,Tryz.func179];simp only[Tryz.f179,evB]
 have Wn:IntKind.wrap .i64 ((v.length:Int)-1)=(v.length:Int)-1:=wrap_i64 (by omega) (by omega)
 unfold popV
 by_cases hlt:c.ht<v.length
 ·have h1:c.ht≤(v.length:Int)-1:=by omega
  have h2:(0:Int)≤(v.length:Int)-1:=by omega
  have h3:(v.length:Int)-1<v.length:=by omega
  have h4:((v.length:Int)-1).toNat=v.length-1:=by omega
  have h5:(v.length:Int)-1≤v.length:=by omega
  have hx:=top_get hX (show 0<v.length by omega)
  simp only[go_sem,Nat.reduceAdd,Nat.reduceMul,Nat.reduceSub,Nat.reduceLT,Nat.reduceLeDiff,Nat.reduceEqDiff,Nat.reduceBEq,Nat.reduceBeqDiff,Int.reduceEq,Int.reduceLT,Int.reduceLE,Int.reduceToNat,Int.reduceNeg,Int.reduceAdd,Int.reduceSub,Int.reduceMul,reduceIte,reduceCtorEq,Nat.reducePow,Nat.reduceDiv,Nat.reduceMod,Int.reduceBEq,wcells,Wn,hY,Ctl.dd,h1,h2,h3,h4,h5,hx,hlt,List.length_dropLast,Int.sub_zero]
 ·have h1: ¬c.ht≤(v.length:Int)-1:=by omega
  cases hd:c.dead with
  |true=>simp only[go_sem,Nat.reduceAdd,Nat.reduceMul,Nat.reduceSub,Nat.reduceLT,Nat.reduceLeDiff,Nat.reduceEqDiff,Nat.reduceBEq,Nat.reduceBeqDiff,Int.reduceEq,Int.reduceLT,Int.reduceLE,Int.reduceToNat,Int.reduceNeg,Int.reduceAdd,Int.reduceSub,Int.reduceMul,reduceIte,reduceCtorEq,Nat.reducePow,Nat.reduceDiv,Nat.reduceMod,Int.reduceBEq,wcells,Wn,hY,Ctl.dd,h1,hlt,hd]
  |false=>simp only[go_sem,Nat.reduceAdd,Nat.reduceMul,Nat.reduceSub,Nat.reduceLT,Nat.reduceLeDiff,Nat.reduceEqDiff,Nat.reduceBEq,Nat.reduceBeqDiff,Int.reduceEq,Int.reduceLT,Int.reduceLE,Int.reduceToNat,Int.reduceNeg,Int.reduceAdd,Int.reduceSub,Int.reduceMul,reduceIte,reduceCtorEq,Nat.reducePow,Nat.reduceDiv,Nat.reduceMod,Int.reduceBEq,wcells,Wn,hY,Ctl.dd,h1,hlt,hd]
theorem pop0_ev (fu n:Nat) (v:List Int) (lc j:Nat) (X Y:List D) (f1 g1 f2 g2:Bool) (c:Ctl) (hX:X.take v.length=byt v) (hY:Y[j]? =some c.dd) (hh:0≤c.ht) (hl:v.length<1000000):
 evF (G0 fu) (n+1) 179 [.ptr 0 0] [.cells (wcells v.length lc j), .row 1 X 0 f1 g1, .row 4 Y 0 f2 g2]=some (match popV c.ht c.dead v with
  | .ok (t,v')=>(.tup [.d (.int .u8 t), .d (.int .i64 0)],[.cells (wcells v'.length lc j), .row 1 X 0 f1 g1, .row 4 Y 0 f2 g2])
  | .error e=>(.tup [.d (.int .u8 0), .d (.int .i64 e)],[.cells (wcells v.length lc j), .row 1 X 0 f1 g1, .row 4 Y 0 f2 g2])):=by
 rw[evF.eq_2,evX.eq_def,G0ext,G0P,Tryz.func179];simp only[Tryz.f179,evB]
 have Wn:IntKind.wrap .i64 ((v.length:Int)-1)=(v.length:Int)-1:=wrap_i64 (by omega) (by omega)
 unfold popV
 by_cases hlt:c.ht<v.length
 ·have h1:c.ht≤(v.length:Int)-1:=by omega
  have h2:(0:Int)≤(v.length:Int)-1:=by omega
  have h3:(v.length:Int)-1<v.length:=by omega
  have h4:((v.length:Int)-1).toNat=v.length-1:=by omega
  have h5:(v.length:Int)-1≤v.length:=by omega
  have hx:=top_get hX (show 0<v.length by omega)
  simp only[go_sem,Nat.reduceAdd,Nat.reduceMul,Nat.reduceSub,Nat.reduceLT,Nat.reduceLeDiff,Nat.reduceEqDiff,Nat.reduceBEq,Nat.reduceBeqDiff,Int.reduceEq,Int.reduceLT,Int.reduceLE,Int.reduceToNat,Int.reduceNeg,Int.reduceAdd,Int.reduceSub,Int.reduceMul,reduceIte,reduceCtorEq,Nat.reducePow,Nat.reduceDiv,Nat.reduceMod,Int.reduceBEq,wcells,Wn,hY,Ctl.dd,h1,h2,h3,h4,h5,hx,hlt,List.length_dropLast,Int.sub_zero]
 ·have h1: ¬c.ht≤(v.length:Int)-1:=by omega
  cases hd:c.dead with
  |true=>simp only[go_sem,Nat.reduceAdd,Nat.reduceMul,Nat.reduceSub,Nat.reduceLT,Nat.reduceLeDiff,Nat.reduceEqDiff,Nat.reduceBEq,Nat.reduceBeqDiff,Int.reduceEq,Int.reduceLT,Int.reduceLE,Int.reduceToNat,Int.reduceNeg,Int.reduceAdd,Int.reduceSub,Int.reduceMul,reduceIte,reduceCtorEq,Nat.reducePow,Nat.reduceDiv,Nat.reduceMod,Int.reduceBEq,wcells,Wn,hY,Ctl.dd,h1,hlt,hd]
  |false=>simp only[go_sem,Nat.reduceAdd,Nat.reduceMul,Nat.reduceSub,Nat.reduceLT,Nat.reduceLeDiff,Nat.reduceEqDiff,Nat.reduceBEq,Nat.reduceBeqDiff,Int.reduceEq,Int.reduceLT,Int.reduceLE,Int.reduceToNat,Int.reduceNeg,Int.reduceAdd,Int.reduceSub,Int.reduceMul,reduceIte,reduceCtorEq,Nat.reducePow,Nat.reduceDiv,Nat.reduceMod,Int.reduceBEq,wcells,Wn,hY,Ctl.dd,h1,hlt,hd]
end Go.Proofs.YtfpioigggjnffaaGreatDoor.E
set_option autoImplicit false
namespace Go.Proofs.YtfpioigggjnffaaGreatDoor.E
open Go.Ev
theorem saneS_iff (s:Stk):saneS s=true↔∃h,risesB 0 s.ctrls=some h∧h≤s.vals.length∧typesB s.vals=true:=by
 unfold saneS
 cases risesB 0 s.ctrls with
 |none=>simp
 |some h=>simp
theorem risesB_last {h:Int} {a:List Ctl} {k:Int} {c:Ctl} (e:risesB h a=some k) (hc:a.getLast? =some c):k=c.ht∧finB c.fin=true:=by
 obtain⟨ys,rfl⟩:=List.getLast?_eq_some_iff.1 hc
 rw[risesB_append] at e
 cases hr:risesB h ys with
 |none=>rw[hr] at e;cases e
 |some m=>
  rw[hr] at e
  simp only[risesB] at e
  split at e
  ·rename_i hh
   simp only[Bool.and_eq_true] at hh
   cases e;exact⟨rfl,hh.1⟩
  ·cases e
theorem risesB_ge {h:Int} {a:List Ctl} {k:Int} (e:risesB h a=some k):h≤k:=by
 induction a generalizing h with
 |nil=>cases e;exact Int.le_refl _
 |cons c a ih=>
  simp only[risesB] at e
  split at e
  ·rename_i hh
   simp only[Bool.and_eq_true,decide_eq_true_eq] at hh
   have:=ih e;omega
  ·cases e
theorem risesB_dropLast {a:List Ctl} {k:Int} (e:risesB 0 a=some k): ∃m,risesB 0 a.dropLast=some m∧m≤k:=by
 cases hl:a.getLast? with
 |none=>rw[List.getLast?_eq_none_iff] at hl;subst hl;exact⟨0,rfl,by cases e;exact Int.le_refl _⟩
 |some c=>
  obtain⟨ys,rfl⟩:=List.getLast?_eq_some_iff.1 hl
  rw[List.dropLast_concat]
  rw[risesB_append] at e
  cases hr:risesB 0 ys with
  |none=>rw[hr] at e;cases e
  |some m=>rw[hr] at e;exact⟨m,rfl,risesB_ge e⟩
theorem risesB_setLast {a:List Ctl} {k:Int} {c c':Ctl} (e:risesB 0 a=some k) (hc:a.getLast? =some c) (h1:c'.fin=c.fin) (h2:c'.ht=c.ht):risesB 0 (a.dropLast++[c'])=some k:=by
 obtain⟨ys,rfl⟩:=List.getLast?_eq_some_iff.1 hc
 rw[List.dropLast_concat,risesB_append]
 rw[risesB_append] at e
 cases hr:risesB 0 ys with
 |none=>rw[hr] at e;cases e
 |some m=>rw[hr] at e;simp only[risesB] at e ⊢;rw[h1,h2];exact e
theorem topC_ok {s:Stk} {c:Ctl} (e:topC s= .ok c):saneS s=true∧s.ctrls.getLast? =some c:=by
 unfold topC at e
 cases hs:saneS s with
 |false=>rw[hs] at e;cases e
 |true=>
  rw[hs] at e
  cases hc:s.ctrls.getLast? with
  |none=>rw[hc] at e;cases e
  |some x=>rw[hc] at e;cases e;exact⟨rfl,rfl⟩
theorem topC_rises {s:Stk} {c:Ctl} (e:topC s= .ok c):risesB 0 s.ctrls=some c.ht∧c.ht≤s.vals.length∧typesB s.vals=true∧finB c.fin=true∧0≤c.ht:=by
 obtain⟨hs,hc⟩:=topC_ok e
 obtain⟨h,hr,hl,ht⟩:=(saneS_iff s).1 hs
 obtain⟨rfl,hf⟩:=risesB_last hr hc
 exact⟨hr,hl,ht,hf,risesB_ge hr⟩
theorem pushS_ok {s s':Stk} {l:List Int} (e:pushS s l= .ok s'):saneS s'=true∧s'.ctrls=s.ctrls∧s'.vals=s.vals++l:=by
 unfold pushS at e
 split at e
 ·cases e
 ·rename_i hn
  simp only[Bool.or_eq_true,Bool.not_eq_true',not_or,Bool.not_eq_false] at hn
  cases e
  obtain⟨h,hr,hl,ht⟩:=(saneS_iff s).1 hn.1
  exact⟨(saneS_iff _).2 ⟨h,hr,by simp only[List.length_append];omega,by rw[typesB_append,ht,hn.2];rfl⟩,rfl,rfl⟩
theorem wantS_ok {s s':Stk} {l:List Int} (e:wantS s l= .ok s'):saneS s'=true∧s'.ctrls=s.ctrls∧s'.vals<+:s.vals:=by
 unfold wantS at e
 split at e
 ·rename_i hn
  simp only[Bool.and_eq_true] at hn
  cases e;exact⟨hn.1,rfl,List.prefix_refl _⟩
 ·cases ht:topC s with
  |error x=>rw[ht] at e;cases e
  |ok c=>
   rw[ht] at e
   simp only at e
   cases hw:wantV c.ht c.dead l.reverse s.vals with
   |error x=>rw[hw] at e;cases e
   |ok v=>
    rw[hw] at e;cases e
    obtain⟨h1,h2,h3,_,_⟩:=topC_rises ht
    obtain⟨a1,a2,a3⟩:=wantV_len hw h2 h3
    exact⟨(saneS_iff _).2 ⟨c.ht,h1,a1,a2⟩,rfl,a3⟩
theorem popS_ok {s s':Stk} {t:Int} (e:popS s= .ok (t,s')):saneS s'=true∧s'.ctrls=s.ctrls∧s'.vals<+:s.vals:=by
 unfold popS at e
 cases ht:topC s with
 |error x=>rw[ht] at e;cases e
 |ok c=>
  rw[ht] at e
  simp only at e
  cases hw:popV c.ht c.dead s.vals with
  |error x=>rw[hw] at e;cases e
  |ok r=>
   obtain⟨t',v⟩:=r
   rw[hw] at e;cases e
   obtain⟨h1,h2,h3,_,_⟩:=topC_rises ht
   obtain⟨a1,a2,a3⟩:=popV_len hw h2 h3
   exact⟨(saneS_iff _).2 ⟨c.ht,h1,a1,a2⟩,rfl,a3⟩
theorem openS_ok {s s':Stk} {op:Int} {l:List Int} (e:openS s op l= .ok s'):saneS s'=true∧s'.ctrls=s.ctrls++[⟨op,l,s.vals.length,false⟩]∧s'.vals=s.vals:=by
 unfold openS at e
 split at e
 ·cases e
 ·rename_i hn
  simp only[Bool.or_eq_true,Bool.not_eq_true',not_or,Bool.not_eq_false] at hn
  cases e
  obtain⟨h,hr,hl,ht⟩:=(saneS_iff s).1 hn.1
  refine⟨(saneS_iff _).2 ⟨s.vals.length, ?_,Int.le_refl _,ht⟩,rfl,rfl⟩
  rw[risesB_append,hr]
  simp only[risesB,hn.2,Bool.true_and]
  rw[if_pos (by simpa using hl)]
theorem closeS_ok {s s':Stk} {c:Ctl} (e:closeS s= .ok (c,s')):saneS s'=true∧s.ctrls.getLast? =some c∧s'.ctrls=s.ctrls.dropLast∧s'.vals<+:s.vals∧(s'.vals.length:Int)=c.ht∧finB c.fin=true:=by
 unfold closeS at e
 cases ht:topC s with
 |error x=>rw[ht] at e;cases e
 |ok d=>
  rw[ht] at e
  simp only at e
  cases hw:wantV d.ht d.dead d.fin.reverse s.vals with
  |error x=>rw[hw] at e;cases e
  |ok v=>
   rw[hw] at e
   simp only at e
   split at e
   ·cases e
   ·rename_i hv
    cases e
    obtain⟨h1,h2,h3,h4,_⟩:=topC_rises ht
    obtain⟨a1,a2,a3⟩:=wantV_len hw h2 h3
    obtain⟨m,hm,hle⟩:=risesB_dropLast h1
    simp only[ne_eq,Classical.not_not] at hv
    exact⟨(saneS_iff _).2 ⟨m,hm,by simp only;omega,a2⟩,(topC_ok ht).2,rfl,a3,hv,h4⟩
theorem killS_ok {s s':Stk} (e:killS s= .ok s'):saneS s'=true∧s'.ctrls.length=s.ctrls.length∧s'.vals<+:s.vals∧
 ∃c,s.ctrls.getLast? =some c∧s'.ctrls=s.ctrls.dropLast++[{c with dead:=true}]∧(s'.vals.length:Int)=c.ht:=by
 unfold killS at e
 cases ht:topC s with
 |error x=>rw[ht] at e;cases e
 |ok c=>
  rw[ht] at e
  cases e
  obtain⟨h1,h2,h3,_,h5⟩:=topC_rises ht
  have hc:=(topC_ok ht).2
  have hlen:((s.vals.take c.ht.toNat).length:Int)=c.ht:=by rw[List.length_take];omega
  refine⟨(saneS_iff _).2 ⟨c.ht,risesB_setLast h1 hc rfl rfl,by simp only;omega,typesB_take _ h3⟩, ?_,List.take_prefix _ _,c,hc,rfl,hlen⟩
  obtain⟨ys,hy⟩:=List.getLast?_eq_some_iff.1 hc
  simp[hy]
end Go.Proofs.YtfpioigggjnffaaGreatDoor.E
set_option autoImplicit false
namespace Go.Proofs.YtfpioigggjnffaaGreatDoor.E
open Go.Ev
def WOk (w:WkS) (n:Nat):Prop:=w.e=0→saneS w.s=true∧w.s.ctrls.length=n
theorem WOk.put {w:WkS} {n:Nat} {m:Nat} {r:Except Int Stk} (hr: ∀s,r= .ok s→w.e=0→saneS s=true∧s.ctrls.length=m) (he: ∀e,r= .error e→e≠0):WOk (w.put r) m:=by
 intro h
 unfold WkS.put at h ⊢
 by_cases h0:w.e≠0
 ·rw[if_pos h0] at h;exact absurd h h0
 ·rw[if_neg h0] at h ⊢
  cases r with
  |ok s=>exact hr s rfl (by simpa using h0)
  |error e=>exact absurd h (he e rfl)
theorem popV_err {h:Int} {d:Bool} {v:List Int} {e:Int} (x:popV h d v= .error e):e=5:=by
 unfold popV at x;split at x
 ·cases x
 ·split at x
  ·cases x
  ·cases x;rfl
theorem wantV_err {h:Int} {d:Bool} {l v:List Int} {e:Int} (x:wantV h d l v= .error e):e=5:=by
 induction l generalizing v with
 |nil=>cases x
 |cons t l ih=>
  simp only[wantV] at x
  cases hp:popV h d v with
  |error y=>rw[hp] at x;cases x;exact popV_err hp
  |ok r=>
   rw[hp] at x
   simp only at x
   split at x
   ·cases x;rfl
   ·exact ih x
theorem topC_err {s:Stk} {e:Int} (x:topC s= .error e):e=1∨e=5:=by
 unfold topC at x;split at x
 ·cases x;exact .inl rfl
 ·split at x
  ·cases x;exact .inr rfl
  ·cases x
theorem wantS_err {s:Stk} {l:List Int} {e:Int} (x:wantS s l= .error e):e=1∨e=5:=by
 unfold wantS at x;split at x
 ·cases x
 ·cases ht:topC s with
  |error y=>rw[ht] at x;cases x;exact topC_err ht
  |ok c=>
   rw[ht] at x
   simp only at x
   cases hw:wantV c.ht c.dead l.reverse s.vals with
   |error y=>rw[hw] at x;cases x;exact .inr (wantV_err hw)
   |ok v=>rw[hw] at x;cases x
theorem pushS_err {s:Stk} {l:List Int} {e:Int} (x:pushS s l= .error e):e=1:=by
 unfold pushS at x;split at x
 ·cases x;rfl
 ·cases x
theorem openS_err {s:Stk} {op:Int} {l:List Int} {e:Int} (x:openS s op l= .error e):e=1:=by
 unfold openS at x;split at x
 ·cases x;rfl
 ·cases x
theorem popS_err {s:Stk} {e:Int} (x:popS s= .error e):e=1∨e=5:=by
 unfold popS at x
 cases ht:topC s with
 |error y=>rw[ht] at x;cases x;exact topC_err ht
 |ok c=>
  rw[ht] at x
  simp only at x
  cases hw:popV c.ht c.dead s.vals with
  |error y=>rw[hw] at x;cases x;exact .inr (popV_err hw)
  |ok v=>rw[hw] at x;cases x
theorem closeS_err {s:Stk} {e:Int} (x:closeS s= .error e):e=1∨e=5:=by
 unfold closeS at x
 cases ht:topC s with
 |error y=>rw[ht] at x;cases x;exact topC_err ht
 |ok c=>
  rw[ht] at x
  simp only at x
  cases hw:wantV c.ht c.dead c.fin.reverse s.vals with
  |error y=>rw[hw] at x;cases x;exact .inr (wantV_err hw)
  |ok v=>
   rw[hw] at x
   simp only at x
   split at x
   ·cases x;exact .inr rfl
   ·cases x
theorem killS_err {s:Stk} {e:Int} (x:killS s= .error e):e=1∨e=5:=by
 unfold killS at x
 cases ht:topC s with
 |error y=>rw[ht] at x;cases x;exact topC_err ht
 |ok c=>rw[ht] at x;cases x
theorem WOk.want {w:WkS} {n:Nat} (h:WOk w n) (l:List Int):WOk (w.want l) n:=
 WOk.put (n:=n) (fun s' e h0=>⟨(wantS_ok e).1,by rw[(wantS_ok e).2.1];exact(h h0).2⟩) (fun _ x=>by have:=wantS_err x;omega)
theorem WOk.push {w:WkS} {n:Nat} (h:WOk w n) (l:List Int):WOk (w.push l) n:=
 WOk.put (n:=n) (fun s' e h0=>⟨(pushS_ok e).1,by rw[(pushS_ok e).2.1];exact(h h0).2⟩) (fun _ x=>by have:=pushS_err x;omega)
theorem WOk.kill {w:WkS} {n:Nat} (h:WOk w n):WOk w.kill n:=
 WOk.put (n:=n) (fun s' e h0=>⟨(killS_ok e).1,by rw[(killS_ok e).2.1];exact(h h0).2⟩) (fun _ x=>by have:=killS_err x;omega)
theorem WOk.opens {w:WkS} {n:Nat} (h:WOk w n) (op:Int) (l:List Int):WOk (w.opens op l) (n+1):=
 WOk.put (n:=n) (fun s' e h0=>⟨(openS_ok e).1,by rw[(openS_ok e).2.1,List.length_append];have:=(h h0).2;simp[this]⟩) (fun _ x=>by have:=openS_err x;omega)
theorem WOk.pop {w:WkS} {n:Nat} (h:WOk w n):WOk w.pop.2 n:=by
 unfold WkS.pop
 cases hp:popS w.s with
 |ok r=>obtain⟨t,s'⟩:=r;exact WOk.put (n:=n) (fun s e h0=>by cases e;exact⟨(popS_ok hp).1,by rw[(popS_ok hp).2.1];exact(h h0).2⟩) (fun _ x=>by cases x)
 |error e=>exact WOk.put (n:=n) (fun s x=>by cases x) (fun e' x=>by cases x;have:=popS_err hp;omega)
theorem WOk.closed {w:WkS} {n:Nat} (h:WOk w (n+1)):WOk w.closed.2 n:=by
 unfold WkS.closed
 cases hp:closeS w.s with
 |ok r=>
  obtain⟨t,s'⟩:=r
  exact WOk.put (n:=n) (fun s e h0=>by cases e;exact⟨(closeS_ok hp).1,by rw[(closeS_ok hp).2.2.1,List.length_dropLast,(h h0).2];rfl⟩) (fun _ x=>by cases x)
 |error e=>exact WOk.put (n:=n) (fun s x=>by cases x) (fun e' x=>by cases x;have:=closeS_err hp;omega)
theorem WOk.must {w:WkS} {n:Nat} (h:WOk w n) (b:Bool) (e:Int):WOk (w.must b e) n:=by
 unfold WkS.must
 split
 ·rename_i hh
  simp only[Bool.and_eq_true,beq_iff_eq] at hh
  intro _;exact h hh.2
 ·exact h
theorem WOk.label {w:WkS} {n:Nat} (h:WOk w n) (k:Int):WOk (w.label k).2 n:=by
 unfold WkS.label
 cases labelS w.s k with
 |ok l=>exact h
 |error e=>exact h.must _ _
theorem WOk.labels {w:WkS} {n:Nat} (h:WOk w n) (t l:List Int):WOk (labelsS w t l) n:=by
 induction l generalizing w with
 |nil=>exact h
 |cons a l ih=>exact ih ((h.label a).must _ _)
theorem WOk.call {env:TEnv} {w:WkS} {n:Nat} (h:WOk w n) (i:TInstr):WOk (callS env w i) n:=by
 unfold callS
 simp only
 refine WOk.push (WOk.want ?_ _) _
 by_cases h17:i.op=17
 ·rw[if_pos h17];exact(h.must _ _).want _
 ·rw[if_neg h17];exact h.must _ _
theorem WOk.mem {acc:Int→Int×Int×Bool} {env:TEnv} {w:WkS} {n:Nat} (h:WOk w n) (i:TInstr):WOk (memoryS acc env w i) n:=by
 unfold memoryS
 simp only
 by_cases h63:i.op=63
 ·rw[if_pos h63];exact(h.must _ _).push _
 ·rw[if_neg h63]
  by_cases h64:i.op=64
  ·rw[if_pos h64];exact((h.must _ _).want _).push _
  ·rw[if_neg h64]
   split
   ·exact((h.must _ _).must _ _).want _
   ·exact(((h.must _ _).must _ _).want _).push _
end Go.Proofs.YtfpioigggjnffaaGreatDoor.E
