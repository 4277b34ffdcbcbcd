/- C6, Q5, MA. -/
import Derived.Test.YtfpioigggjnffaaGreatDoorC3
import Derived.Test.YtfpioigggjnffaaGreatDoorEvD
set_option linter.unnecessarySimpa false
set_option linter.unusedSimpArgs false
set_option linter.unusedVariables false
set_option autoImplicit false
namespace Go.Proofs.YtfpioigggjnffaaGreatDoor.E
open Go.Ev
def NZ (l:List Int):Prop:=∀x∈l,x≠0
theorem NZ.nil:NZ []:=fun _ h=>by simp at h
theorem NZ.one {x:Int} (h:x≠0):NZ [x]:=fun y hy=>by simp at hy;rw[hy];exact h
theorem valB_nz {x:Int} (h:valB x=true):x≠0:=fun e=>by rw[e] at h;cases h
theorem finB_nz {l:List Int} (h:finB l=true):NZ l:=by
 match l,h with
 |[],_=>exact NZ.nil
 |[c],h=>exact NZ.one (valB_nz h)
def WL (w:WkS):Prop:=w.e=0→saneS w.s=true∧LiveOk w.s
theorem WL.put {w:WkS} {r:Except Int Stk} (hr: ∀s,r= .ok s→w.e=0→saneS s=true∧LiveOk s) (he: ∀e,r= .error e→e≠0):WL (w.put r):=by
 intro h
 unfold WkS.put at h ⊢
 by_cases h0:w.e≠0
 ·rw[if_pos h0] at h;exact absurd h h0
 ·rw[if_neg h0] at h ⊢
  cases r with
  |ok s=>exact hr s rfl (by simpa using h0)
  |error e=>exact absurd h (he e rfl)
theorem WL.want {w:WkS} (h:WL w) (l:List Int):WL (w.want l):=
 WL.put (fun _ e h0=>⟨(wantS_ok e).1,(h h0).2.want e⟩) (fun _ x=>by have:=wantS_err x;omega)
theorem WL.pushIf {w:WkS} (h:WL w) {l:List Int} (hl:w.e=0→∀c,w.s.ctrls.getLast? =some c→c.dead=false→NZ l):WL (w.push l):=
 WL.put (fun _ e h0=>⟨(pushS_ok e).1,(h h0).2.push (hl h0) e⟩) (fun _ x=>by have:=pushS_err x;omega)
theorem WL.push {w:WkS} (h:WL w) {l:List Int} (hl:NZ l):WL (w.push l):=h.pushIf fun _ _ _ _=>hl
theorem WL.kill {w:WkS} (h:WL w):WL w.kill:=
 WL.put (fun _ e h0=>⟨(killS_ok e).1,(h h0).2.kill e⟩) (fun _ x=>by have:=killS_err x;omega)
theorem WL.opens {w:WkS} (h:WL w) (op:Int) (l:List Int):WL (w.opens op l):=
 WL.put (fun _ e h0=>⟨(openS_ok e).1,(h h0).2.open e⟩) (fun _ x=>by have:=openS_err x;omega)
theorem WL.pop {w:WkS} (h:WL w):WL w.pop.2:=by
 unfold WkS.pop
 cases hp:popS w.s with
 |ok r=>obtain⟨t,s'⟩:=r;exact WL.put (fun s e h0=>by cases e;exact⟨(popS_ok hp).1,(h h0).2.pop hp⟩) (fun _ x=>by cases x)
 |error e=>exact WL.put (fun s x=>by cases x) (fun e' x=>by cases x;have:=popS_err hp;omega)
theorem WL.closed {w:WkS} (h:WL w):WL w.closed.2:=by
 unfold WkS.closed
 cases hp:closeS w.s with
 |ok r=>obtain⟨t,s'⟩:=r;exact WL.put (fun s e h0=>by cases e;exact⟨(closeS_ok hp).1,(h h0).2.close hp⟩) (fun _ x=>by cases x)
 |error e=>exact WL.put (fun s x=>by cases x) (fun e' x=>by cases x;have:=closeS_err hp;omega)
theorem closed_nz (w:WkS):NZ w.closed.1.fin:=by
 unfold WkS.closed
 cases hp:closeS w.s with
 |ok r=>obtain⟨t,s'⟩:=r;exact finB_nz (closeS_ok hp).2.2.2.2.2
 |error e=>exact NZ.nil
theorem WL.must {w:WkS} (h:WL w) (b:Bool) (e:Int):WL (w.must b e):=by
 unfold WkS.must
 split
 ·rename_i hh
  simp only[Bool.and_eq_true,beq_iff_eq] at hh
  intro _;exact h hh.2
 ·exact h
theorem WL.label {w:WkS} (h:WL w) (k:Int):WL (w.label k).2:=by
 unfold WkS.label
 cases labelS w.s k with
 |ok l=>exact h
 |error e=>exact h.must _ _
theorem WL.labels {w:WkS} (h:WL w) (t l:List Int):WL (labelsS w t l):=by
 induction l generalizing w with
 |nil=>exact h
 |cons a l ih=>exact ih ((h.label a).must _ _)
theorem rises_fin {h:Int} {a:List Ctl} {m:Int} (e:risesB h a=some m): ∀c∈a,finB c.fin=true:=by
 induction a generalizing h with
 |nil=>intro c hc;simp at hc
 |cons d a ih=>
  simp only[risesB] at e
  split at e
  ·rename_i hh
   simp only[Bool.and_eq_true] at hh
   intro c hc
   rcases List.mem_cons.1 hc with rfl|hc
   ·exact hh.1
   ·exact ih e c hc
  ·cases e
theorem label_nz (w:WkS) (k:Int):NZ (w.label k).1:=by
 unfold WkS.label labelS
 cases hs:saneS w.s with
 |false=>exact NZ.nil
 |true=>
  obtain⟨m,hr,_⟩:=(saneS_iff w.s).1 hs
  simp only[Bool.not_true,Bool.false_eq_true,if_false]
  split
  ·rename_i l hl
   split at hl
   ·cases hl
   ·split at hl
    ·cases hl
    ·rename_i c hc
     cases hl
     split
     ·exact NZ.nil
     ·exact finB_nz (rises_fin hr c (List.mem_of_getElem? hc))
  ·exact NZ.nil
theorem popS_nz {s s':Stk} {t:Int} {c:Ctl} (h:LiveOk s) (e:popS s= .ok (t,s')) (hc:s.ctrls.getLast? =some c) (hd:c.dead=false):t≠0:=by
 unfold popS at e
 cases ht:topC s with
 |error x=>rw[ht] at e;cases e
 |ok c'=>
  obtain⟨_,hc'⟩:=topC_ok ht
  rw[hc] at hc';cases hc'
  rw[ht] at e
  simp only at e
  unfold popV at e
  by_cases hlt:c.ht<s.vals.length
  ·rw[if_pos hlt] at e
   cases e
   have h0:=(topC_rises ht).2.2.2.2
   have hne:s.vals≠[]:=fun hh=>by rw[hh] at hlt;simp at hlt;omega
   have hl:s.vals[s.vals.length-1]? =some (s.vals.getLastD 0):=by
    rw[←List.getLast?_eq_getElem?,List.getLastD_eq_getLast?,List.getLast?_eq_some_getLast hne];rfl
   have hpos:0<s.vals.length:=List.length_pos_iff.2 hne
   have hk:s.ctrls[s.ctrls.length-1]? =some c:=by rw[←List.getLast?_eq_getElem?];exact hc
   refine h _ c hk hd (s.vals.length-1) (by omega) (fun c' hn=> ?_) _ hl
   have:=(List.getElem?_eq_some_iff.1 hn).1
   omega
  ·rw[if_neg hlt,hd] at e
   simp at e
end Go.Proofs.YtfpioigggjnffaaGreatDoor.E
set_option autoImplicit false
set_option maxRecDepth 100000
set_option maxHeartbeats 4000000
set_option pp.maxSteps 20000
namespace Go.Proofs.YtfpioigggjnffaaGreatDoor.E
open Go.Ev
theorem push_ev (fu n:Nat) (s:Stk) (l:List Int) (hs:SzOk fu s) (hl:l.length<fu) (hl2:l.length<1000000) (hf:3<fu):evF (G fu) (n+7) 206 [.d s.dd, .d (.list (byt l))] []=stkR (pushS s l):=by
 have S:=saneS_ev fu n s hs.v hs.c hs.hv hs.hc
 have T:=typesS_ev fu (n+1) l hl hl2
 have C1:=concat_ev fu (n+4) s.vals l hs.hv hl2 hf
 have C2:=cloneC_ev fu (n+5) s.ctrls (by have:=hs.hc;omega)
 have z1:sizedAll 1 [D.list (byt s.vals),D.list (byt l)]=true:=rfl
 have t1:=byt_takeL (s.vals++l)
 have t2:=ctlds_takeL s.ctrls
 simp only[Stk.dd] at S
 unfold pushS
 rw[evF.eq_2,evX.eq_def,Gext,exts_no _ (f:=206) (by decide),GP,Tryz.func206];simp only[Tryz.f206,evB]
 cases hsn:saneS s with
 |false=>
  rw[hsn] at S
  simp only[go_sem,seval, -Nat.reduceSubDiff,↓reduceIte,reduceCtorEq,Stk.dd,S,stkR,stk0,List.map_nil]
 |true=>
  rw[hsn] at S
  cases ht:typesB l with
  |false=>
   rw[ht] at T
   simp only[go_sem,seval, -Nat.reduceSubDiff,↓reduceIte,reduceCtorEq,Stk.dd,S,T,stkR,stk0,List.map_nil]
  |true=>
   rw[ht] at T
   simp only[go_sem,seval, -Nat.reduceSubDiff,↓reduceIte,reduceCtorEq,Stk.dd,S,T,z1,C1,C2]
   (rw[cond_free];rotate_left;·rfl)
   simp only[go_sem,seval, -Nat.reduceSubDiff,↓reduceIte,reduceCtorEq,stkR,Stk.dd,t1,t2]
theorem topC_sz {s:Stk} {c:Ctl} (e:topC s= .ok c):(ctlds s.ctrls)[s.ctrls.length-1]? =some c.dd∧0<s.ctrls.length∧0≤c.ht:=by
 have h1:=(topC_ok e).2
 refine⟨?_, ?_,(topC_rises e).2.2.2.2⟩
 ·rw[List.getElem?_map,←List.getLast?_eq_getElem?,h1];rfl
 ·cases hh:s.ctrls with
  |nil=>rw[hh] at h1;cases h1
  |cons _ _=>simp
theorem popSV {s:Stk} {c:Ctl} (e:topC s= .ok c):popS s=match popV c.ht c.dead s.vals with
 | .error e=> .error e
 | .ok (t,v)=> .ok (t,⟨v,s.ctrls⟩):=by
 unfold popS
 simp only[e]
 cases popV c.ht c.dead s.vals<;>rfl
def popR:Except Int (Int×Stk)→Option Res
 | .ok (t,s)=>some (.tup [.d s.dd, .d (.int .u8 t), .d (.int .i64 0)],[])
 | .error e=>some (.tup [.d stk0.dd, .d (.int .u8 0), .d (.int .i64 e)],[])
theorem popR_ev (fu n:Nat) (s:Stk) (hs:SzOk fu s):evF (G fu) (n+8) 209 [.d s.dd] []=popR (popS s):=by
 have B:=begin_ev fu n s hs.v hs.c hs.hv hs.hc
 unfold beginR at B
 simp only[Stk.dd] at B
 rw[evF.eq_2,evX.eq_def,Gext,exts_no _ (f:=209) (by decide),GP,Tryz.func209];simp only[Tryz.f209,evB]
 cases ht:topC s with
 |error e=>
  rw[ht] at B
  have he: ¬e=0:=by have:=topC_err ht;omega
  have hp:popS s= .error e:=by unfold popS;rw[ht]
  simp only[go_sem,seval, -Nat.reduceSubDiff,↓reduceIte,reduceCtorEq,Stk.dd,B,he,hp,popR,stk0,List.map_nil]
 |ok c=>
  rw[ht] at B
  obtain⟨h1,h2,h3⟩:=topC_sz ht
  have P:=pop_ev fu (n+6) s.vals s.ctrls.length (s.ctrls.length-1) (byt s.vals) (ctlds s.ctrls) false false false false c (byt_takeL _) h1 h3 hs.hv
  simp only[wcells] at P
  have t2:=ctlds_takeL s.ctrls
  rw[popSV ht]
  cases hp:popV c.ht c.dead s.vals with
  |error e=>
   rw[hp] at P
   have he: ¬e=0:=by have:=popV_err hp;omega
   simp only[go_sem,seval, -Nat.reduceSubDiff,↓reduceIte,reduceCtorEq,Stk.dd,B,P,he,popR,stk0,List.map_nil]
  |ok z=>
   obtain⟨t,v⟩:=z
   rw[hp] at P
   have t1:=(popV_take (byt_takeL s.vals) hp).1
   simp only[go_sem,seval, -Nat.reduceSubDiff,↓reduceIte,reduceCtorEq,Stk.dd,B,P,popR,t1,t2]
theorem wantSV {s:Stk} {c:Ctl} {l:List Int} (e:topC s= .ok c) (hl:(saneS s&&l.isEmpty)=false):wantS s l=match wantV c.ht c.dead l.reverse s.vals with
 | .error e=> .error e
 | .ok v=> .ok ⟨v,s.ctrls⟩:=by
 unfold wantS
 simp only[hl,e,Bool.false_eq_true,if_false]
 cases wantV c.ht c.dead l.reverse s.vals<;>rfl
theorem wantV_take {h:Int} {d:Bool} {l v v':List Int} {X:List D} (hX:X.take v.length=byt v) (e:wantV h d l v= .ok v'):X.take v'.length=byt v'∧v'.length≤v.length:=by
 induction l generalizing v with
 |nil=>cases e;exact⟨hX,Nat.le_refl _⟩
 |cons t l ih=>
  simp only[wantV] at e
  cases hp:popV h d v with
  |error x=>rw[hp] at e;cases e
  |ok r=>
   obtain⟨c,w⟩:=r
   rw[hp] at e
   simp only at e
   split at e
   ·cases e
   ·obtain⟨a,b⟩:=popV_take hX hp
    obtain⟨a',b'⟩:=ih a e
    exact⟨a',by omega⟩
theorem wantR_ev (fu n:Nat) (s:Stk) (l:List Int) (hs:SzOk fu s) (hl:l.length<1000000):evF (G fu) (n+8) 203 [.d s.dd, .d (.list (byt l))] []=stkR (wantS s l):=by
 have B:=begin_ev fu n s hs.v hs.c hs.hv hs.hc
 have S:=saneS_ev fu (n+1) s hs.v hs.c hs.hv hs.hc
 have C1:=clone_ev fu (n+6) s.vals (by have:=hs.hv;omega)
 have C2:=cloneC_ev fu (n+6) s.ctrls (by have:=hs.hc;omega)
 unfold beginR at B
 have t1:=byt_takeL s.vals
 have t2:=ctlds_takeL s.ctrls
 simp only[Stk.dd] at B S
 rw[evF.eq_2,evX.eq_def,Gext,exts_no _ (f:=203) (by decide),GP,Tryz.func203];simp only[Tryz.f203,evB]
 by_cases hcase:saneS s=true∧l=[]
 ·obtain⟨h1,rfl⟩:=hcase
  rw[h1] at S
  have hw:wantS s []= .ok s:=by unfold wantS;rw[h1];rfl
  simp only[go_sem,seval, -Nat.reduceSubDiff,↓reduceIte,reduceCtorEq,Stk.dd,S,C1,C2,List.map_nil]
  (rw[cond_free];rotate_left;·rfl)
  simp only[go_sem,seval, -Nat.reduceSubDiff,↓reduceIte,reduceCtorEq,hw,stkR,Stk.dd,t1,t2]
 ·have hb:(saneS s&&l.isEmpty)=false:=by
   cases h1:saneS s with
   |false=>rfl
   |true=>
    cases l with
    |nil=>exact absurd ⟨h1,rfl⟩ hcase
    |cons _ _=>rfl
  have key: ∀(R:Option Res) (Y:Option (Ex×St)→Option Res),True:=fun _ _=>trivial
  cases ht:topC s with
  |error e=>
   rw[ht] at B
   have he: ¬e=0:=by have:=topC_err ht;omega
   have hw:wantS s l= .error e:=by unfold wantS;rw[hb,ht];rfl
   cases hsn:saneS s with
   |false=>
    rw[hsn] at S
    by_cases hl0:(l.length:Int)=0
    ·simp only[go_sem,seval, -Nat.reduceSubDiff,↓reduceIte,reduceCtorEq,Stk.dd,byt_len,hl0,S,B,he,hw,stkR,stk0,List.map_nil]
    ·simp only[go_sem,seval, -Nat.reduceSubDiff,↓reduceIte,reduceCtorEq,Stk.dd,byt_len,hl0,S,B,he,hw,stkR,stk0,List.map_nil]
   |true=>
    have hl0: ¬(l.length:Int)=0:=fun h0=>hcase ⟨hsn,List.length_eq_zero_iff.1 (by omega)⟩
    simp only[go_sem,seval, -Nat.reduceSubDiff,↓reduceIte,reduceCtorEq,Stk.dd,byt_len,hl0,B,he,hw,stkR,stk0,List.map_nil]
  |ok c=>
   rw[ht] at B
   have hsn:=(topC_ok ht).1
   have hl0: ¬(l.length:Int)=0:=fun h0=>hcase ⟨hsn,List.length_eq_zero_iff.1 (by omega)⟩
   obtain⟨h1,h2,h3⟩:=topC_sz ht
   obtain⟨m,P⟩:=want_ev fu (n+6) s.vals l s.ctrls.length (s.ctrls.length-1) (byt s.vals) (ctlds s.ctrls) false false c (byt_takeL _) h1 h3 hs.hv hl
   simp only[wcells] at P
   rw[wantSV ht hb]
   cases hp:wantV c.ht c.dead l.reverse s.vals with
   |error e=>
    rw[hp] at P
    have he: ¬e=0:=by have:=wantV_err hp;omega
    simp only[go_sem,seval, -Nat.reduceSubDiff,↓reduceIte,reduceCtorEq,Stk.dd,byt_len,hl0,B,P,he,stkR,stk0,List.map_nil]
   |ok v=>
    rw[hp] at P
    have t1:=(wantV_take (byt_takeL s.vals) hp).1
    simp only[go_sem,seval, -Nat.reduceSubDiff,↓reduceIte,reduceCtorEq,Stk.dd,byt_len,hl0,B,P,stkR,t1,t2]
theorem openR_ev (fu n:Nat) (s:Stk) (op:Int) (l:List Int) (hs:SzOk fu s) (hl:l.length<1000000):evF (G fu) (n+7) 66 [.d s.dd, .d (.int .i64 op), .d (.list (byt l))] []=stkR (openS s op l):=by
 have S:=saneS_ev fu n s hs.v hs.c hs.hv hs.hc
 have L:=leftS_ev fu (n+4) l
 have C0:=clone_ev fu (n+5) l (by omega)
 have C1:=clone_ev fu (n+5) s.vals (by have:=hs.hv;omega)
 have C2:=cloneC_ev fu (n+5) s.ctrls (by have:=hs.hc;omega)
 have t0:=byt_takeL l
 have t1:=byt_takeL s.vals
 have t2:=ctlds_takeL s.ctrls
 have hr:s.ctrls.length+1≤1099511627776:=by have:=hs.hc;omega
 have z4:sizedAll 4 [(⟨op,l,s.vals.length,false⟩:Ctl).dd]=true:=rfl
 have t3:ctlds s.ctrls++[(⟨op,l,s.vals.length,false⟩:Ctl).dd]=ctlds (s.ctrls++[⟨op,l,s.vals.length,false⟩]):=by simp[ctlds]
 have t4:=ctlds_takeL (s.ctrls++[⟨op,l,s.vals.length,false⟩])
 rw[List.length_append,List.length_singleton] at t4
 simp only[Ctl.dd] at z4 t3
 simp only[Stk.dd] at S
 unfold openS
 rw[evF.eq_2,evX.eq_def,Gext,exts_no _ (f:=66) (by decide),GP,Tryz.func66];simp only[Tryz.f66,evB]
 cases hsn:saneS s with
 |false=>
  rw[hsn] at S
  simp only[go_sem,seval, -Nat.reduceSubDiff,↓reduceIte,reduceCtorEq,Stk.dd,S,stkR,stk0,List.map_nil]
 |true=>
  rw[hsn] at S
  cases ht:finB l with
  |false=>
   rw[ht] at L
   simp only[go_sem,seval, -Nat.reduceSubDiff,↓reduceIte,reduceCtorEq,Stk.dd,S,L,stkR,stk0,List.map_nil]
  |true=>
   rw[ht] at L
   simp only[go_sem,seval, -Nat.reduceSubDiff,↓reduceIte,reduceCtorEq,Stk.dd,S,L,C0,byt_len]
   (rw[cond_free];rotate_left;·rfl)
   simp only[go_sem,seval, -Nat.reduceSubDiff,↓reduceIte,reduceCtorEq,C1,C2,t0,t2,z4,hr,t3]
   (rw[cond_free];rotate_left;·rfl)
   simp only[go_sem,seval, -Nat.reduceSubDiff,↓reduceIte,reduceCtorEq,stkR,Stk.dd,t1,t4]
def closeR:Except Int (Ctl×Stk)→Option Res
 | .ok (c,s)=>some (.tup [.d s.dd, .d c.dd, .d (.int .i64 0)],[])
 | .error e=>some (.tup [.d stk0.dd, .d ctl0.dd, .d (.int .i64 e)],[])
theorem killR_ev (fu n:Nat) (s:Stk) (hs:SzOk fu s):evF (G fu) (n+8) 205 [.d s.dd] []=stkR (killS s):=by
 have B:=begin_ev fu n s hs.v hs.c hs.hv hs.hc
 unfold beginR at B
 simp only[Stk.dd] at B
 rw[evF.eq_2,evX.eq_def,Gext,exts_no _ (f:=205) (by decide),GP,Tryz.func205];simp only[Tryz.f205,evB]
 unfold killS
 cases ht:topC s with
 |error e=>
  rw[ht] at B
  have he: ¬e=0:=by have:=topC_err ht;omega
  simp only[go_sem,seval, -Nat.reduceSubDiff,↓reduceIte,reduceCtorEq,Stk.dd,B,he,stkR,stk0,List.map_nil]
 |ok c=>
  rw[ht] at B
  obtain⟨h1,h2,h3⟩:=topC_sz ht
  obtain⟨r1,r2,_⟩:=topC_rises ht
  have t2:((ctlds s.ctrls).set (s.ctrls.length-1) ({c with dead:=true}:Ctl).dd).take s.ctrls.length=ctlds (s.ctrls.dropLast++[{c with dead:=true}]):=by
   rw[List.take_of_length_le (by simp)]
   have hlast:=(topC_ok ht).2
   obtain⟨ys,hy⟩:=List.getLast?_eq_some_iff.1 hlast
   rw[hy]
   simp[ctlds]
  have t1:(byt s.vals).take c.ht.toNat=byt (s.vals.take c.ht.toNat):=byt_take' _ _
  have t3:(byt (s.vals.take c.ht.toNat)).take (s.vals.take c.ht.toNat).length=byt (s.vals.take c.ht.toNat):=byt_takeL _
  simp only[Ctl.dd] at h1 t2
  simp only[go_sem,seval, -Nat.reduceSubDiff,↓reduceIte,reduceCtorEq,Stk.dd,B,h1,h3,r2,Int.sub_zero]
  (rw[cond_free];rotate_left;·rfl)
  simp only[go_sem,seval, -Nat.reduceSubDiff,↓reduceIte,reduceCtorEq,stkR,Stk.dd,h1,t1,t2]
theorem closeR_ev (fu n:Nat) (s:Stk) (hs:SzOk fu s):evF (G fu) (n+8) 70 [.d s.dd] []=closeR (closeS s):=by
 have B:=begin_ev fu n s hs.v hs.c hs.hv hs.hc
 unfold beginR at B
 simp only[Stk.dd] at B
 rw[evF.eq_2,evX.eq_def,Gext,exts_no _ (f:=70) (by decide),GP,Tryz.func70];simp only[Tryz.f70,evB]
 unfold closeS
 cases ht:topC s with
 |error e=>
  rw[ht] at B
  have he: ¬e=0:=by have:=topC_err ht;omega
  simp only[go_sem,seval, -Nat.reduceSubDiff,↓reduceIte,reduceCtorEq,Stk.dd,B,he,closeR,stk0,ctl0,Ctl.dd,List.map_nil]
 |ok c=>
  rw[ht] at B
  obtain⟨h1,h2,h3⟩:=topC_sz ht
  obtain⟨r1,r2,_,r4,_⟩:=topC_rises ht
  have hfl:c.fin.length<1000000:=by
   match c.fin,r4 with
   |[],_=>simp
   |[_],_=>simp
  obtain⟨m,P⟩:=want_ev fu (n+6) s.vals c.fin s.ctrls.length (s.ctrls.length-1) (byt s.vals) (ctlds s.ctrls) false false c (byt_takeL _) h1 h3 hs.hv hfl
  simp only[wcells] at P
  have Wn:IntKind.wrap .i64 ((s.ctrls.length:Int)-1)=((s.ctrls.length-1:Nat):Int):=by rw[wrap_i64 (by have:=hs.hc;omega) (by have:=hs.hc;omega)];omega
  have hle:((s.ctrls.length-1:Nat):Int)≤s.ctrls.length:=by omega
  have t2:(ctlds s.ctrls).take (s.ctrls.length-1)=ctlds s.ctrls.dropLast:=by rw[List.dropLast_eq_take];simp[ctlds]
  simp only[Ctl.dd] at h1
  cases hp:wantV c.ht c.dead c.fin.reverse s.vals with
  |error e=>
   rw[hp] at P
   have he: ¬e=0:=by have:=wantV_err hp;omega
   simp only[go_sem,seval, -Nat.reduceSubDiff,↓reduceIte,reduceCtorEq,Stk.dd,B,h1,P,he,hp,closeR,stk0,ctl0,Ctl.dd,List.map_nil]
  |ok v=>
   rw[hp] at P
   have t1:=(wantV_take (byt_takeL s.vals) hp).1
   by_cases hv:(v.length:Int)=c.ht
   ·simp only[go_sem,seval, -Nat.reduceSubDiff,↓reduceIte,reduceCtorEq,Stk.dd,B,h1,P,hp,hv,ne_eq,Wn,hle,Int.sub_zero]
    (rw[cond_free];rotate_left;·rfl)
    simp only[go_sem,seval, -Nat.reduceSubDiff,↓reduceIte,reduceCtorEq,closeR,Stk.dd,Ctl.dd,t1,t2]
   ·simp only[go_sem,seval, -Nat.reduceSubDiff,↓reduceIte,reduceCtorEq,Stk.dd,B,h1,P,hp,hv,ne_eq,closeR,Stk.dd,stk0,ctl0,Ctl.dd,List.map_nil]
def labR:Except Int (List Int)→Option Res
 | .ok l=>some (.tup [.row 0 0 0 l.length, .d (.int .i64 0)],[.row 1 (byt l) 0 false false])
 | .error e=>some (.tup [.row 0 0 0 0, .d (.int .i64 e)],[.row 1 [] 0 false false])
theorem labelR_ev (fu n:Nat) (s:Stk) (k:Int) (hs:SzOk fu s) (hk: -9223372036854775808≤k∧k≤9223372036854775807):evF (G fu) (n+7) 204 [.d s.dd, .d (.int .i64 k)] []=labR (labelS s k):=by
 have S:=saneS_ev fu n s hs.v hs.c hs.hv hs.hc
 simp only[Stk.dd] at S
 unfold labelS
 rw[evF.eq_2,evX.eq_def,Gext,exts_no _ (f:=204) (by decide),GP,Tryz.func204];simp only[Tryz.f204,evB]
 cases hsn:saneS s with
 |false=>
  rw[hsn] at S
  simp only[go_sem,seval, -Nat.reduceSubDiff,↓reduceIte,reduceCtorEq,Stk.dd,S,labR]
 |true=>
  rw[hsn] at S
  by_cases k0:k<0
  ·simp only[go_sem,seval, -Nat.reduceSubDiff,↓reduceIte,reduceCtorEq,Stk.dd,S,k0,labR]
  by_cases k1:(s.ctrls.length:Int)≤k
  ·simp only[go_sem,seval, -Nat.reduceSubDiff,↓reduceIte,reduceCtorEq,Stk.dd,S,k0,k1,ctlds_len,labR]
  have W1:IntKind.wrap .i64 ((s.ctrls.length:Int)-1)=(s.ctrls.length:Int)-1:=wrap_i64 (by have:=hs.hc;omega) (by have:=hs.hc;omega)
  have W2:IntKind.wrap .i64 ((s.ctrls.length:Int)-1-k)=((s.ctrls.length-1-k.toNat:Nat):Int):=by rw[wrap_i64 (by have:=hs.hc;omega) (by have:=hs.hc;omega)];omega
  have hlt:s.ctrls.length-1-k.toNat<s.ctrls.length:=by omega
  have hx:(ctlds s.ctrls)[s.ctrls.length-1-k.toNat]? =some (s.ctrls.getD (s.ctrls.length-1-k.toNat) ctl0).dd:=getD_map hlt
  have hx2:s.ctrls[s.ctrls.length-1-k.toNat]? =some (s.ctrls.getD (s.ctrls.length-1-k.toNat) ctl0):=by simp[hlt]
  have hf:finB (s.ctrls.getD (s.ctrls.length-1-k.toNat) ctl0).fin=true:=by
   obtain⟨m,r1,_⟩:=(saneS_iff s).1 hsn
   exact rises_fin r1 _ (List.mem_of_getElem? hx2)
  generalize s.ctrls.getD (s.ctrls.length-1-k.toNat) ctl0=c at*
  have hfl:c.fin.length<1000000:=by
   match c.fin,hf with
   |[],_=>simp
   |[_],_=>simp
  have C1:=clone_ev fu (n+5) c.fin (by omega)
  by_cases h3:c.op=3
  ·simp only[go_sem,seval, -Nat.reduceSubDiff,↓reduceIte,reduceCtorEq,Stk.dd,S,k0,k1,ctlds_len,W1,W2,idx,hx,hx2,Ctl.dd,h3,labR,List.map_nil]
  ·simp only[go_sem,seval, -Nat.reduceSubDiff,↓reduceIte,reduceCtorEq,Stk.dd,S,k0,k1,ctlds_len,W1,W2,idx,hx,hx2,Ctl.dd,h3,C1,labR]
end Go.Proofs.YtfpioigggjnffaaGreatDoor.E
set_option autoImplicit false
set_option maxRecDepth 100000
set_option maxHeartbeats 4000000
set_option pp.maxSteps 20000
namespace Go.Proofs.YtfpioigggjnffaaGreatDoor.E
open Go.Ev
def accT:List (Int×Int×Bool×Bool):=[(127,4,false,false),(126,8,false,false),(0,0,false,false),(0,0,false,false),(127,1,true,false),(127,1,false,false),(127,2,true,false),(127,2,false,false),(126,1,true,false),(126,1,false,false),(126,2,true,false),(126,2,false,false),(126,4,true,false),(126,4,false,false),(127,4,false,true),(126,8,false,true),(0,0,false,false),(0,0,false,false),(127,1,false,true),(127,2,false,true),(126,1,false,true),(126,2,false,true),(126,4,false,true)]
def accF (op:Int):Int×Int×Bool×Bool:=if 40≤op∧op≤62 then accT.getD (op-40).toNat (0,0,false,false) else(0,0,false,false)
def accR (r:Int×Int×Bool×Bool):Option Res:=some (.tup [.d (.int .u8 r.1), .d (.int .i64 r.2.1), .d (.bool r.2.2.1), .d (.bool r.2.2.2)],[])
theorem acc_at (fu n:Nat): ∀k:Nat,k<23→evF (G fu) (n+1) 166 [.d (.int .i64 ((40+k:Nat):Int))] []=accR (accT.getD k (0,0,false,false)):=fun k h=>match k,h with
 |0,_=>by kernel_rfl
 |1,_=>by kernel_rfl
 |2,_=>by kernel_rfl
 |3,_=>by kernel_rfl
 |4,_=>by kernel_rfl
 |5,_=>by kernel_rfl
 |6,_=>by kernel_rfl
 |7,_=>by kernel_rfl
 |8,_=>by kernel_rfl
 |9,_=>by kernel_rfl
 |10,_=>by kernel_rfl
 |11,_=>by kernel_rfl
 |12,_=>by kernel_rfl
 |13,_=>by kernel_rfl
 |14,_=>by kernel_rfl
 |15,_=>by kernel_rfl
 |16,_=>by kernel_rfl
 |17,_=>by kernel_rfl
 |18,_=>by kernel_rfl
 |19,_=>by kernel_rfl
 |20,_=>by kernel_rfl
 |21,_=>by kernel_rfl
 |22,_=>by kernel_rfl
 |_+23,h=>absurd h (by omega)
theorem acc_ev (fu n:Nat) (op:Int) (h0: -9223372036854775808≤op) (h1:op≤9223372036854775807):evF (G fu) (n+1) 166 [.d (.int .i64 op)] []=accR (accF op):=by
 unfold accF
 by_cases h:40≤op∧op≤62
 ·rw[if_pos h]
  have:=acc_at fu n (op-40).toNat (by omega)
  rwa [show((40+(op-40).toNat:Nat):Int)=op by omega] at this
 ·rw[if_neg h]
  unfold accR
  rw[evF.eq_2,evX.eq_def,Gext,exts_no _ (f:=166) (by decide),GP,Tryz.func166];simp only[Tryz.f166,evB]
  by_cases a:op<40
  ·simp only[go_sem,seval, -Nat.reduceSubDiff,↓reduceIte,reduceCtorEq,a]
  ·simp only[go_sem,seval, -Nat.reduceSubDiff,↓reduceIte,reduceCtorEq,a,show(63:Int)≤op by omega]
theorem strOf_byt (l:List Int):strOf (byt l)=some (l.map fun n=>UInt8.ofNat n.toNat):=by
 induction l with
 |nil=>rfl
 |cons a l ih=>
  show strOf.strOf1 (.int .u8 a) (strOf (byt l))=_
  rw[ih]
  rfl
end Go.Proofs.YtfpioigggjnffaaGreatDoor.E
