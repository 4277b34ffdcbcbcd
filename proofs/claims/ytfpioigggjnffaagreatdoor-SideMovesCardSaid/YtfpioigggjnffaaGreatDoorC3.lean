/- C3, Q3, Q4, C4, C5. -/
import Derived.Test.YtfpioigggjnffaaGreatDoorQ1
set_option linter.unnecessarySimpa false
set_option linter.unusedSimpArgs false
set_option linter.unusedVariables false
set_option autoImplicit false
namespace Go.Proofs.YtfpioigggjnffaaGreatDoor.E
open Go.Ev
def WOk (w:WkS) (n:Nat):Prop:=w.e=0→saneS w.s=true∧w.s.ctrls.length=n
theorem WOk.put {w:WkS} {n:Nat} {m:Nat} {r:Except Int Stk} (hr: ∀s,r= .ok s→w.e=0→saneS s=true∧s.ctrls.length=m) (he: ∀e,r= .error e→e≠0):WOk (w.put r) m:=by
 intro h
 unfold WkS.put at h ⊢
 by_cases h0:w.e≠0
 ·rw[if_pos h0] at h;exact absurd h h0
 ·rw[if_neg h0] at h ⊢
  cases r with
  |ok s=>exact hr s rfl (by simpa using h0)
  |error e=>exact absurd h (he e rfl)
theorem popV_err {h:Int} {d:Bool} {v:List Int} {e:Int} (x:popV h d v= .error e):e=5:=by
 unfold popV at x;split at x
 ·cases x
 ·split at x
  ·cases x
  ·cases x;rfl
theorem wantV_err {h:Int} {d:Bool} {l v:List Int} {e:Int} (x:wantV h d l v= .error e):e=5:=by
 induction l generalizing v with
 |nil=>cases x
 |cons t l ih=>
  simp only[wantV] at x
  cases hp:popV h d v with
  |error y=>rw[hp] at x;cases x;exact popV_err hp
  |ok r=>
   rw[hp] at x
   simp only at x
   split at x
   ·cases x;rfl
   ·exact ih x
theorem topC_err {s:Stk} {e:Int} (x:topC s= .error e):e=1∨e=5:=by
 unfold topC at x;split at x
 ·cases x;exact .inl rfl
 ·split at x
  ·cases x;exact .inr rfl
  ·cases x
theorem wantS_err {s:Stk} {l:List Int} {e:Int} (x:wantS s l= .error e):e=1∨e=5:=by
 unfold wantS at x;split at x
 ·cases x
 ·cases ht:topC s with
  |error y=>rw[ht] at x;cases x;exact topC_err ht
  |ok c=>
   rw[ht] at x
   simp only at x
   cases hw:wantV c.ht c.dead l.reverse s.vals with
   |error y=>rw[hw] at x;cases x;exact .inr (wantV_err hw)
   |ok v=>rw[hw] at x;cases x
theorem pushS_err {s:Stk} {l:List Int} {e:Int} (x:pushS s l= .error e):e=1:=by
 unfold pushS at x;split at x
 ·cases x;rfl
 ·cases x
theorem openS_err {s:Stk} {op:Int} {l:List Int} {e:Int} (x:openS s op l= .error e):e=1:=by
 unfold openS at x;split at x
 ·cases x;rfl
 ·cases x
theorem popS_err {s:Stk} {e:Int} (x:popS s= .error e):e=1∨e=5:=by
 unfold popS at x
 cases ht:topC s with
 |error y=>rw[ht] at x;cases x;exact topC_err ht
 |ok c=>
  rw[ht] at x
  simp only at x
  cases hw:popV c.ht c.dead s.vals with
  |error y=>rw[hw] at x;cases x;exact .inr (popV_err hw)
  |ok v=>rw[hw] at x;cases x
theorem closeS_err {s:Stk} {e:Int} (x:closeS s= .error e):e=1∨e=5:=by
 unfold closeS at x
 cases ht:topC s with
 |error y=>rw[ht] at x;cases x;exact topC_err ht
 |ok c=>
  rw[ht] at x
  simp only at x
  cases hw:wantV c.ht c.dead c.fin.reverse s.vals with
  |error y=>rw[hw] at x;cases x;exact .inr (wantV_err hw)
  |ok v=>
   rw[hw] at x
   simp only at x
   split at x
   ·cases x;exact .inr rfl
   ·cases x
theorem killS_err {s:Stk} {e:Int} (x:killS s= .error e):e=1∨e=5:=by
 unfold killS at x
 cases ht:topC s with
 |error y=>rw[ht] at x;cases x;exact topC_err ht
 |ok c=>rw[ht] at x;cases x
theorem WOk.want {w:WkS} {n:Nat} (h:WOk w n) (l:List Int):WOk (w.want l) n:=
 WOk.put (n:=n) (fun s' e h0=>⟨(wantS_ok e).1,by rw[(wantS_ok e).2.1];exact(h h0).2⟩) (fun _ x=>by have:=wantS_err x;omega)
theorem WOk.push {w:WkS} {n:Nat} (h:WOk w n) (l:List Int):WOk (w.push l) n:=
 WOk.put (n:=n) (fun s' e h0=>⟨(pushS_ok e).1,by rw[(pushS_ok e).2.1];exact(h h0).2⟩) (fun _ x=>by have:=pushS_err x;omega)
theorem WOk.kill {w:WkS} {n:Nat} (h:WOk w n):WOk w.kill n:=
 WOk.put (n:=n) (fun s' e h0=>⟨(killS_ok e).1,by rw[(killS_ok e).2.1];exact(h h0).2⟩) (fun _ x=>by have:=killS_err x;omega)
theorem WOk.opens {w:WkS} {n:Nat} (h:WOk w n) (op:Int) (l:List Int):WOk (w.opens op l) (n+1):=
 WOk.put (n:=n) (fun s' e h0=>⟨(openS_ok e).1,by rw[(openS_ok e).2.1,List.length_append];have:=(h h0).2;simp[this]⟩) (fun _ x=>by have:=openS_err x;omega)
theorem WOk.pop {w:WkS} {n:Nat} (h:WOk w n):WOk w.pop.2 n:=by
 unfold WkS.pop
 cases hp:popS w.s with
 |ok r=>obtain⟨t,s'⟩:=r;exact WOk.put (n:=n) (fun s e h0=>by cases e;exact⟨(popS_ok hp).1,by rw[(popS_ok hp).2.1];exact(h h0).2⟩) (fun _ x=>by cases x)
 |error e=>exact WOk.put (n:=n) (fun s x=>by cases x) (fun e' x=>by cases x;have:=popS_err hp;omega)
theorem WOk.closed {w:WkS} {n:Nat} (h:WOk w (n+1)):WOk w.closed.2 n:=by
 unfold WkS.closed
 cases hp:closeS w.s with
 |ok r=>
  obtain⟨t,s'⟩:=r
  exact WOk.put (n:=n) (fun s e h0=>by cases e;exact⟨(closeS_ok hp).1,by rw[(closeS_ok hp).2.2.1,List.length_dropLast,(h h0).2];rfl⟩) (fun _ x=>by cases x)
 |error e=>exact WOk.put (n:=n) (fun s x=>by cases x) (fun e' x=>by cases x;have:=closeS_err hp;omega)
theorem WOk.must {w:WkS} {n:Nat} (h:WOk w n) (b:Bool) (e:Int):WOk (w.must b e) n:=by
 unfold WkS.must
 split
 ·rename_i hh
  simp only[Bool.and_eq_true,beq_iff_eq] at hh
  intro _;exact h hh.2
 ·exact h
theorem WOk.label {w:WkS} {n:Nat} (h:WOk w n) (k:Int):WOk (w.label k).2 n:=by
 unfold WkS.label
 cases labelS w.s k with
 |ok l=>exact h
 |error e=>exact h.must _ _
theorem WOk.labels {w:WkS} {n:Nat} (h:WOk w n) (t l:List Int):WOk (labelsS w t l) n:=by
 induction l generalizing w with
 |nil=>exact h
 |cons a l ih=>exact ih ((h.label a).must _ _)
def opensN (op:Int) (n:Nat):Nat:=if op=2∨op=3∨op=4 then n+1 else if op=11 then n-1 else n
theorem WOk.branch {env:TEnv} {w:WkS} {n:Nat} (h:WOk w n) (i:TInstr):WOk (branchS env w i) n:=by
 unfold branchS
 by_cases h15:i.op=15
 ·rw[if_pos h15];exact(h.want _).kill
 ·rw[if_neg h15]
  have h1:=(h.label i.a).labels (w.label i.a).1 i.labels
  have h2:WOk (if i.op=12 then labelsS (w.label i.a).2 (w.label i.a).1 i.labels else(labelsS (w.label i.a).2 (w.label i.a).1 i.labels).want [127]) n:=by
   split
   ·exact h1
   ·exact h1.want _
  simp only
  by_cases h13:i.op=13
  ·rw[if_pos h13];exact(h2.want _).push _
  ·rw[if_neg h13];exact(h2.want _).kill
theorem WOk.call {env:TEnv} {w:WkS} {n:Nat} (h:WOk w n) (i:TInstr):WOk (callS env w i) n:=by
 unfold callS
 simp only
 refine WOk.push (WOk.want ?_ _) _
 by_cases h17:i.op=17
 ·rw[if_pos h17];exact(h.must _ _).want _
 ·rw[if_neg h17];exact h.must _ _
theorem WOk.chosen {w:WkS} {n:Nat} (h:WOk w n) (i:TInstr):WOk (chosenS w i) n:=by
 unfold chosenS
 by_cases h26:i.op=26
 ·rw[if_pos h26];exact h.pop
 ·rw[if_neg h26];exact(((h.want _).pop.pop).must _ _).push _
theorem WOk.nested {w:WkS} {n:Nat} (h:WOk w (n+1)) (i:TInstr) (hop:i.op=2∨i.op=3∨i.op=4∨i.op=5∨i.op=11):WOk (nestedS w i) (opensN i.op (n+1)):=by
 unfold nestedS opensN
 by_cases h4:i.op=4
 ·rw[if_pos h4,if_pos (by omega)];exact(h.want _).opens _ _
 ·rw[if_neg h4]
  by_cases h5:i.op=5
  ·rw[if_pos h5,if_neg (by omega),if_neg (by omega)];exact(h.must _ _).closed.opens _ _
  ·rw[if_neg h5]
   by_cases h11:i.op=11
   ·rw[if_pos h11,if_neg (by omega),if_pos h11];exact((h.must _ _).closed.must _ _).push _
   ·rw[if_neg h11,if_pos (by omega)];exact h.opens _ _
theorem WOk.vars {env:TEnv} {w:WkS} {n:Nat} (h:WOk w n) (i:TInstr):WOk (variableS env w i) n:=by
 unfold variableS
 simp only
 have key: ∀r:Int×WkS,WOk r.2 n→WOk (if i.op=32∨i.op=34∨i.op=35 then(if i.op≠32∧i.op≠35 then r.2.want [r.1] else r.2).push [r.1] else(if i.op≠32∧i.op≠35 then r.2.want [r.1] else r.2)) n:=fun r hr=>by
  have h1:WOk (if i.op≠32∧i.op≠35 then r.2.want [r.1] else r.2) n:=by
   split
   ·exact hr.want _
   ·exact hr
  split
  ·exact h1.push _
  ·exact h1
 refine key _ ?_
 split
 ·cases env.locs[i.a.toNat]? with
  |some t=>exact h
  |none=>exact h.must _ _
 ·cases env.globals[i.a.toNat]? with
  |some t=>exact h.must _ _
  |none=>exact h.must _ _
theorem WOk.mem {acc:Int→Int×Int×Bool} {env:TEnv} {w:WkS} {n:Nat} (h:WOk w n) (i:TInstr):WOk (memoryS acc env w i) n:=by
 unfold memoryS
 simp only
 by_cases h63:i.op=63
 ·rw[if_pos h63];exact(h.must _ _).push _
 ·rw[if_neg h63]
  by_cases h64:i.op=64
  ·rw[if_pos h64];exact((h.must _ _).want _).push _
  ·rw[if_neg h64]
   split
   ·exact((h.must _ _).must _ _).want _
   ·exact(((h.must _ _).must _ _).want _).push _
end Go.Proofs.YtfpioigggjnffaaGreatDoor.E
set_option autoImplicit false
set_option maxRecDepth 100000
set_option maxHeartbeats 4000000
set_option pp.maxSteps 20000
namespace Go.Proofs.YtfpioigggjnffaaGreatDoor.E
open Go.Ev
attribute [go_sem] rgB.eq_1 rgSt.eq_1 rgIt.eq_1 rgLen.eq_1 rgLen.eq_2 rgEnd.eq_1 rgEnd.eq_2 lst.eq_1 rgTm.eq_1 rgE.eq_1 rgE.eq_2 rgE.eq_3 rgE.eq_4 rg1.eq_1 rgAsg.eq_1 rgAsg.eq_2 rgAsg.eq_3 rgAsg.eq_4 rgNext.eq_1 rgNext.eq_2 rgNext.eq_3 rgNext.eq_4 rgGet.eq_1 rgAt.eq_1 rgAt.eq_2
theorem back_ev (fu n:Nat) (xs:List D):evF (G0 fu) (n+1) 178 [.d (.list xs)] []=some (.fn (.func 213) [] [.ptr 0 0],[.cells [.d (.list xs)]]):=by
 rw[evF.eq_2,evX.eq_def,G0ext,G0P,Tryz.func178];simp only[Tryz.f178,evB]
 simp only[go_sem,seval, -Nat.reduceSubDiff,↓reduceIte,reduceCtorEq]
theorem rgGo_want {c:Ctx} {asg bd:Code} {p q:Tmp} {tm:Map V} {r:Nat} {l:List Int} {h:Int} {d:Bool} (good:List Int→Prop) (H:List Int→Map Go.Ev.Obj) (E:Nat→Int→Map Go.Ev.Obj)
 (hr: ∀k v,k<l.length→good v→rg1 c asg bd p q tm (H v) k (rgGet (H v) r k)=match popV h d v with
   | .error e=>some (.ret,E v.length e)
   | .ok (x,v')=>if x≠0∧l.getD k 0≠0∧x≠l.getD k 0 then some (.ret,E v'.length 5) else some (.normal,H v'))
 (hg: ∀v x v',good v→popV h d v= .ok (x,v')→good v'):
 ∀k,k≤l.length→∀v,good v→∃m,rgGo c asg bd p q tm r k (H v)=some (match wantV h d (l.take k).reverse v with
  | .ok v'=>(.normal,H v')
  | .error e=>(.ret,E m e))
 |0,_,v,_=>⟨0,rfl⟩
 |k+1,hk,v,hv=>by
  have e1:(l.take (k+1)).reverse=l.getD k 0::(l.take k).reverse:=by
   rw[List.take_add_one,List.getElem?_eq_getElem (show k<l.length by omega)]
   simp[show k<l.length by omega]
  rw[e1]
  simp only[rgGo,hr k v (by omega) hv,wantV]
  cases hp:popV h d v with
  |error e=>exact⟨v.length,rfl⟩
  |ok z=>
   obtain⟨x,v'⟩:=z
   simp only
   by_cases hc:x≠0∧l.getD k 0≠0∧x≠l.getD k 0
   ·rw[if_pos hc,if_pos hc];exact⟨v'.length,rfl⟩
   ·rw[if_neg hc,if_neg hc]
    exact rgGo_want good H E hr hg k (by omega) v' (hg v x v' hv hp)
theorem popV_take {h:Int} {d:Bool} {v v':List Int} {x:Int} {X:List D} (hX:X.take v.length=byt v) (e:popV h d v= .ok (x,v')):X.take v'.length=byt v'∧v'.length≤v.length:=by
 unfold popV at e
 split at e
 ·cases e
  refine⟨?_,by rw[List.length_dropLast];omega⟩
  have:X.take v.dropLast.length=(X.take v.length).take v.dropLast.length:=by rw[List.take_take,List.length_dropLast,Nat.min_eq_left (by omega)]
  rw[this,hX,List.length_dropLast,List.dropLast_eq_take,byt,byt,List.map_take]
 ·split at e
  ·cases e;exact⟨hX,Nat.le_refl _⟩
  ·cases e
theorem want_ev (fu n:Nat) (v l:List Int) (lc j:Nat) (X Y:List D) (f1 f2:Bool) (c:Ctl) (hX:X.take v.length=byt v) (hY:Y[j]? =some c.dd) (hh:0≤c.ht) (hv:v.length<1000000) (hl:l.length<1000000):
 ∃m,evF (G fu) (n+1) 132 [.ptr 0 0, .d (.list (byt l))] [.cells (wcells v.length lc j), .row 1 X 0 f1 false, .row 4 Y 0 f2 false]=some (match wantV c.ht c.dead l.reverse v with
  | .ok v'=>(.d (.int .i64 0),[.cells (wcells v'.length lc j), .row 1 X 0 f1 false, .row 4 Y 0 f2 false])
  | .error e=>(.d (.int .i64 e),[.cells (wcells m lc j), .row 1 X 0 f1 false, .row 4 Y 0 f2 false])):=by
 rw[evF.eq_2,evX.eq_def,Gext,exts_132]
 simp only[rangeX,G0P,Tryz.func132]
 simp only[Tryz.f132,rangeX1]
 have B:=back_ev fu 3 (byt l)
 simp only[go_sem,seval, -Nat.reduceSubDiff,↓reduceIte,reduceCtorEq,wcells,B,byt_len,show l.length≤1099511627776 by omega]
 generalize hr:rgGo _ _ _ _ _ _ _ _ _=r
 obtain⟨m,rfl⟩: ∃m,r=some (match wantV c.ht c.dead (l.take l.length).reverse v with
  | .ok v'=>(.normal,[(0,Ev.Obj.cells [V.row 1 0 0 v'.length,V.row 2 0 0 lc,V.eptr 2 0 j 0]),(1,Obj.row 1 X 0 f1 false),(2,Obj.row 4 Y 0 f2 false),(192,Ev.Obj.cells [V.ptr 0 0]),(320,Ev.Obj.cells [V.d (D.int IntKind.i64 0)]),(704,Ev.Obj.cells [V.d (D.list (byt l))])])
  | .error e=>(.ret,[(0,Ev.Obj.cells [V.row 1 0 0 m,V.row 2 0 0 lc,V.eptr 2 0 j 0]),(1,Obj.row 1 X 0 f1 false),(2,Obj.row 4 Y 0 f2 false),(192,Ev.Obj.cells [V.ptr 0 0]),(320,Ev.Obj.cells [V.d (D.int IntKind.i64 e)]),(704,Ev.Obj.cells [V.d (D.list (byt l))])])):=by
  rw[←hr]
  refine rgGo_want (fun v=>v.length<1000000∧X.take v.length=byt v) (fun v=>[(0,Ev.Obj.cells [V.row 1 0 0 v.length,V.row 2 0 0 lc,V.eptr 2 0 j 0]),(1,Obj.row 1 X 0 f1 false),(2,Obj.row 4 Y 0 f2 false),(192,Ev.Obj.cells [V.ptr 0 0]),(320,Ev.Obj.cells [V.d (D.int IntKind.i64 0)]),(704,Ev.Obj.cells [V.d (D.list (byt l))])])
   (fun m e=>[(0,Ev.Obj.cells [V.row 1 0 0 m,V.row 2 0 0 lc,V.eptr 2 0 j 0]),(1,Obj.row 1 X 0 f1 false),(2,Obj.row 4 Y 0 f2 false),(192,Ev.Obj.cells [V.ptr 0 0]),(320,Ev.Obj.cells [V.d (D.int IntKind.i64 e)]),(704,Ev.Obj.cells [V.d (D.list (byt l))])]) ?_ ?_ l.length (Nat.le_refl _) v ⟨hv,hX⟩
  ·rintro k v hk ⟨hv,hX⟩
   have hx:(byt l)[k]? =some (.int .u8 (l.getD k 0)):=getD_map hk
   have P:=pop0_ev fu 3 v lc j X Y f1 false f2 false c hX hY hh hv
   simp only[wcells] at P
   generalize l.getD k 0=t at*
   cases hp:popV c.ht c.dead v with
   |error e=>
    rw[hp] at P
    have he: ¬e=0:=by have:=popV_err hp;omega
    simp only[go_sem,seval, -Nat.reduceSubDiff,↓reduceIte,reduceCtorEq,hx,P,he]
   |ok z=>
    obtain⟨x,v'⟩:=z
    rw[hp] at P
    by_cases c1:x=0
    ·subst c1;simp only[go_sem,seval, -Nat.reduceSubDiff,↓reduceIte,reduceCtorEq,hx,P,ne_eq]
    ·by_cases c2:t=0
     ·subst c2;simp only[go_sem,seval, -Nat.reduceSubDiff,↓reduceIte,reduceCtorEq,hx,P,ne_eq,c1]
     ·by_cases c3:x=t
      ·subst c3;simp only[go_sem,seval, -Nat.reduceSubDiff,↓reduceIte,reduceCtorEq,hx,P,ne_eq,c1]
      ·simp only[go_sem,seval, -Nat.reduceSubDiff,↓reduceIte,reduceCtorEq,hx,P,ne_eq,c1,c2,c3]
  ·rintro v x v' ⟨hv,hX⟩ hp
   obtain⟨a,b⟩:=popV_take hX hp
   exact⟨by omega,a⟩
 refine⟨m, ?_⟩
 rw[List.take_length]
 cases hw:wantV c.ht c.dead l.reverse v with
 |error e=>simp only[go_sem,seval, -Nat.reduceSubDiff,↓reduceIte,reduceCtorEq]
 |ok v'=>simp only[go_sem,seval, -Nat.reduceSubDiff,↓reduceIte,reduceCtorEq]
end Go.Proofs.YtfpioigggjnffaaGreatDoor.E
set_option autoImplicit false
set_option maxRecDepth 100000
set_option maxHeartbeats 4000000
set_option pp.maxSteps 20000
namespace Go.Proofs.YtfpioigggjnffaaGreatDoor.E
open Go.Ev
def stk0:Stk:=⟨[],[]⟩
def stkR:Except Int Stk→Option Res
 | .ok s=>some (.tup [.d s.dd, .d (.int .i64 0)],[])
 | .error e=>some (.tup [.d stk0.dd, .d (.int .i64 e)],[])
structure SzOk (fu:Nat) (s:Stk):Prop where
 v:s.vals.length<fu
 c:s.ctrls.length<fu
 hv:s.vals.length<1000000
 hc:s.ctrls.length<1000000
theorem byt_cat (l m:List Int):byt l++byt m=byt (l++m):=by simp[byt]
theorem byt_take' (l:List Int) (k:Nat):(byt l).take k=byt (l.take k):=by simp[byt]
theorem byt_takeL (l:List Int):(byt l).take l.length=byt l:=List.take_of_length_le (by simp)
theorem ctlds_takeL (l:List Ctl):(ctlds l).take l.length=ctlds l:=List.take_of_length_le (by simp)
theorem w0:IntKind.wrap .i64 0=0:=by decide
theorem grow_ev (fu n:Nat) (k:Nat) (h:k<10000000):evF (G fu) (n+1) 224 [.nilsl, .d (.int .i64 k)] []=some (.row 0 0 0 0,[.row 1 (List.replicate k (.int .u8 0)) 0 false false]):=by
 rw[evF.eq_2,evX.eq_def,Gext,exts_no _ (f:=224) (by decide),GP,Tryz.func224];simp only[Tryz.f224,evB]
 have Wk:=wrap_i64 (show-9223372036854775808≤(k:Int) by omega) (by omega)
 have hn: ¬(k:Int)<0:=by omega
 by_cases h0:k=0
 ·subst h0
  simp only[go_sem,seval, -Nat.reduceSubDiff,↓reduceIte,reduceCtorEq,w0,Int.sub_zero,Int.natCast_zero,Int.lt_irrefl,List.replicate_zero]
 ·have h1:(0:Int)<k:=by omega
  have h2:(k:Int)≤1099511627776:=by omega
  simp only[go_sem,seval, -Nat.reduceSubDiff,↓reduceIte,reduceCtorEq,Wk,w0,Int.sub_zero,h1,hn,h2,List.length_replicate]
def sum2 (a b:List Int):Nat→Nat
 |0=>0
 |1=>a.length
 |_=>a.length+b.length
def cat2 (a b:List Int):Nat→List D
 |0=>List.replicate (a.length+b.length) (.int .u8 0)
 |1=>byt a
 |_=>byt (a++b)
theorem concat_ev (fu n:Nat) (a b:List Int) (h:a.length<1000000) (hb:b.length<1000000) (hf:3<fu):evF (G fu) (n+2) 220 [.d (.list [.list (byt a), .list (byt b)])] []=some (.row 0 0 0 (a++b).length,[.row 1 (byt (a++b)) 0 false false]):=by
 have Gr:=grow_ev fu n (a.length+b.length) (by omega)
 have W1:=wrap_i64 (show-9223372036854775808≤(a.length:Int) by omega) (by omega)
 have W2:=wrap_i64 (show-9223372036854775808≤(a.length:Int)+b.length by omega) (by omega)
 have V1:=wrap_i64 (show-9223372036854775808≤(1:Int) by omega) (by omega)
 have V2:=wrap_i64 (show-9223372036854775808≤(2:Int) by omega) (by omega)
 have hr1:a.length≤1099511627776:=by omega
 have hr2:a.length+b.length≤1099511627776:=by omega
 rw[evF.eq_2,evX.eq_def,Gext,exts_no _ (f:=220) (by decide),GP,Tryz.func220];simp only[Tryz.f220,evB]
 have hn1: ¬(a.length:Int)<0:=by omega
 have hn2: ¬(a.length:Int)+b.length<0:=by omega
 simp only[go_sem,seval, -Nat.reduceSubDiff,↓reduceIte,reduceCtorEq]
 rw[loop_some 2 (fun i=>⟨[(0, .d (.list [.list (byt a), .list (byt b)])),(3, .d (.int .i64 (sum2 a b i))),(9, .d (.list [.list (byt a), .list (byt b)])),(10, .d (.int .i64 2)),(11, .d (.int .i64 i))],[]⟩) (.exit 0,⟨[(0, .d (.list [.list (byt a), .list (byt b)])),(3, .d (.int .i64 ((a.length+b.length:Nat):Int)))],[]⟩) trivial (by omega) ?_]
 case hs=>
  intro i hi
  match i,hi with
  |0,_=>simp only[go_sem,seval, -Nat.reduceSubDiff,↓reduceIte,reduceCtorEq,sum2,idx,byt_len,W1,V1,Int.zero_add,hn1,Int.natCast_zero,Int.natCast_one]
  |1,_=>simp only[go_sem,seval, -Nat.reduceSubDiff,↓reduceIte,reduceCtorEq,sum2,idx,byt_len,W2,V2,hn2,Int.natCast_one,Int.natCast_add]
 case he=>simp only[go_sem,seval, -Nat.reduceSubDiff,↓reduceIte,reduceCtorEq,sum2]
 ·simp only[go_sem,seval, -Nat.reduceSubDiff,↓reduceIte,reduceCtorEq,Gr,sum2]
  rw[loop_some 2 (fun i=>⟨[(6, .row 1600 0 0 (sum2 a b i)),(25, .d (.list [.list (byt a), .list (byt b)])),(26, .d (.int .i64 2)),(27, .d (.int .i64 i))],[(1600, .row 1 (cat2 a b i) 0 false (decide (0<i)))]⟩) (.exit 2,⟨[(6, .row 1600 0 0 (a++b).length)],[(1600, .row 1 (byt (a++b)) 0 false true)]⟩) trivial (by omega) ?_]
  case hs=>
   intro i hi
   match i,hi with
   |0,_=>simp only[go_sem,seval, -Nat.reduceSubDiff,↓reduceIte,reduceCtorEq,sum2,cat2,idx,byt_len,byt_sized,V1,hr1,Int.natCast_zero,Int.natCast_one,Nat.lt_irrefl,show(0:Nat)<1 from by omega]
   |1,_=>simp only[go_sem,seval, -Nat.reduceSubDiff,↓reduceIte,reduceCtorEq,sum2,cat2,idx,byt_len,byt_sized,byt_takeL,byt_cat,V2,hr2,Int.natCast_one,show(0:Nat)<1 from by omega,show(0:Nat)<2 from by omega]
  case he=>simp only[go_sem,seval, -Nat.reduceSubDiff,↓reduceIte,reduceCtorEq,sum2,cat2,List.length_append,show(0:Nat)<2 from by omega]
  ·simp only[go_sem,seval, -Nat.reduceSubDiff,↓reduceIte,reduceCtorEq]
  ·rfl
 ·rfl
end Go.Proofs.YtfpioigggjnffaaGreatDoor.E
set_option autoImplicit false
namespace Go.Proofs.YtfpioigggjnffaaGreatDoor.E
open Go.Ev
variable {sane:TInstr→Bool} {acc:Int→Int×Int×Bool} {shape:Int→Option (List Int×Int)} {env:TEnv}
theorem goS_ok {s:Stk} {i:TInstr} {n:Nat} (hs:saneS s=true) (hn:s.ctrls.length=n+1) (h0:0≤i.op):WOk (goS acc shape env s i) (opensN i.op (n+1)):=by
 have h:WOk ⟨s,0⟩ (n+1):=fun _=>⟨hs,hn⟩
 unfold goS
 simp only
 by_cases c0:i.op=0
 ·rw[if_pos c0,c0];exact h.kill
 ·rw[if_neg c0]
  by_cases c1:i.op=1
  ·rw[if_pos c1,c1];exact h
  ·rw[if_neg c1]
   by_cases c5:i.op≤5∨i.op=11
   ·rw[if_pos c5];exact h.nested i (by omega)
   ·rw[if_neg c5]
    have ho:opensN i.op (n+1)=n+1:=by unfold opensN;rw[if_neg (by omega),if_neg (by omega)]
    rw[ho]
    split
    ·exact h.branch i
    ·split
     ·exact h.call i
     ·split
      ·exact h.chosen i
      ·split
       ·exact h.vars i
       ·split
        ·exact h.mem i
        ·split
         ·exact h.push _
         ·split
          ·exact h.push _
          ·cases shape i.op with
           |none=>exact h
           |some r=>exact(h.want _).push _
theorem stepS_ok {s s':Stk} {i:TInstr} {n:Nat} (e:stepS sane acc shape env s i= .ok s') (hn:s.ctrls.length=n+1) (h0:sane i=true→0≤i.op):
 saneS s=true∧sane i=true∧saneS s'=true∧s'.ctrls.length=opensN i.op (n+1):=by
 unfold stepS at e
 split at e
 ·cases e
 ·rename_i hh
  simp only[Bool.or_eq_true,Bool.not_eq_true',not_or,Bool.not_eq_false] at hh
  simp only at e
  split at e
  ·cases e
  ·rename_i he
   simp only[ne_eq,Classical.not_not] at he
   cases e
   have:=goS_ok (acc:=acc) (shape:=shape) (env:=env) hh.1 hn (h0 hh.2) he
   exact⟨hh.1,hh.2,this.1,this.2⟩
theorem pathS_cons {s:Stk} {i:TInstr} {l:List TInstr} {p:List Stk} (e:pathS sane acc shape env s (i::l)= .ok p):
 ∃s' q,stepS sane acc shape env s i= .ok s'∧pathS sane acc shape env s' l= .ok q∧p=s::q:=by
 simp only[pathS] at e
 cases hs:stepS sane acc shape env s i with
 |error x=>rw[hs] at e;cases e
 |ok s'=>
  rw[hs] at e
  simp only at e
  cases hp:pathS sane acc shape env s' l with
  |error x=>rw[hp] at e;cases e
  |ok q=>rw[hp] at e;cases e;exact⟨s',q,rfl,hp,rfl⟩
theorem pathS_len {s:Stk} {l:List TInstr} {p:List Stk} (e:pathS sane acc shape env s l= .ok p):p.length=l.length+1:=by
 induction l generalizing s p with
 |nil=>cases e;rfl
 |cons i l ih=>
  obtain⟨s',q,_,hq,rfl⟩:=pathS_cons e
  simp[ih hq]
theorem pathS_at {s:Stk} {l:List TInstr} {p:List Stk} (e:pathS sane acc shape env s l= .ok p):
 p[0]? =some s∧∀k i,l[k]? =some i→∃a b,p[k]? =some a∧p[k+1]? =some b∧stepS sane acc shape env a i= .ok b:=by
 induction l generalizing s p with
 |nil=>cases e;exact⟨rfl,fun k i h=>by simp at h⟩
 |cons j l ih=>
  obtain⟨s',q,hs,hq,rfl⟩:=pathS_cons e
  obtain⟨h0,hk⟩:=ih hq
  refine⟨rfl,fun k i h=> ?_⟩
  cases k with
  |zero=>simp only[List.getElem?_cons_zero] at h;cases h;exact⟨s,s',rfl,by simpa using h0,hs⟩
  |succ k=>
   simp only[List.getElem?_cons_succ] at h
   obtain⟨a,b,ha,hb,hst⟩:=hk k i h
   exact⟨a,b,by simpa using ha,by simpa using hb,hst⟩
end Go.Proofs.YtfpioigggjnffaaGreatDoor.E
set_option autoImplicit false
namespace Go.Proofs.YtfpioigggjnffaaGreatDoor.E
open Go.Ev
def LiveOk (s:Stk):Prop:=∀(k:Nat) (c:Ctl),s.ctrls[k]? =some c→c.dead=false→∀j:Nat,c.ht≤(j:Int)→(∀c',s.ctrls[k+1]? =some c'→(j:Int)<c'.ht)→∀x,s.vals[j]? =some x→x≠0
theorem prefix_get {v' v:List Int} (h:v'<+:v) {j:Nat} {x:Int} (e:v'[j]? =some x):v[j]? =some x:=by
 obtain⟨t,rfl⟩:=h
 rw[List.getElem?_append_left (List.getElem?_eq_some_iff.1 e).1];exact e
theorem LiveOk.vals {s s':Stk} (h:LiveOk s) (hc:s'.ctrls=s.ctrls) (hv:s'.vals<+:s.vals):LiveOk s':=fun k c hk hd j hj hn x hx=>
 h k c (by rw[←hc];exact hk) hd j hj (by rw[←hc];exact hn) x (prefix_get hv hx)
theorem LiveOk.want {s s':Stk} {l:List Int} (h:LiveOk s) (e:wantS s l= .ok s'):LiveOk s':=h.vals (wantS_ok e).2.1 (wantS_ok e).2.2
theorem LiveOk.pop {s s':Stk} {t:Int} (h:LiveOk s) (e:popS s= .ok (t,s')):LiveOk s':=h.vals (popS_ok e).2.1 (popS_ok e).2.2
theorem rises_get {h:Int} {a:List Ctl} {m:Int} (e:risesB h a=some m) {k:Nat} {c:Ctl} (hk:a[k]? =some c):c.ht≤m∧∀c',a[k+1]? =some c'→c.ht≤c'.ht:=by
 induction a generalizing h k with
 |nil=>simp at hk
 |cons d a ih=>
  simp only[risesB] at e
  split at e
  ·cases k with
   |zero=>
    simp only[List.getElem?_cons_zero] at hk
    cases hk
    refine⟨risesB_ge e,fun c' hc'=> ?_⟩
    simp only[List.getElem?_cons_succ] at hc'
    cases a with
    |nil=>simp at hc'
    |cons x a=>
     simp only[List.getElem?_cons_zero] at hc'
     cases hc'
     simp only[risesB] at e
     split at e
     ·rename_i hh;simp only[Bool.and_eq_true,decide_eq_true_eq] at hh;exact hh.2
     ·cases e
   |succ k=>exact ih e (by simpa using hk)
  ·cases e
theorem LiveOk.push {s s':Stk} {l:List Int} (h:LiveOk s) (hl: ∀c,s.ctrls.getLast? =some c→c.dead=false→∀x∈l,x≠0) (e:pushS s l= .ok s'):LiveOk s':=by
 obtain⟨hs',hc,hv⟩:=pushS_ok e
 have hs:saneS s=true:=by
  unfold pushS at e
  split at e
  ·cases e
  ·rename_i hn;simp only[Bool.or_eq_true,Bool.not_eq_true',not_or,Bool.not_eq_false] at hn;exact hn.1
 obtain⟨m,hr,hm,_⟩:=(saneS_iff s).1 hs
 intro k c hk hd j hj hn x hx
 rw[hc] at hk hn
 rw[hv] at hx
 by_cases hlt:j<s.vals.length
 ·rw[List.getElem?_append_left hlt] at hx
  exact h k c hk hd j hj hn x hx
 ·rw[List.getElem?_append_right (by omega)] at hx
  have hlast:s.ctrls.getLast? =some c:=by
   rw[List.getLast?_eq_getElem?]
   cases hn1:s.ctrls[k+1]? with
   |some c'=>have:=hn c' hn1;have:=(rises_get hr hn1).1;omega
   |none=>
    have h1:=List.getElem?_eq_none_iff.1 hn1
    have h2:=(List.getElem?_eq_some_iff.1 hk).1
    have:s.ctrls.length-1=k:=by omega
    rw[this];exact hk
  exact hl c hlast hd x (List.mem_of_getElem? hx)
theorem LiveOk.open {s s':Stk} {op:Int} {l:List Int} (h:LiveOk s) (e:openS s op l= .ok s'):LiveOk s':=by
 obtain⟨_,hc,hv⟩:=openS_ok e
 intro k c hk hd j hj hn x hx
 rw[hc] at hk hn
 rw[hv] at hx
 have hj2:=(List.getElem?_eq_some_iff.1 hx).1
 by_cases hlt:k<s.ctrls.length
 ·rw[List.getElem?_append_left hlt] at hk
  refine h k c hk hd j hj (fun c' hc'=> ?_) x hx
  exact hn c' (by rw[List.getElem?_append_left (List.getElem?_eq_some_iff.1 hc').1];exact hc')
 ·rw[List.getElem?_append_right (by omega)] at hk
  obtain⟨rfl⟩:some c=some (⟨op,l,s.vals.length,false⟩:Ctl):=by
   cases hh:k-s.ctrls.length with
   |zero=>rw[hh] at hk;simpa using hk.symm
   |succ n=>rw[hh] at hk;simp at hk
  simp only at hj;omega
theorem LiveOk.close {s s':Stk} {c:Ctl} (h:LiveOk s) (e:closeS s= .ok (c,s')):LiveOk s':=by
 obtain⟨_,hlast,hc,hv,hl,_⟩:=closeS_ok e
 obtain⟨ys,hy⟩:=List.getLast?_eq_some_iff.1 hlast
 intro k d hk hd j hj hn x hx
 rw[hc,hy,List.dropLast_concat] at hk hn
 have hk2:=(List.getElem?_eq_some_iff.1 hk).1
 have hj2:=(List.getElem?_eq_some_iff.1 hx).1
 refine h k d (by rw[hy,List.getElem?_append_left hk2];exact hk) hd j hj (fun c' hc'=> ?_) x (prefix_get hv hx)
 rw[hy] at hc'
 by_cases h1:k+1<ys.length
 ·rw[List.getElem?_append_left h1] at hc';exact hn c' hc'
 ·rw[List.getElem?_append_right (by omega)] at hc'
  have:k+1-ys.length=0:=by omega
  rw[this] at hc'
  simp only[List.getElem?_cons_zero] at hc'
  cases hc';omega
theorem LiveOk.kill {s s':Stk} (h:LiveOk s) (e:killS s= .ok s'):LiveOk s':=by
 obtain⟨_,_,hv,c,hlast,hc,hl⟩:=killS_ok e
 obtain⟨ys,hy⟩:=List.getLast?_eq_some_iff.1 hlast
 intro k d hk hd j hj hn x hx
 rw[hc,hy,List.dropLast_concat] at hk hn
 by_cases h1:k<ys.length
 ·rw[List.getElem?_append_left h1] at hk
  refine h k d (by rw[hy,List.getElem?_append_left h1];exact hk) hd j hj (fun c' hc'=> ?_) x (prefix_get hv hx)
  rw[hy] at hc'
  by_cases h2:k+1<ys.length
  ·rw[List.getElem?_append_left h2] at hc'
   exact hn c' (by rw[List.getElem?_append_left h2];exact hc')
  ·rw[List.getElem?_append_right (by omega)] at hc'
   have h3:k+1-ys.length=0:=by omega
   rw[h3] at hc'
   simp only[List.getElem?_cons_zero] at hc'
   cases hc'
   have:=hn {c with dead:=true} (by rw[List.getElem?_append_right (by omega),h3];rfl)
   exact this
 ·rw[List.getElem?_append_right (by omega)] at hk
  cases hh:k-ys.length with
  |zero=>rw[hh] at hk;simp only[List.getElem?_cons_zero] at hk;cases hk;cases hd
  |succ n=>rw[hh] at hk;simp at hk
end Go.Proofs.YtfpioigggjnffaaGreatDoor.E
