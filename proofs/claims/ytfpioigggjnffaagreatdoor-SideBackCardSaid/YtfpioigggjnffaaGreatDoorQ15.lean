/- Q15, Z2, S3, S4. -/
import Derived.Test.YtfpioigggjnffaaGreatDoorQ13
import Derived.Test.YtfpioigggjnffaaGreatDoorF6
import Derived.Test.YtfpioigggjnffaaGreatDoorEvL
import Derived.Test.YtfpioigggjnffaaGreatDoorN2
import Derived.Test.YtfpioigggjnffaaGreatDoorEvD
set_option linter.unnecessarySimpa false
set_option linter.unusedSimpArgs false
set_option linter.unusedVariables false
set_option autoImplicit false
set_option maxRecDepth 100000
set_option maxHeartbeats 4000000
set_option pp.maxSteps 20000
namespace Go.Proofs.YtfpioigggjnffaaGreatDoor.E
open Go.Ev
theorem Rm.go {b:Nat} {e:TEnv} (he:ESm e) {s:Stk} (h:Rm b s) (i:TInstr):Rm (b+65) (goS accE shapeF e s i).s:=by
 have hR:Rm b (⟨s,0⟩:WkS).s:=h
 unfold goS
 simp only
 split
 ·exact hR.kill.up (by omega)
 split
 ·exact h.up (by omega)
 split
 ·unfold nestedS
  split
  ·exact(hR.want _).opens _ _ (by omega)
  split
  ·exact((hR.must _ _).closed).opens _ _ (by omega)
  split
  ·refine(((hR.must _ _).closed).must _ _).push ?_
   have:=closed_len ((⟨s,0⟩:WkS).must (decide (1<s.ctrls.length)) 5)
   simp only;omega
  ·exact hR.opens _ _ (by omega)
 split
 ·unfold branchS
  split
  ·exact(hR.want _).kill.up (by omega)
  ·simp only
   have hl:=fin_len (label_fin ⟨s,0⟩ i.a)
   have h1:Rm b (labelsS ((⟨s,0⟩:WkS).label i.a).2 ((⟨s,0⟩:WkS).label i.a).1 i.labels).s:=(hR.label i.a).labels _ _
   have h2:Rm b (if i.op=12 then labelsS ((⟨s,0⟩:WkS).label i.a).2 ((⟨s,0⟩:WkS).label i.a).1 i.labels else(labelsS ((⟨s,0⟩:WkS).label i.a).2 ((⟨s,0⟩:WkS).label i.a).1 i.labels).want [127]).s:=by
    split
    ·exact h1
    ·exact h1.want _
   split
   ·exact(h2.want _).push (by omega)
   ·exact(h2.want _).kill.up (by omega)
 split
 ·unfold callS
  simp only
  have key: ∀(o:Option (List Int×List Int)) (w:WkS),Rm b w.s→(o.getD ([],[])).2.length≤64→Rm (b+65) ((w.want (o.getD ([],[])).1).push (o.getD ([],[])).2).s:=fun o w hw hl=>(hw.want _).push (by omega)
  split
  ·refine key _ _ ((hR.must _ _).want _) ?_
   split
   ·exact(getM_sm he).2
   ·simp
  ·exact key _ _ (hR.must _ _) (type_sm he).2
 split
 ·unfold chosenS
  split
  ·exact hR.pop.up (by omega)
  ·exact(((hR.want _).pop.pop).must _ _).push (by simp)
 split
 ·unfold variableS
  simp only
  have key: ∀r:Int×WkS,Rm b r.2.s→Rm (b+65) (if i.op=32∨i.op=34∨i.op=35 then(if i.op≠32∧i.op≠35 then r.2.want [r.1] else r.2).push [r.1] else(if i.op≠32∧i.op≠35 then r.2.want [r.1] else r.2)).s:=fun r hr=>by
   have h1:Rm b (if i.op≠32∧i.op≠35 then r.2.want [r.1] else r.2).s:=by
    split
    ·exact hr.want _
    ·exact hr
   split
   ·exact h1.push (by simp)
   ·exact h1.up (by omega)
  refine key _ ?_
  split
  ·split
   ·exact hR
   ·exact hR.must _ _
  ·split
   ·exact hR.must _ _
   ·exact hR.must _ _
 split
 ·unfold memoryS
  simp only
  have h1:=hR.must (decide (0<e.mems)) 6
  split
  ·exact h1.push (by simp)
  split
  ·exact(h1.want _).push (by simp)
  ·have h2:=h1.must (decide (i.a≤3)&&decide ((2:Int)^i.a.toNat≤(accE i.op).2.1)) 5
   split
   ·exact(h2.want _).up (by omega)
   ·exact(h2.want _).push (by simp)
 split
 ·exact hR.push (by simp)
 split
 ·exact hR.push (by simp)
 split
 ·exact(hR.want _).push (by simp)
 ·exact h.up (by omega)
theorem Rm.step {b:Nat} {e:TEnv} (he:ESm e) {s s':Stk} (h:Rm b s) {i:TInstr} (hs:stepS saneF accE shapeF e s i= .ok s'):Rm (b+65) s':=by
 have:=(stepS_parts hs).2.2.2
 rw[←this];exact h.go he i
theorem stepS_ne {e:TEnv} {s:Stk} {i:TInstr} {f:Int} (h:stepS saneF accE shapeF e s i= .error f): ¬f=0:=by
 unfold stepS at h
 split at h
 ·cases h;decide
 ·simp only at h
  split at h
  ·rename_i hne;simp only[Except.error.injEq] at h;rw[←h];exact hne
  ·cases h
abbrev stkds (p:List Stk):List D:=p.map Stk.dd
def pathR:Except Int (List Stk)→Option Res
 | .ok p=>some (.tup [.row 0 0 0 p.length, .d (.int .i64 0)],[.row 2 (stkds p) 0 false false])
 | .error e=>some (.tup [.row 0 0 0 0, .d (.int .i64 e)],[.row 2 [] 0 false false])
def pathF (e:TEnv) (l:List TInstr):Except Int (List Stk):=if walkOk l then if envSane e then pathS saneF accE shapeF e (start e) l else .error 1 else .error 3
theorem path_snoc {e:TEnv} {s:Stk} {l:List TInstr} {x:TInstr}:pathS saneF accE shapeF e s (l++[x])=match pathS saneF accE shapeF e s l with
 | .error f=> .error f
 | .ok p=>match stepS saneF accE shapeF e (p.getLastD s) x with
   | .error f=> .error f
   | .ok t=> .ok (p++[t]):=by
 induction l generalizing s with
 |nil=>
  simp only[List.nil_append,pathS]
  have hl:[s].getLastD s=s:=rfl
  rw[hl]
  cases hs:stepS saneF accE shapeF e s x<;>simp only[List.cons_append,List.nil_append]
 |cons i l ih=>
  simp only[List.cons_append,pathS]
  cases hs:stepS saneF accE shapeF e s i with
  |error f=>rfl
  |ok s'=>
   simp only
   rw[ih]
   cases hp:pathS saneF accE shapeF e s' l with
   |error f=>rfl
   |ok p=>
    simp only
    have hl:p.getLastD s'=(s::p).getLastD s:=by
     have:p≠[]:=by
      intro hh;subst hh
      have:=pathS_len hp
      simp at this
     cases p with
     |nil=>exact absurd rfl this
     |cons a p=>rfl
    rw[hl]
    cases stepS saneF accE shapeF e ((s::p).getLastD s) x<;>simp only[List.cons_append]
theorem path_errT {e:TEnv} {s:Stk} {l:List TInstr} {f:Int}: ∀{k:Nat},pathS saneF accE shapeF e s (l.take k)= .error f→pathS saneF accE shapeF e s l= .error f:=by
 intro k h
 induction l generalizing s k with
 |nil=>simpa using h
 |cons i l ih=>
  cases k with
  |zero=>simp[pathS] at h
  |succ k=>
   simp only[List.take_succ_cons,pathS] at h ⊢
   cases hs:stepS saneF accE shapeF e s i with
   |error g=>rw[hs] at h;exact h
   |ok s'=>
    rw[hs] at h
    simp only at h ⊢
    cases hp:pathS saneF accE shapeF e s' (l.take k) with
    |error g=>
     rw[hp] at h
     cases h
     rw[ih hp]
    |ok p=>rw[hp] at h;cases h
theorem path_ev (fu n:Nat) (e:TEnv) (h:EOk fu e) (l:List TInstr) (hl:l.length*65+300<fu) (hl2:l.length*65+300<1000000) (hb: ∀i∈l,i.labels.length<fu∧i.labels.length<1000000):
 evF (G fu) (n+13) 23 [.d e.dd, .d (.list (l.map TInstr.d))] []=pathR (pathF e l):=by
 have M:=matches_ev fu (n+7) l (by omega) (by omega) (by omega)
 have S:=envSane_ev fu (n+6) e h
 unfold pathF
 rw[evF.eq_2,evX.eq_def,Gext,exts_no _ (f:=23) (by decide),GP,Tryz.func23];simp only[Tryz.f23,evB]
 simp only[TEnv.dd] at S
 cases hw:walkOk l with
 |false=>
  rw[hw] at M
  simp only[go_sem,seval, -Nat.reduceSubDiff,↓reduceIte,reduceCtorEq,TEnv.dd,M,pathR]
 |true=>
  rw[hw] at M
  cases hs:envSane e with
  |false=>
   rw[hs] at S
   simp only[go_sem,seval, -Nat.reduceSubDiff,↓reduceIte,reduceCtorEq,TEnv.dd,M,S,pathR]
  |true=>
   rw[hs] at S
   have hfin:finB e.results=true:=by
    unfold envSane at hs
    simp only[Bool.and_eq_true,decide_eq_true_eq,List.all_append] at hs
    match hr:e.results,hs with
    |[],_=>rfl
    |[c],hs=>simpa[finB] using hs.1.2.1.2
    |a::b::r,hs=>have:=hs.2;simp at this;omega
   have O:=openR_ev fu (n+5) stk0 2 e.results ⟨by simp[stk0];omega,by simp[stk0];omega,by simp[stk0],by simp[stk0]⟩ (by have:=h.results;omega)
   have hop:openS stk0 2 e.results= .ok (start e):=start_open hfin
   rw[hop] at O
   simp only[stkR,Stk.dd,stk0,List.map_nil] at O
   simp only[go_sem,seval, -Nat.reduceSubDiff,↓reduceIte,reduceCtorEq,TEnv.dd,M,S,O,List.length_map,byt0]
   generalize hr:loopN _ _ _ _ _=r
   obtain⟨x,s1,rfl,hx,hJ⟩: ∃x s1,r=some (x,s1)∧Go.Ev.leaves x∧((∃p c,x= .exit 0∧pathS saneF accE shapeF e (start e) l= .ok p∧s1=⟨[(10,V.row 2048 0 0 p.length)],[(2048, .row 2 (stkds p) 0 false c)]⟩)∨
    (∃f,x= .ret∧pathS saneF accE shapeF e (start e) l= .error f∧s1=⟨[(4,V.nilsl),(5,V.d (D.int .i64 f))],[]⟩)):=by
    rw[←hr]
    refine loop_inv (J:=fun x s1=>((∃p c,x= .exit 0∧pathS saneF accE shapeF e (start e) l= .ok p∧s1=⟨[(10,V.row 2048 0 0 p.length)],[(2048, .row 2 (stkds p) 0 false c)]⟩)∨
     (∃f,x= .ret∧pathS saneF accE shapeF e (start e) l= .error f∧s1=⟨[(4,V.nilsl),(5,V.d (D.int .i64 f))],[]⟩)))
     l.length (fun k z=> ∃p c,pathS saneF accE shapeF e (start e) (l.take k)= .ok p∧Rm (65*k+1) (p.getLastD (start e))∧p.length=k+1∧
      z=⟨[(2,V.ptr 192 0),(8,V.ptr 576 0),(10,V.row 2048 0 0 p.length),(32,V.d (D.list (List.map TInstr.d l))),(33,V.d (D.int IntKind.i64 l.length)),(34,V.d (D.int IntKind.i64 k))],[(192, .cells [V.d (D.list (List.map tyD e.types)),V.d (D.list (List.map (D.int IntKind.i64) e.funcs)),V.d (D.int IntKind.i64 e.tables),V.d (D.int IntKind.i64 e.mems),V.d (D.list (List.map glD e.globals)),V.d (D.list (byt e.locs)),V.d (D.list (byt e.results))]),(576, .cells [V.d (D.list (byt (p.getLastD (start e)).vals)),V.d (D.list (ctlds (p.getLastD (start e)).ctrls))]),(2048, .row 2 (stkds p) 0 false c)]⟩) ?_ ?_ fu _ (by omega) ?_
    ·rintro k z hk ⟨p,c,hp,hrm,hpl,rfl⟩
     have hxi:(l.map TInstr.d)[k]? =some (l.getD k in0).d:=getD_map hk
     have hkI:(k:Int)<l.length:=by omega
     have W:=wrap_i64 (show-9223372036854775808≤(k:Int)+1 by omega) (by omega)
     have hm:l.getD k in0∈l:=by
      rw[List.getD_eq_getElem?_getD,List.getElem?_eq_getElem hk];exact List.getElem_mem hk
     have P:=step_ev fu n (65*k+1) e h.sm (p.getLastD (start e)) (by omega) (by omega) hrm (l.getD k in0) (hb _ hm).1 (hb _ hm).2
     have e1:l.take (k+1)=l.take k++[l.getD k in0]:=by
      rw[List.take_add_one,List.getElem?_eq_getElem hk,List.getD_eq_getElem?_getD,List.getElem?_eq_getElem hk];rfl
     have hsn:=path_snoc (e:=e) (s:=start e) (l:=l.take k) (x:=l.getD k in0)
     rw[←e1,hp] at hsn
     have hsE:pathS saneF accE shapeF e (start e) (l.take k)= .ok p:=hp
     simp only at hsn
     have hrs:=fun s'=>Rm.step h.sm hrm (s':=s') (i:=l.getD k in0)
     generalize l.getD k in0=i at*
     generalize hlast:p.getLastD (start e)=s at*
     cases hst:stepS saneF accE shapeF e s i with
     |error f=>
      rw[hst] at hsn P
      have hf: ¬f=0:=stepS_ne hst
      simp only[stkR,TEnv.dd,Stk.dd,TInstr.d,stk0,List.map_nil] at P
      simp only[go_sem,seval, -Nat.reduceSubDiff,↓reduceIte,reduceCtorEq,hkI,idx,hxi,TInstr.d,P,hf]
      exact⟨_,_,rfl, .inr ⟨f,rfl,path_errT hsn,rfl⟩⟩
     |ok s'=>
      rw[hst] at hsn P
      have hlast2:(p++[s']).getLastD (start e)=s':=by simp[List.getLastD_eq_getLast?]
      have hr2:p.length+1≤1099511627776:=by omega
      have z1:sizedAll 2 [Stk.dd s']=true:=rfl
      have t1:(stkds p).take p.length=stkds p:=List.take_of_length_le (by simp)
      have t2:stkds p++[Stk.dd s']=stkds (p++[s']):=by simp[stkds]
      simp only[stkR,TEnv.dd,Stk.dd,TInstr.d] at P
      simp only[Stk.dd] at z1 t2
      simp only[go_sem,seval, -Nat.reduceSubDiff,↓reduceIte,reduceCtorEq,hkI,idx,hxi,TInstr.d,P,W,z1,hr2,t1,t2]
      refine⟨_,_,rfl,p++[s'],true,hsn, ?_,by simp[hpl], ?_⟩
      ·rw[hlast2];exact(hrs s' hst).up (by omega)
      ·rw[hlast2,List.length_append];rfl
    ·rintro z ⟨p,c,hp,hrm,hpl,rfl⟩
     rw[List.take_length] at hp
     simp only[go_sem,seval, -Nat.reduceSubDiff,↓reduceIte,reduceCtorEq,Int.lt_irrefl]
     exact⟨_,_,rfl,trivial, .inl ⟨p,c,rfl,hp,rfl⟩⟩
    ·exact⟨[start e],false,rfl,⟨by simp[start],by simp[start,List.getLastD]⟩,rfl,rfl⟩
   rcases hJ with⟨p,c,rfl,hp,rfl⟩|⟨f,rfl,hp,rfl⟩
   ·rw[hp]
    simp only[go_sem,seval, -Nat.reduceSubDiff,↓reduceIte,reduceCtorEq,pathR]
   ·rw[hp]
    simp only[go_sem,seval, -Nat.reduceSubDiff,↓reduceIte,reduceCtorEq,pathR]
end Go.Proofs.YtfpioigggjnffaaGreatDoor.E
set_option autoImplicit false
namespace Go.Proofs.YtfpioigggjnffaaGreatDoor.E
open Go.Ev
def innerC (s:Stk) (n:Nat):Ctl:=s.ctrls.getD (s.ctrls.length-1-n) ctl0
def at0 (S:List Int) (k:Nat):Int:=S.getD k 0
def branchJ (l:List TInstr) (S:List Int) (P:List Stk) (k:Nat) (lab:Int):Jmp:=
 let c:=innerC (P.getD k stk0) lab.toNat
 let t:=(targetF l k lab).1
 if t=l.length then⟨at0 S k,at0 S t.toNat,c.ht,c.fin.length⟩
 else if (l.getD t.toNat in0).op=3 then⟨at0 S k,at0 S t.toNat,c.ht,0⟩
 else⟨at0 S k,at0 S (t.toNat+1),c.ht,c.fin.length⟩
def elseTo (m:Nest):Int:=if m.1<0 then m.2 else m.1
def stepJ (l:List TInstr) (S:List Int) (P:List Stk) (k:Nat):List Jmp:=
 let i:=l.getD k in0
 let m:=(matchesF l).getD k n0
 if i.op=4 then[⟨at0 S k,at0 S ((elseTo m).toNat+1),(innerC (P.getD (k+1) stk0) 0).ht,0⟩]
 else if i.op=5 then[⟨at0 S k,at0 S (m.2.toNat+1),(innerC (P.getD k stk0) 0).ht+(innerC (P.getD k stk0) 0).fin.length,0⟩]
 else if i.op=12∨i.op=13 then[branchJ l S P k i.a]
 else if i.op=14 then i.labels.map (branchJ l S P k)++[branchJ l S P k i.a]
 else[]
def stepL (l:List TInstr) (S:List Int) (k:Nat):List Int:=if (l.getD k in0).op=3 then[at0 S k] else[]
def jumpsTo (l:List TInstr) (S:List Int) (P:List Stk):Nat→List Jmp
 |0=>[]
 |k+1=>jumpsTo l S P k++stepJ l S P k
def loopsTo (l:List TInstr) (S:List Int):Nat→List Int
 |0=>[]
 |k+1=>loopsTo l S k++stepL l S k
theorem stepJ_at (l:List TInstr) (S:List Int) (P:List Stk) (k:Nat): ∀j∈stepJ l S P k,j.at_=at0 S k:=by
 have hb: ∀lab,(branchJ l S P k lab).at_=at0 S k:=by
  intro lab
  unfold branchJ
  simp only
  split
  ·rfl
  ·split<;>rfl
 intro j hj
 unfold stepJ at hj
 simp only at hj
 split at hj
 ·simp only[List.mem_singleton] at hj;subst hj;rfl
 ·split at hj
  ·simp only[List.mem_singleton] at hj;subst hj;rfl
  ·split at hj
   ·simp only[List.mem_singleton] at hj;subst hj;exact hb _
   ·split at hj
    ·rcases List.mem_append.1 hj with h|h
     ·obtain⟨x,_,rfl⟩:=List.mem_map.1 h
      exact hb _
     ·simp only[List.mem_singleton] at h;subst h;exact hb _
    ·cases hj
theorem rises_iff {l:List Jmp}:Rises l↔l.Pairwise (fun a b=>a.at_≤b.at_):=by
 rw[List.pairwise_iff_getElem]
 constructor
 ·intro h i j hi hj hij
  have:=h i j (by omega) hj
  simpa[hi,hj] using this
 ·intro h i j hij hj
  by_cases e:i=j
  ·subst e;exact Int.le_refl _
  ·have hi:i<l.length:=by omega
   have:=h i j hi hj (by omega)
   simpa[hi,hj] using this
theorem jumps_rise {l:List TInstr} {S:List Int} {P:List Stk} (hS: ∀i j,i≤j→j<l.length→at0 S i≤at0 S j): ∀k,k≤l.length→(jumpsTo l S P k).Pairwise (fun a b=>a.at_≤b.at_)∧∀j∈jumpsTo l S P k,∃i,i<k∧j.at_=at0 S i
 |0,_=>⟨List.Pairwise.nil,fun j hj=>by cases hj⟩
 |k+1,hk=>by
  obtain⟨h1,h2⟩:=jumps_rise hS k (by omega)
  refine⟨?_,fun j hj=> ?_⟩
  ·rw[jumpsTo,List.pairwise_append]
   refine⟨h1, ?_,fun a ha b hb=> ?_⟩
   ·have hall:=stepJ_at l S P k
    generalize stepJ l S P k=s at hall
    induction s with
    |nil=>exact .nil
    |cons x s ih=>
     refine List.pairwise_cons.2 ⟨fun y hy=> ?_,ih fun j hj=>hall j (by simp[hj])⟩
     rw[hall x (by simp),hall y (by simp[hy])]
     exact Int.le_refl _
   ·obtain⟨i,hi,e⟩:=h2 a ha
    rw[e,stepJ_at l S P k b hb]
    exact hS i k (by omega) (by omega)
  ·rw[jumpsTo] at hj
   rcases List.mem_append.1 hj with h|h
   ·obtain⟨i,hi,e⟩:=h2 j h
    exact⟨i,by omega,e⟩
   ·exact⟨k,by omega,stepJ_at l S P k j h⟩
theorem match_open {l:List TInstr} (hw:walkOk l=true) {k:Nat} (hk:k<l.length) (ho:opensB (opAt l k)=true): ∃(e:Nat) (o:Int),(matchesF l).getD k n0=(o,(e:Int))∧k<e∧e<l.length∧(o= -1∨∃m:Nat,o=m∧k<m∧m<e):=by
 obtain⟨e,o,h1,h2,h3,_,h5⟩:=end_is hw hk ho
 rcases endF_range l hk with h|⟨e',o',q1,q2,q3,_,q5⟩
 ·rw[h1] at h;cases h
 ·rw[h1] at q1
  obtain⟨rfl,rfl⟩:e=e'∧o=o':=by
   have:=Prod.mk.inj q1
   exact⟨by omega,this.2⟩
  refine⟨e,o,h5,h2,h3, ?_⟩
  rcases q5 with h|⟨m,a,b,c,_⟩
  ·exact .inl h
  ·exact .inr ⟨m,a,b,c⟩
theorem match_els {l:List TInstr} (hw:walkOk l=true) {k:Nat} (hk:k<l.length) (h5:opAt l k=5): ∃e:Nat,(matchesF l).getD k n0=(-1,(e:Int))∧e<l.length∧k<e:=by
 obtain⟨j,hj,ho,h⟩:=used_all hw hk (.inl h5)
 obtain⟨e,o,h1,h2,h3,_,h4⟩:=end_is hw hj ho
 rcases endF_range l hj with hh|⟨e',o',q1,q2,q3,q4,q5⟩
 ·rw[h1] at hh;cases hh
 ·rw[h1] at q1
  obtain⟨rfl,rfl⟩:e=e'∧o=o':=by
   have:=Prod.mk.inj q1
   exact⟨by omega,this.2⟩
  rw[h1] at h
  simp only at h
  rcases h with h|h
  ·have:e=k:=by omega
   subst this
   rw[h5] at q4;cases q4
  ·subst h
   refine⟨e,match_else hw hj ho h1,h3, ?_⟩
   rcases q5 with h|⟨m,a,b,c,_⟩
   ·omega
   ·omega
theorem tgt_range {l:List TInstr} (hw:walkOk l=true) (a:Int): ∀(j:Nat),j≤l.length→∀left,0≤(tgtGo l (matchesF l) a j left).1∧(tgtGo l (matchesF l) a j left).1≤l.length
 |0,_,left=>by
  rw[tgtGo]
  split
  ·simp
  ·simp
 |j+1,hj,left=>by
  rw[tgtGo]
  split
  ·exact tgt_range hw a j (by omega) left
  ·split
   ·exact tgt_range hw a j (by omega) (left-1)
   ·split
    ·simp only;omega
    ·rename_i h _ _
     have ho:opensB (opAt l j)=true:=by
      by_cases hb:opensB (l.getD j in0).op=true
      ·exact hb
      ·exact absurd (.inl (by simpa using hb)) h
     obtain⟨e,o,h1,h2,h3,_⟩:=match_open hw (k:=j) (by omega) ho
     rw[h1]
     simp only;omega
theorem target_range {l:List TInstr} (hw:walkOk l=true) (a lab:Int):0≤(targetF l a lab).1∧(targetF l a lab).1≤l.length:=by
 unfold targetF
 split
 ·simp
 ·rename_i h
  exact tgt_range hw a _ (by omega) _
end Go.Proofs.YtfpioigggjnffaaGreatDoor.E
set_option autoImplicit false
set_option maxRecDepth 100000
set_option maxHeartbeats 4000000
set_option pp.maxSteps 20000
namespace Go.Proofs.YtfpioigggjnffaaGreatDoor.E
open Go.Ev
theorem inner_ev (fu n:Nat) (s:Stk) (k:Nat) (hk:k<s.ctrls.length) (hl:s.ctrls.length<1000000):evF (G fu) (n+1) 136 [.d s.dd, .d (.int .i64 k)] []=some (.d (s.ctrls.getD (s.ctrls.length-1-k) ctl0).dd,[]):=by
 have hx:(ctlds s.ctrls)[s.ctrls.length-1-k]? =some (s.ctrls.getD (s.ctrls.length-1-k) ctl0).dd:=getD_map (by omega)
 have W1:=wrap_i64 (show-9223372036854775808≤(s.ctrls.length:Int)-1 by omega) (by omega)
 have W2:IntKind.wrap .i64 ((s.ctrls.length:Int)-1-k)=((s.ctrls.length-1-k:Nat):Int):=by rw[wrap_i64 (by omega) (by omega)];omega
 have hlt:((s.ctrls.length-1-k:Nat):Int)<s.ctrls.length:=by omega
 generalize s.ctrls.getD (s.ctrls.length-1-k) ctl0=c at*
 simp only[Ctl.dd] at hx
 rw[evF.eq_2,evX.eq_def,Gext,exts_no _ (f:=136) (by decide),GP,Tryz.func136];simp only[Tryz.f136,evB]
 simp only[go_sem,seval, -Nat.reduceSubDiff,↓reduceIte,reduceCtorEq,Stk.dd,Ctl.dd,ctlds_len,W1,W2,hlt,idx,hx]
structure Mk where
 S:List Int
 l:List TInstr
 M:List Nest
 P:List Stk
abbrev intd (l:List Int):List D:=l.map (D.int .i64)
def Mk.tl (m:Mk):List Go.Ev.Obj:=[.row 5 (m.l.map TInstr.d) 0 true false, .row 2 (m.M.map nestD) 0 false false, .row 2 (stkds m.P) 0 false false]
def Mk.o (m:Mk):Option (List Jmp)→Option (List Int)→List Go.Ev.Obj
 |none,none=>[.cells [.row 1 0 0 m.S.length, .nilsl, .nilsl, .nilsl, .row 2 0 0 m.l.length, .row 3 0 0 m.M.length, .row 4 0 0 m.P.length], .row 1 (intd m.S) 0 false false]++m.tl
 |some j,none=>[.cells [.row 1 0 0 m.S.length, .row 2 0 0 j.length, .nilsl, .nilsl, .row 3 0 0 m.l.length, .row 4 0 0 m.M.length, .row 5 0 0 m.P.length], .row 1 (intd m.S) 0 false false, .row 4 (jds j) 0 false false]++m.tl
 |none,some L=>[.cells [.row 1 0 0 m.S.length, .nilsl, .row 2 0 0 L.length, .nilsl, .row 3 0 0 m.l.length, .row 4 0 0 m.M.length, .row 5 0 0 m.P.length], .row 1 (intd m.S) 0 false false, .row 1 (intd L) 0 false false]++m.tl
 |some j,some L=>[.cells [.row 1 0 0 m.S.length, .row 2 0 0 j.length, .row 3 0 0 L.length, .nilsl, .row 4 0 0 m.l.length, .row 5 0 0 m.M.length, .row 6 0 0 m.P.length], .row 1 (intd m.S) 0 false false, .row 4 (jds j) 0 false false, .row 1 (intd L) 0 false false]++m.tl
def Mk.oJ (m:Mk) (js:List Jmp):Option (List Jmp)→Option (List Int)→List Go.Ev.Obj
 |none,none=>[.cells [.row 1 0 0 m.S.length, .row 5 0 0 js.length, .nilsl, .nilsl, .row 2 0 0 m.l.length, .row 3 0 0 m.M.length, .row 4 0 0 m.P.length], .row 1 (intd m.S) 0 false false]++m.tl++[.row 4 (jds js) 0 false false]
 |some j,none=>[.cells [.row 1 0 0 m.S.length, .row 2 0 0 (j++js).length, .nilsl, .nilsl, .row 3 0 0 m.l.length, .row 4 0 0 m.M.length, .row 5 0 0 m.P.length], .row 1 (intd m.S) 0 false false, .row 4 (jds (j++js)) 0 false true]++m.tl
 |none,some L=>[.cells [.row 1 0 0 m.S.length, .row 6 0 0 js.length, .row 2 0 0 L.length, .nilsl, .row 3 0 0 m.l.length, .row 4 0 0 m.M.length, .row 5 0 0 m.P.length], .row 1 (intd m.S) 0 false false, .row 1 (intd L) 0 false false]++m.tl++[.row 4 (jds js) 0 false false]
 |some j,some L=>[.cells [.row 1 0 0 m.S.length, .row 2 0 0 (j++js).length, .row 3 0 0 L.length, .nilsl, .row 4 0 0 m.l.length, .row 5 0 0 m.M.length, .row 6 0 0 m.P.length], .row 1 (intd m.S) 0 false false, .row 4 (jds (j++js)) 0 false true, .row 1 (intd L) 0 false false]++m.tl
theorem jump_ev (fu n:Nat) (m:Mk) (J:Option (List Jmp)) (L:Option (List Int)) (k to:Nat) (h a:Int) (hk:k<m.S.length) (ht:to<m.S.length) (hj: ∀j,J=some j→j.length<1000000):
 evF (G fu) (n+1) 135 [.ptr 0 0, .d (.int .i64 k), .d (.int .i64 to), .d (.int .i64 h), .d (.int .i64 a)] (m.o J L)=some (.tup [],m.oJ [⟨at0 m.S k,at0 m.S to,h,a⟩] J L):=by
 have hx:(intd m.S)[k]? =some (.int .i64 (at0 m.S k)):=getD_map hk
 have hy:(intd m.S)[to]? =some (.int .i64 (at0 m.S to)):=getD_map ht
 have hkI:(k:Int)<m.S.length:=by omega
 have htI:(to:Int)<m.S.length:=by omega
 generalize at0 m.S k=x at*
 generalize at0 m.S to=y at*
 have z1:sizedAll 4 [D.agg [D.int .i64 x,D.int .i64 y,D.int .i64 h,D.int .i64 a]]=true:=rfl
 rw[evF.eq_2,evX.eq_def,Gext,exts_no _ (f:=135) (by decide),GP,Tryz.func135];simp only[Tryz.f135,evB]
 cases J with
 |none=>
  cases L
  all_goals
   simp only[go_sem,seval, -Nat.reduceSubDiff,↓reduceIte,reduceCtorEq,Mk.o,Mk.oJ,Mk.tl,List.cons_append,List.nil_append,hkI,htI,hx,hy,z1]
   (rw[cond_free];rotate_left;·rfl)
   simp only[go_sem,seval, -Nat.reduceSubDiff,↓reduceIte,reduceCtorEq,Mk.o,Mk.oJ,Mk.tl,List.cons_append,List.nil_append,Jmp.dd]
 |some j=>
  have hr:j.length+1≤1099511627776:=by have:=hj j rfl;omega
  have tk:(jds j).take j.length=jds j:=List.take_of_length_le (by simp)
  have ct:jds j++[D.agg [D.int .i64 x,D.int .i64 y,D.int .i64 h,D.int .i64 a]]=jds (j++[⟨x,y,h,a⟩]):=by simp[jds,Jmp.dd]
  have cl:(j++[(⟨x,y,h,a⟩:Jmp)]).length=j.length+1:=by simp
  cases L
  all_goals
   simp only[go_sem,seval, -Nat.reduceSubDiff,↓reduceIte,reduceCtorEq,Mk.o,Mk.oJ,Mk.tl,List.cons_append,List.nil_append,hkI,htI,hx,hy,z1,hr,tk,ct,cl]
   (rw[cond_free];rotate_left;·rfl)
   simp only[go_sem,seval, -Nat.reduceSubDiff,↓reduceIte,reduceCtorEq,Mk.o,Mk.oJ,Mk.tl,List.cons_append,List.nil_append]
end Go.Proofs.YtfpioigggjnffaaGreatDoor.E
set_option autoImplicit false
set_option maxRecDepth 100000
set_option maxHeartbeats 4000000
set_option pp.maxSteps 20000
namespace Go.Proofs.YtfpioigggjnffaaGreatDoor.E
open Go.Ev
structure MkOk (fu:Nat) (m:Mk):Prop where
 walk:walkOk m.l=true
 S:m.S.length=m.l.length+1
 P:m.P.length=m.l.length+1
 M:m.M=matchesF m.l
 short:m.l.length<fu∧m.l.length<100000
 ctrls: ∀s∈m.P,s.ctrls.length<1000000
 big:21<fu
theorem MkOk.at {fu:Nat} {m:Mk} (h:MkOk fu m) {k:Nat} (hk:k≤m.l.length):(stkds m.P)[k]? =some (m.P.getD k stk0).dd∧(m.P.getD k stk0).ctrls.length<1000000:=by
 have hlt:k<m.P.length:=by rw[h.P];omega
 refine⟨getD_map hlt,h.ctrls _ ?_⟩
 rw[List.getD_eq_getElem?_getD,List.getElem?_eq_getElem hlt]
 exact List.getElem_mem hlt
theorem branch_ev (fu n:Nat) (m:Mk) (hm:MkOk fu m) (J:Option (List Jmp)) (L:Option (List Int)) (k lab:Nat) (hk:k<m.l.length) (hl:lab<(m.P.getD k stk0).ctrls.length) (hj: ∀j,J=some j→j.length<1000000):
 evF (G fu) (n+7) 137 [.ptr 0 0, .d (.int .i64 k), .d (.int .i64 lab)] (m.o J L)=some (.tup [],m.oJ [branchJ m.l m.S m.P k lab] J L):=by
 obtain⟨hp,hpc⟩:=hm.at (k:=k) (by omega)
 have I:=inner_ev fu (n+5) (m.P.getD k stk0) lab hl hpc
 have T:=target_ev fu n m.l k lab (by omega) hm.big hm.short.1 hm.short.2
 obtain⟨r1,r2⟩:=target_range hm.walk k lab
 obtain⟨t,ht⟩: ∃t:Nat,(targetF m.l k lab).1=t:=⟨(targetF m.l k lab).1.toNat,by omega⟩
 have JE:=fun to ha=>jump_ev fu (n+5) m J L k to ((m.P.getD k stk0).ctrls.getD ((m.P.getD k stk0).ctrls.length-1-lab) ctl0).ht ha (by rw[hm.S];omega)
 have hB:branchJ m.l m.S m.P k lab=if (t:Int)=m.l.length then⟨at0 m.S k,at0 m.S t,(innerC (m.P.getD k stk0) lab).ht,(innerC (m.P.getD k stk0) lab).fin.length⟩
  else if (m.l.getD t in0).op=3 then⟨at0 m.S k,at0 m.S t,(innerC (m.P.getD k stk0) lab).ht,0⟩ else⟨at0 m.S k,at0 m.S (t+1),(innerC (m.P.getD k stk0) lab).ht,(innerC (m.P.getD k stk0) lab).fin.length⟩:=by
  unfold branchJ
  simp only[ht,Int.toNat_natCast]
 rw[ht] at T r2
 have hkI:(k:Int)<m.P.length:=by rw[hm.P];omega
 have hil:List.length (List.map TInstr.d m.l)=m.l.length:=List.length_map ..
 have tkl:(m.l.map TInstr.d).take m.l.length=m.l.map TInstr.d:=List.take_of_length_le (by simp)
 rw[hB]
 unfold innerC
 generalize(targetF m.l k lab).2=tb at*
 generalize(m.P.getD k stk0).ctrls.getD ((m.P.getD k stk0).ctrls.length-1-lab) ctl0=c at*
 generalize m.P.getD k stk0=s at*
 simp only[Stk.dd,Ctl.dd] at hp I
 rw[evF.eq_2,evX.eq_def,Gext,exts_no _ (f:=137) (by decide),GP,Tryz.func137];simp only[Tryz.f137,evB]
 have hsh:=hm.short.2
 cases J<;>cases L
 all_goals
  by_cases c1:t=m.l.length
  ·subst c1
   have JX:=JE m.l.length c.fin.length (by rw[hm.S];omega) hj
   simp only[Mk.o,Mk.oJ,Mk.tl,List.cons_append,List.nil_append] at JX
   simp only[go_sem,seval, -Nat.reduceSubDiff,↓reduceIte,reduceCtorEq,Mk.o,Mk.oJ,Mk.tl,List.cons_append,List.nil_append,hkI,hp,I,T,hil,tkl,byt_len,JX]
  ·have hti: ¬(t:Int)=m.l.length:=by omega
   have htl:(t:Int)<m.l.length:=by omega
   have hx:(m.l.map TInstr.d)[t]? =some (m.l.getD t in0).d:=getD_map (by omega)
   generalize m.l.getD t in0=i at*
   simp only[TInstr.d] at hx
   by_cases c2:i.op=3
   ·have JX:=JE t 0 (by rw[hm.S];omega) hj
    simp only[Mk.o,Mk.oJ,Mk.tl,List.cons_append,List.nil_append] at JX
    simp only[c2] at hx
    simp only[go_sem,seval, -Nat.reduceSubDiff,↓reduceIte,reduceCtorEq,Mk.o,Mk.oJ,Mk.tl,List.cons_append,List.nil_append,hkI,hp,I,T,hil,tkl,hti,htl,hx,c2,byt_len,JX]
   ·have JX:=JE (t+1) c.fin.length (by rw[hm.S];omega) hj
    have W:=wrap_i64 (show-9223372036854775808≤(t:Int)+1 by omega) (by omega)
    have e1:((t+1:Nat):Int)=(t:Int)+1:=by omega
    rw[e1] at JX
    simp only[Mk.o,Mk.oJ,Mk.tl,List.cons_append,List.nil_append] at JX
    simp only[go_sem,seval, -Nat.reduceSubDiff,↓reduceIte,reduceCtorEq,Mk.o,Mk.oJ,Mk.tl,List.cons_append,List.nil_append,hkI,hp,I,T,hil,tkl,hti,htl,hx,c2,byt_len,W,JX]
end Go.Proofs.YtfpioigggjnffaaGreatDoor.E
