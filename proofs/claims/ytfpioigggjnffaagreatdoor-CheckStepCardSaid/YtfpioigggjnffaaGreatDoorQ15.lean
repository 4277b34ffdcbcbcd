/- Q15, Q16. -/
import Derived.Test.YtfpioigggjnffaaGreatDoorQ14
import Derived.Test.YtfpioigggjnffaaGreatDoorF4
set_option linter.unnecessarySimpa false
set_option linter.unusedSimpArgs false
set_option linter.unusedVariables false
set_option autoImplicit false
set_option maxRecDepth 100000
set_option maxHeartbeats 4000000
set_option pp.maxSteps 20000
namespace Go.Proofs.YtfpioigggjnffaaGreatDoor.E
open Go.Ev
theorem Rm.go {b:Nat} {e:TEnv} (he:ESm e) {s:Stk} (h:Rm b s) (i:TInstr):Rm (b+65) (goS accE shapeF e s i).s:=by
 have hR:Rm b (⟨s,0⟩:WkS).s:=h
 unfold goS
 simp only
 split
 ·exact hR.kill.up (by omega)
 split
 ·exact h.up (by omega)
 split
 ·unfold nestedS
  split
  ·exact(hR.want _).opens _ _ (by omega)
  split
  ·exact((hR.must _ _).closed).opens _ _ (by omega)
  split
  ·refine(((hR.must _ _).closed).must _ _).push ?_
   have:=closed_len ((⟨s,0⟩:WkS).must (decide (1<s.ctrls.length)) 5)
   simp only;omega
  ·exact hR.opens _ _ (by omega)
 split
 ·unfold branchS
  split
  ·exact(hR.want _).kill.up (by omega)
  ·simp only
   have hl:=fin_len (label_fin ⟨s,0⟩ i.a)
   have h1:Rm b (labelsS ((⟨s,0⟩:WkS).label i.a).2 ((⟨s,0⟩:WkS).label i.a).1 i.labels).s:=(hR.label i.a).labels _ _
   have h2:Rm b (if i.op=12 then labelsS ((⟨s,0⟩:WkS).label i.a).2 ((⟨s,0⟩:WkS).label i.a).1 i.labels else(labelsS ((⟨s,0⟩:WkS).label i.a).2 ((⟨s,0⟩:WkS).label i.a).1 i.labels).want [127]).s:=by
    split
    ·exact h1
    ·exact h1.want _
   split
   ·exact(h2.want _).push (by omega)
   ·exact(h2.want _).kill.up (by omega)
 split
 ·unfold callS
  simp only
  have key: ∀(o:Option (List Int×List Int)) (w:WkS),Rm b w.s→(o.getD ([],[])).2.length≤64→Rm (b+65) ((w.want (o.getD ([],[])).1).push (o.getD ([],[])).2).s:=fun o w hw hl=>(hw.want _).push (by omega)
  split
  ·refine key _ _ ((hR.must _ _).want _) ?_
   split
   ·exact(getM_sm he).2
   ·simp
  ·exact key _ _ (hR.must _ _) (type_sm he).2
 split
 ·unfold chosenS
  split
  ·exact hR.pop.up (by omega)
  ·exact(((hR.want _).pop.pop).must _ _).push (by simp)
 split
 ·unfold variableS
  simp only
  have key: ∀r:Int×WkS,Rm b r.2.s→Rm (b+65) (if i.op=32∨i.op=34∨i.op=35 then(if i.op≠32∧i.op≠35 then r.2.want [r.1] else r.2).push [r.1] else(if i.op≠32∧i.op≠35 then r.2.want [r.1] else r.2)).s:=fun r hr=>by
   have h1:Rm b (if i.op≠32∧i.op≠35 then r.2.want [r.1] else r.2).s:=by
    split
    ·exact hr.want _
    ·exact hr
   split
   ·exact h1.push (by simp)
   ·exact h1.up (by omega)
  refine key _ ?_
  split
  ·split
   ·exact hR
   ·exact hR.must _ _
  ·split
   ·exact hR.must _ _
   ·exact hR.must _ _
 split
 ·unfold memoryS
  simp only
  have h1:=hR.must (decide (0<e.mems)) 6
  split
  ·exact h1.push (by simp)
  split
  ·exact(h1.want _).push (by simp)
  ·have h2:=h1.must (decide (i.a≤3)&&decide ((2:Int)^i.a.toNat≤(accE i.op).2.1)) 5
   split
   ·exact(h2.want _).up (by omega)
   ·exact(h2.want _).push (by simp)
 split
 ·exact hR.push (by simp)
 split
 ·exact hR.push (by simp)
 split
 ·exact(hR.want _).push (by simp)
 ·exact h.up (by omega)
theorem Rm.step {b:Nat} {e:TEnv} (he:ESm e) {s s':Stk} (h:Rm b s) {i:TInstr} (hs:stepS saneF accE shapeF e s i= .ok s'):Rm (b+65) s':=by
 have:=(stepS_parts hs).2.2.2
 rw[←this];exact h.go he i
theorem stepS_ne {e:TEnv} {s:Stk} {i:TInstr} {f:Int} (h:stepS saneF accE shapeF e s i= .error f): ¬f=0:=by
 unfold stepS at h
 split at h
 ·cases h;decide
 ·simp only at h
  split at h
  ·rename_i hne;simp only[Except.error.injEq] at h;rw[←h];exact hne
  ·cases h
abbrev stkds (p:List Stk):List D:=p.map Stk.dd
def pathR:Except Int (List Stk)→Option Res
 | .ok p=>some (.tup [.row 0 0 0 p.length, .d (.int .i64 0)],[.row 2 (stkds p) 0 false false])
 | .error e=>some (.tup [.row 0 0 0 0, .d (.int .i64 e)],[.row 2 [] 0 false false])
def pathF (e:TEnv) (l:List TInstr):Except Int (List Stk):=if walkOk l then if envSane e then pathS saneF accE shapeF e (start e) l else .error 1 else .error 3
theorem path_snoc {e:TEnv} {s:Stk} {l:List TInstr} {x:TInstr}:pathS saneF accE shapeF e s (l++[x])=match pathS saneF accE shapeF e s l with
 | .error f=> .error f
 | .ok p=>match stepS saneF accE shapeF e (p.getLastD s) x with
   | .error f=> .error f
   | .ok t=> .ok (p++[t]):=by
 induction l generalizing s with
 |nil=>
  simp only[List.nil_append,pathS]
  have hl:[s].getLastD s=s:=rfl
  rw[hl]
  cases hs:stepS saneF accE shapeF e s x<;>simp only[List.cons_append,List.nil_append]
 |cons i l ih=>
  simp only[List.cons_append,pathS]
  cases hs:stepS saneF accE shapeF e s i with
  |error f=>rfl
  |ok s'=>
   simp only
   rw[ih]
   cases hp:pathS saneF accE shapeF e s' l with
   |error f=>rfl
   |ok p=>
    simp only
    have hl:p.getLastD s'=(s::p).getLastD s:=by
     have:p≠[]:=by
      intro hh;subst hh
      have:=pathS_len hp
      simp at this
     cases p with
     |nil=>exact absurd rfl this
     |cons a p=>rfl
    rw[hl]
    cases stepS saneF accE shapeF e ((s::p).getLastD s) x<;>simp only[List.cons_append]
theorem path_errT {e:TEnv} {s:Stk} {l:List TInstr} {f:Int}: ∀{k:Nat},pathS saneF accE shapeF e s (l.take k)= .error f→pathS saneF accE shapeF e s l= .error f:=by
 intro k h
 induction l generalizing s k with
 |nil=>simpa using h
 |cons i l ih=>
  cases k with
  |zero=>simp[pathS] at h
  |succ k=>
   simp only[List.take_succ_cons,pathS] at h ⊢
   cases hs:stepS saneF accE shapeF e s i with
   |error g=>rw[hs] at h;exact h
   |ok s'=>
    rw[hs] at h
    simp only at h ⊢
    cases hp:pathS saneF accE shapeF e s' (l.take k) with
    |error g=>
     rw[hp] at h
     cases h
     rw[ih hp]
    |ok p=>rw[hp] at h;cases h
theorem path_ev (fu n:Nat) (e:TEnv) (h:EOk fu e) (l:List TInstr) (hl:l.length*65+300<fu) (hl2:l.length*65+300<1000000) (hb: ∀i∈l,i.labels.length<fu∧i.labels.length<1000000):
 evF (G fu) (n+13) 23 [.d e.dd, .d (.list (l.map TInstr.d))] []=pathR (pathF e l):=by
 have M:=matches_ev fu (n+7) l (by omega) (by omega) (by omega)
 have S:=envSane_ev fu (n+6) e h
 unfold pathF
 rw[evF.eq_2,evX.eq_def,Gext,exts_no _ (f:=23) (by decide),GP,Tryz.func23];simp only[Tryz.f23,evB]
 simp only[TEnv.dd] at S
 cases hw:walkOk l with
 |false=>
  rw[hw] at M
  simp only[go_sem,Nat.reduceAdd,Nat.reduceMul,Nat.reduceSub,Nat.reduceLT,Nat.reduceLeDiff,Nat.reduceEqDiff,Nat.reduceBEq,Nat.reduceBeqDiff,Int.reduceEq,Int.reduceLT,Int.reduceLE,Int.reduceToNat,Int.reduceNeg,Int.reduceAdd,Int.reduceSub,Int.reduceMul,reduceIte,reduceCtorEq,Nat.reducePow,Nat.reduceDiv,Nat.reduceMod,Int.reduceBEq,TEnv.dd,M,pathR]
 |true=>
  rw[hw] at M
  cases hs:envSane e with
  |false=>
   rw[hs] at S
   simp only[go_sem,Nat.reduceAdd,Nat.reduceMul,Nat.reduceSub,Nat.reduceLT,Nat.reduceLeDiff,Nat.reduceEqDiff,Nat.reduceBEq,Nat.reduceBeqDiff,Int.reduceEq,Int.reduceLT,Int.reduceLE,Int.reduceToNat,Int.reduceNeg,Int.reduceAdd,Int.reduceSub,Int.reduceMul,reduceIte,reduceCtorEq,Nat.reducePow,Nat.reduceDiv,Nat.reduceMod,Int.reduceBEq,TEnv.dd,M,S,pathR]
  |true=>
   rw[hs] at S
   have hfin:finB e.results=true:=by
    unfold envSane at hs
    simp only[Bool.and_eq_true,decide_eq_true_eq,List.all_append] at hs
    match hr:e.results,hs with
    |[],_=>rfl
    |[c],hs=>simpa[finB] using hs.1.2.1.2
    |a::b::r,hs=>have:=hs.2;simp at this;omega
   have O:=openR_ev fu (n+5) stk0 2 e.results ⟨by simp[stk0];omega,by simp[stk0];omega,by simp[stk0],by simp[stk0]⟩ (by have:=h.results;omega)
   have hop:openS stk0 2 e.results= .ok (start e):=start_open hfin
   rw[hop] at O
   simp only[stkR,Stk.dd,stk0,List.map_nil] at O
   simp only[go_sem,Nat.reduceAdd,Nat.reduceMul,Nat.reduceSub,Nat.reduceLT,Nat.reduceLeDiff,Nat.reduceEqDiff,Nat.reduceBEq,Nat.reduceBeqDiff,Int.reduceEq,Int.reduceLT,Int.reduceLE,Int.reduceToNat,Int.reduceNeg,Int.reduceAdd,Int.reduceSub,Int.reduceMul,reduceIte,reduceCtorEq,Nat.reducePow,Nat.reduceDiv,Nat.reduceMod,Int.reduceBEq,TEnv.dd,M,S,O,List.length_map,byt0]
   generalize hr:loopN _ _ _ _ _=r
   obtain⟨x,s1,rfl,hx,hJ⟩: ∃x s1,r=some (x,s1)∧Go.Ev.leaves x∧((∃p c,x= .exit 0∧pathS saneF accE shapeF e (start e) l= .ok p∧s1=⟨[(10,V.row 2048 0 0 p.length)],[(2048, .row 2 (stkds p) 0 false c)]⟩)∨
    (∃f,x= .ret∧pathS saneF accE shapeF e (start e) l= .error f∧s1=⟨[(4,V.nilsl),(5,V.d (D.int .i64 f))],[]⟩)):=by
    rw[←hr]
    refine loop_inv (J:=fun x s1=>((∃p c,x= .exit 0∧pathS saneF accE shapeF e (start e) l= .ok p∧s1=⟨[(10,V.row 2048 0 0 p.length)],[(2048, .row 2 (stkds p) 0 false c)]⟩)∨
     (∃f,x= .ret∧pathS saneF accE shapeF e (start e) l= .error f∧s1=⟨[(4,V.nilsl),(5,V.d (D.int .i64 f))],[]⟩)))
     l.length (fun k z=> ∃p c,pathS saneF accE shapeF e (start e) (l.take k)= .ok p∧Rm (65*k+1) (p.getLastD (start e))∧p.length=k+1∧
      z=⟨[(2,V.ptr 192 0),(8,V.ptr 576 0),(10,V.row 2048 0 0 p.length),(32,V.d (D.list (List.map TInstr.d l))),(33,V.d (D.int IntKind.i64 l.length)),(34,V.d (D.int IntKind.i64 k))],[(192, .cells [V.d (D.list (List.map tyD e.types)),V.d (D.list (List.map (D.int IntKind.i64) e.funcs)),V.d (D.int IntKind.i64 e.tables),V.d (D.int IntKind.i64 e.mems),V.d (D.list (List.map glD e.globals)),V.d (D.list (byt e.locs)),V.d (D.list (byt e.results))]),(576, .cells [V.d (D.list (byt (p.getLastD (start e)).vals)),V.d (D.list (ctlds (p.getLastD (start e)).ctrls))]),(2048, .row 2 (stkds p) 0 false c)]⟩) ?_ ?_ fu _ (by omega) ?_
    ·rintro k z hk ⟨p,c,hp,hrm,hpl,rfl⟩
     have hxi:(l.map TInstr.d)[k]? =some (l.getD k in0).d:=getD_map hk
     have hkI:(k:Int)<l.length:=by omega
     have W:=wrap_i64 (show-9223372036854775808≤(k:Int)+1 by omega) (by omega)
     have hm:l.getD k in0∈l:=by
      rw[List.getD_eq_getElem?_getD,List.getElem?_eq_getElem hk];exact List.getElem_mem hk
     have P:=step_ev fu n (65*k+1) e h.sm (p.getLastD (start e)) (by omega) (by omega) hrm (l.getD k in0) (hb _ hm).1 (hb _ hm).2
     have e1:l.take (k+1)=l.take k++[l.getD k in0]:=by
      rw[List.take_add_one,List.getElem?_eq_getElem hk,List.getD_eq_getElem?_getD,List.getElem?_eq_getElem hk];rfl
     have hsn:=path_snoc (e:=e) (s:=start e) (l:=l.take k) (x:=l.getD k in0)
     rw[←e1,hp] at hsn
     have hsE:pathS saneF accE shapeF e (start e) (l.take k)= .ok p:=hp
     simp only at hsn
     have hrs:=fun s'=>Rm.step h.sm hrm (s':=s') (i:=l.getD k in0)
     generalize l.getD k in0=i at*
     generalize hlast:p.getLastD (start e)=s at*
     cases hst:stepS saneF accE shapeF e s i with
     |error f=>
      rw[hst] at hsn P
      have hf: ¬f=0:=stepS_ne hst
      simp only[stkR,TEnv.dd,Stk.dd,TInstr.d,stk0,List.map_nil] at P
      simp only[go_sem,Nat.reduceAdd,Nat.reduceMul,Nat.reduceSub,Nat.reduceLT,Nat.reduceLeDiff,Nat.reduceEqDiff,Nat.reduceBEq,Nat.reduceBeqDiff,Int.reduceEq,Int.reduceLT,Int.reduceLE,Int.reduceToNat,Int.reduceNeg,Int.reduceAdd,Int.reduceSub,Int.reduceMul,reduceIte,reduceCtorEq,Nat.reducePow,Nat.reduceDiv,Nat.reduceMod,Int.reduceBEq,hkI,idx,hxi,TInstr.d,P,hf]
      exact⟨_,_,rfl, .inr ⟨f,rfl,path_errT hsn,rfl⟩⟩
     |ok s'=>
      rw[hst] at hsn P
      have hlast2:(p++[s']).getLastD (start e)=s':=by simp[List.getLastD_eq_getLast?]
      have hr2:p.length+1≤1099511627776:=by omega
      have z1:sizedAll 2 [Stk.dd s']=true:=rfl
      have t1:(stkds p).take p.length=stkds p:=List.take_of_length_le (by simp)
      have t2:stkds p++[Stk.dd s']=stkds (p++[s']):=by simp[stkds]
      simp only[stkR,TEnv.dd,Stk.dd,TInstr.d] at P
      simp only[Stk.dd] at z1 t2
      simp only[go_sem,Nat.reduceAdd,Nat.reduceMul,Nat.reduceSub,Nat.reduceLT,Nat.reduceLeDiff,Nat.reduceEqDiff,Nat.reduceBEq,Nat.reduceBeqDiff,Int.reduceEq,Int.reduceLT,Int.reduceLE,Int.reduceToNat,Int.reduceNeg,Int.reduceAdd,Int.reduceSub,Int.reduceMul,reduceIte,reduceCtorEq,Nat.reducePow,Nat.reduceDiv,Nat.reduceMod,Int.reduceBEq,hkI,idx,hxi,TInstr.d,P,W,z1,hr2,t1,t2]
      refine⟨_,_,rfl,p++[s'],true,hsn, ?_,by simp[hpl], ?_⟩
      ·rw[hlast2];exact(hrs s' hst).up (by omega)
      ·rw[hlast2,List.length_append];rfl
    ·rintro z ⟨p,c,hp,hrm,hpl,rfl⟩
     rw[List.take_length] at hp
     simp only[go_sem,Nat.reduceAdd,Nat.reduceMul,Nat.reduceSub,Nat.reduceLT,Nat.reduceLeDiff,Nat.reduceEqDiff,Nat.reduceBEq,Nat.reduceBeqDiff,Int.reduceEq,Int.reduceLT,Int.reduceLE,Int.reduceToNat,Int.reduceNeg,Int.reduceAdd,Int.reduceSub,Int.reduceMul,reduceIte,reduceCtorEq,Nat.reducePow,Nat.reduceDiv,Nat.reduceMod,Int.reduceBEq,Int.lt_irrefl]
     exact⟨_,_,rfl,trivial, .inl ⟨p,c,rfl,hp,rfl⟩⟩
    ·exact⟨[start e],false,rfl,⟨by simp[start],by simp[start,List.getLastD]⟩,rfl,rfl⟩
   rcases hJ with⟨p,c,rfl,hp,rfl⟩|⟨f,rfl,hp,rfl⟩
   ·rw[hp]
    simp only[go_sem,Nat.reduceAdd,Nat.reduceMul,Nat.reduceSub,Nat.reduceLT,Nat.reduceLeDiff,Nat.reduceEqDiff,Nat.reduceBEq,Nat.reduceBeqDiff,Int.reduceEq,Int.reduceLT,Int.reduceLE,Int.reduceToNat,Int.reduceNeg,Int.reduceAdd,Int.reduceSub,Int.reduceMul,reduceIte,reduceCtorEq,Nat.reducePow,Nat.reduceDiv,Nat.reduceMod,Int.reduceBEq,pathR]
   ·rw[hp]
    simp only[go_sem,Nat.reduceAdd,Nat.reduceMul,Nat.reduceSub,Nat.reduceLT,Nat.reduceLeDiff,Nat.reduceEqDiff,Nat.reduceBEq,Nat.reduceBeqDiff,Int.reduceEq,Int.reduceLT,Int.reduceLE,Int.reduceToNat,Int.reduceNeg,Int.reduceAdd,Int.reduceSub,Int.reduceMul,reduceIte,reduceCtorEq,Nat.reducePow,Nat.reduceDiv,Nat.reduceMod,Int.reduceBEq,pathR]
end Go.Proofs.YtfpioigggjnffaaGreatDoor.E
set_option autoImplicit false
set_option maxRecDepth 100000
set_option maxHeartbeats 4000000
set_option pp.maxSteps 20000
namespace Go.Proofs.YtfpioigggjnffaaGreatDoor.E
open Go.Ev
theorem path_rm {e:TEnv} (he:ESm e) {l:List TInstr}: ∀{b:Nat} {s:Stk} {p:List Stk},Rm b s→pathS saneF accE shapeF e s l= .ok p→∀x∈p,Rm (b+65*l.length) x:=by
 induction l with
 |nil=>
  intro b s p h e x hx
  cases e
  simp only[List.mem_singleton] at hx
  subst hx;exact h.up (by omega)
 |cons i l ih=>
  intro b s p h e x hx
  obtain⟨s',q,h1,h2,rfl⟩:=pathS_cons e
  rcases List.mem_cons.1 hx with rfl|hx
  ·exact h.up (by omega)
  ·have:=ih (h.step he h1) h2 x hx
   exact this.up (by simp only[List.length_cons];omega)
theorem start_rm (e:TEnv):Rm 1 (start e):=⟨by simp[start],by simp[start]⟩
def bodyF (e:TEnv) (l:List TInstr):Int:=match pathF e l with
 | .error f=>f
 | .ok p=>match closeS (p.getLastD stk0) with
   | .ok _=>0
   | .error _=>5
theorem pathF_ok {e:TEnv} {l:List TInstr} {p:List Stk} (h:pathF e l= .ok p):walkOk l=true∧envSane e=true∧pathS saneF accE shapeF e (start e) l= .ok p:=by
 unfold pathF at h
 split at h
 ·rename_i hw
  split at h
  ·rename_i hs;exact⟨hw,hs,h⟩
  ·cases h
 ·cases h
theorem pathF_ne {e:TEnv} {l:List TInstr} {f:Int} (h:pathF e l= .error f): ¬f=0:=by
 unfold pathF at h
 split at h
 ·split at h
  ·induction l generalizing f with
   |nil=>simp[pathS] at h
   |cons i l ih=>
    clear ih
    revert h
    generalize start e=s
    intro h
    have key: ∀(l:List TInstr) (s:Stk),pathS saneF accE shapeF e s l= .error f→¬f=0:=by
     intro l
     induction l with
     |nil=>intro s h;simp[pathS] at h
     |cons i l ih=>
      intro s h
      simp only[pathS] at h
      cases hs:stepS saneF accE shapeF e s i with
      |error g=>rw[hs] at h;cases h;exact stepS_ne hs
      |ok s'=>
       rw[hs] at h
       simp only at h
       cases hp:pathS saneF accE shapeF e s' l with
       |error g=>rw[hp] at h;cases h;exact ih s' hp
       |ok p=>rw[hp] at h;cases h
    exact key _ _ h
  ·cases h;decide
 ·cases h;decide
theorem body_ev (fu n:Nat) (e:TEnv) (h:EOk fu e) (l:List TInstr) (hl:l.length*65+300<fu) (hl2:l.length*65+300<1000000) (hb: ∀i∈l,i.labels.length<fu∧i.labels.length<1000000):
 evF (G fu) (n+14) 25 [.d e.dd, .d (.list (l.map TInstr.d))] []=some (.d (.int .i64 (bodyF e l)),[]):=by
 have P:=path_ev fu n e h l hl hl2 hb
 simp only[TEnv.dd] at P
 unfold bodyF
 rw[evF.eq_2,evX.eq_def,Gext,exts_no _ (f:=25) (by decide),GP,Tryz.func25];simp only[Tryz.f25,evB]
 cases hp:pathF e l with
 |error f=>
  rw[hp] at P
  simp only[pathR] at P
  have hf:=pathF_ne hp
  simp only[go_sem,Nat.reduceAdd,Nat.reduceMul,Nat.reduceSub,Nat.reduceLT,Nat.reduceLeDiff,Nat.reduceEqDiff,Nat.reduceBEq,Nat.reduceBeqDiff,Int.reduceEq,Int.reduceLT,Int.reduceLE,Int.reduceToNat,Int.reduceNeg,Int.reduceAdd,Int.reduceSub,Int.reduceMul,reduceIte,reduceCtorEq,Nat.reducePow,Nat.reduceDiv,Nat.reduceMod,Int.reduceBEq,TEnv.dd,P,hf]
 |ok p=>
  rw[hp] at P
  simp only[pathR] at P
  have hps:=(pathF_ok hp).2.2
  have hpl:=pathS_len hps
  have hx:(stkds p)[p.length-1]? =some (p.getD (p.length-1) stk0).dd:=getD_map (by omega)
  have hlast:p.getD (p.length-1) stk0=p.getLastD stk0:=by
   rw[List.getLastD_eq_getLast?,List.getLast?_eq_getElem?,List.getD_eq_getElem?_getD]
  have hm:p.getLastD stk0∈p:=by
   rw[←hlast,List.getD_eq_getElem?_getD,List.getElem?_eq_getElem (show p.length-1<p.length by omega)]
   exact List.getElem_mem _
  have hR:=path_rm h.sm (start_rm e) hps _ hm
  have C:=closeR_ev fu (n+5) (p.getLastD stk0) (hR.ok (by omega) (by omega))
  rw[hlast] at hx
  have Wn:IntKind.wrap .i64 ((p.length:Int)-1)=((p.length-1:Nat):Int):=by rw[wrap_i64 (by omega) (by omega)];omega
  have hlt:((p.length-1:Nat):Int)<p.length:=by omega
  have t1:(stkds p).take p.length=stkds p:=List.take_of_length_le (by simp)
  obtain⟨s,hS⟩: ∃s,p.getLastD stk0=s:=⟨_,rfl⟩
  rw[hS] at hx C
  simp only[Stk.dd] at hx C
  cases hc:closeS s with
  |ok r=>
   rw[hc] at C
   simp only[closeR,Stk.dd,Ctl.dd] at C
   simp only[go_sem,Nat.reduceAdd,Nat.reduceMul,Nat.reduceSub,Nat.reduceLT,Nat.reduceLeDiff,Nat.reduceEqDiff,Nat.reduceBEq,Nat.reduceBeqDiff,Int.reduceEq,Int.reduceLT,Int.reduceLE,Int.reduceToNat,Int.reduceNeg,Int.reduceAdd,Int.reduceSub,Int.reduceMul,reduceIte,reduceCtorEq,Nat.reducePow,Nat.reduceDiv,Nat.reduceMod,Int.reduceBEq,TEnv.dd,P,Wn,hlt,hx,C,t1,hS,hc]
  |error f=>
   rw[hc] at C
   have hf: ¬f=0:=by have:=closeS_err hc;omega
   simp only[closeR,Stk.dd,Ctl.dd,stk0,ctl0,List.map_nil] at C
   simp only[go_sem,Nat.reduceAdd,Nat.reduceMul,Nat.reduceSub,Nat.reduceLT,Nat.reduceLeDiff,Nat.reduceEqDiff,Nat.reduceBEq,Nat.reduceBeqDiff,Int.reduceEq,Int.reduceLT,Int.reduceLE,Int.reduceToNat,Int.reduceNeg,Int.reduceAdd,Int.reduceSub,Int.reduceMul,reduceIte,reduceCtorEq,Nat.reducePow,Nat.reduceDiv,Nat.reduceMod,Int.reduceBEq,TEnv.dd,P,Wn,hlt,hx,C,hf,t1,hS,hc]
end Go.Proofs.YtfpioigggjnffaaGreatDoor.E
