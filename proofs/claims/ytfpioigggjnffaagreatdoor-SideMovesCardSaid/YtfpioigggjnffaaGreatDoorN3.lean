/- N3, Q15. -/
import Derived.Test.YtfpioigggjnffaaGreatDoorT06
import Derived.Test.YtfpioigggjnffaaGreatDoorQ13
import Derived.Test.YtfpioigggjnffaaGreatDoorF6
set_option linter.unnecessarySimpa false
set_option linter.unusedSimpArgs false
set_option linter.unusedVariables false
set_option autoImplicit false
namespace Go.Proofs.YtfpioigggjnffaaGreatDoor.E
open Go.Ev
theorem top_only {l:List TInstr} {k:Nat} {j o o':Int} {r base inner:List Nest} (hst:walkSt l k=some ((j,o)::r)) (h:(j,o)::r=inner++(j,o')::base):inner=[]∧o=o'∧r=base:=by
 cases inner with
 |nil=>
  simp only[List.nil_append,List.cons.injEq,Prod.mk.injEq,true_and] at h
  exact⟨rfl,h.1,h.2⟩
 |cons p inner=>
  exfalso
  simp only[List.cons_append,List.cons.injEq] at h
  have hs:=walkSt_sorted hst
  have:=(List.pairwise_cons.1 hs).1 (j,o') (by rw[h.2];simp)
  simp at this
theorem endAt_facts {l:List TInstr} {j e:Nat} {o:Int} (he:e<l.length) (h:EndAt l j o e):j<e∧opensB (opAt l j)=true∧∃base,walkSt l j=some base∧walkSt l e=some (((j:Int),o)::base)∧(∀m,j<m→m≤e→inBlk l j base m)∧
 (o= -1∨∃m:Nat,o=m∧j<m∧m<e∧opAt l m=5∧∃o',walkSt l m=some (((j:Int),o')::base)):=by
 obtain⟨h11,base',hst⟩:=h
 have hin:=walkSt_in hst ((j:Int),o) (by simp)
 unfold nestIn at hin
 have hje:j<e:=by have:=hin.2.1;simp only at this;omega
 obtain⟨M,hM⟩:=walkG_any (tellM l) (List.replicate l.length (-1, -1)) hst
 have W:=winv l e (by omega) _ M hM
 have ho:=(W.op ((j:Int),o) (by simp)).1
 simp only[Int.toNat_natCast] at ho
 obtain⟨base,hb⟩:=walkSt_before (e-j) j _ (by rw[show j+(e-j)=e by omega];exact hst)
 refine⟨hje,ho,base,hb, ?_⟩
 rcases W.all j hje ho base hb with⟨inner,o',h1,h2,h3⟩|⟨h1,_⟩
 ·obtain⟨_,rfl,rfl⟩:=top_only hst h1
  exact⟨hst,h3,h2.1.imp id (fun⟨m,a1,a2,a3,a4,_,a6⟩=>⟨m,a1,a2,a3,a4,a6⟩)⟩
 ·exact absurd rfl (h1 ((j:Int),o) (by simp))
theorem endAt_once {l:List TInstr} {j e e':Nat} {o o':Int} (he:e<l.length) (he':e'<l.length) (h:EndAt l j o e) (h':EndAt l j o' e'): ¬e<e':=by
 intro hlt
 obtain⟨a1,a2,base,a3,a4,a5,_⟩:=endAt_facts he h
 obtain⟨b1,b2,base',b3,b4,b5,_⟩:=endAt_facts he' h'
 obtain rfl:=Option.some.inj (a3.symm.trans b3)
 obtain⟨inner,o2,h2⟩:=b5 (e+1) (by omega) (by omega)
 have h3:walkSt l (e+1)=some base:=by rw[walkSt_succ a4,h.1];rfl
 rw[h3] at h2
 have:=congrArg List.length (Option.some.inj h2)
 simp at this
 omega
theorem else_one {l:List TInstr} {j j' e e' i:Nat} (he:e<l.length) (he':e'<l.length) (h:EndAt l j (i:Int) e) (h':EndAt l j' (i:Int) e'):j=j'∧opAt l i=5:=by
 obtain⟨_,_,base,_,_,_,a6⟩:=endAt_facts he h
 obtain⟨_,_,base',_,_,_,b6⟩:=endAt_facts he' h'
 rcases a6 with a6|⟨m,a1,_,_,a4,o1,a5⟩
 ·omega
 ·rcases b6 with b6|⟨m',b1,_,_,b4,o2,b5⟩
  ·omega
  ·obtain rfl:i=m:=by omega
   obtain rfl:i=m':=by omega
   have:=Option.some.inj (a5.symm.trans b5)
   simp only[List.cons.injEq,Prod.mk.injEq] at this
   exact⟨by omega,a4⟩
structure Told (l:List TInstr) (k:Nat) (M:List Nest):Prop where
 len:M.length=l.length
 other: ∀(i j e:Nat),e<k→EndAt l j (i:Int) e→M.getD i n0=(-1,(e:Int))
 rest: ∀(i:Nat),(∀o e,e<k→¬EndAt l i o e)→(∀j e,e<k→¬EndAt l j (i:Int) e)→M.getD i n0=(-1, -1)
theorem told (l:List TInstr): ∀(k:Nat),k≤l.length→∀st M,walkG (tellM l) (List.replicate l.length (-1, -1)) l k=some (st,M)→Told l k M
 |0,_,st,M,h=>by
  simp only[walkG,Option.some.injEq,Prod.mk.injEq] at h
  obtain⟨rfl,rfl⟩:=h
  refine⟨by simp,fun i j e he=>by omega,fun i _ _=> ?_⟩
  simp only[List.getD_eq_getElem?_getD,List.getElem?_replicate,n0]
  split<;>rfl
 |k+1,hk,st',M',h=>by
  simp only[walkG] at h
  split at h
  ·cases h
  ·rename_i st M hw
   have ih:=told l k (by omega) st M hw
   have W:=winv l k (by omega) st M hw
   have hst:=walkSt_of hw
   split at h
   ·cases h
   ·rename_i st1 d en h1
    simp only[Option.some.injEq,Prod.mk.injEq] at h
    obtain⟨rfl,rfl⟩:=h
    by_cases h11:opAt l k=11
    ·rcases stepF_cases h1 with⟨q,_⟩|⟨_,_,q,_⟩|⟨t,_,rfl,_,rfl⟩|⟨t,r,q,_⟩
     ·rw[show(l.getD k in0).op=11 from h11] at q;cases q
     ·exact absurd h11 q
     ·obtain⟨a',b⟩:=en
      have hin:=walkSt_in hst (a',b) (by simp)
      unfold nestIn at hin
      have hin:0≤a'∧a'<(k:Int)∧(b= -1∨(0≤b∧b<(k:Int)∧a'≠b)):=hin
      obtain⟨a,rfl⟩: ∃a:Nat,a'=a:=⟨a'.toNat,by omega⟩
      have hE:EndAt l a b k:=⟨h11,_,hst⟩
      have huniq: ∀j o,EndAt l j o k→j=a∧o=b:=fun j o ⟨_,base,hh⟩=>by
       have:=Option.some.inj (hh.symm.trans hst)
       simp only[List.cons.injEq,Prod.mk.injEq] at this
       exact⟨by omega,this.1.2⟩
      have hoa:opensB (opAt l a)=true:=by
       have:=(W.op ((a:Int),b) (by simp)).1
       simpa using this
      have hlen:=ih.len
      unfold tellM
      rw[if_pos (show(l.getD k in0).op=11 from h11)]
      simp only[Int.toNat_natCast]
      have hk1: ∀i,i≠a→(M.set a (b,(k:Int))).getD i n0=M.getD i n0:=fun i hi=>by
       simp only[List.getD_eq_getElem?_getD,List.getElem?_set_ne (Ne.symm hi)]
      have hno5: ∀i,opAt l i=5→i≠a:=fun i h5 e=>by rw[←e,h5] at hoa;cases hoa
      by_cases hb:b= -1
      ·subst hb
       rw[if_pos rfl]
       refine⟨by simp[hlen],fun i j e he hEi=> ?_,fun i c1 c2=> ?_⟩
       ·by_cases hek:e=k
        ·subst hek
         have:=(huniq j _ hEi).2
         omega
        ·obtain⟨_,h5⟩:=else_one (show e<l.length by omega) (show e<l.length by omega) hEi hEi
         rw[hk1 i (hno5 i h5)]
         exact ih.other i j e (by omega) hEi
       ·have hia:i≠a:=fun e=>c1 _ k (by omega) (e ▸ hE)
        rw[hk1 i hia]
        exact ih.rest i (fun o e he=>c1 o e (by omega)) (fun j e he=>c2 j e (by omega))
      ·rw[if_neg hb]
       obtain⟨m,rfl⟩: ∃m:Nat,b=m:=⟨b.toNat,by omega⟩
       simp only[Int.toNat_natCast]
       have h5:=(else_one (show k<l.length by omega) (show k<l.length by omega) hE hE).2
       have hma:=hno5 m h5
       have hmM:M.getD m n0=(-1, -1):=ih.rest m (fun o e he hh=>by
        obtain⟨_,q,_⟩:=endAt_facts (show e<l.length by omega) hh
        rw[h5] at q;cases q) (fun j e he hh=>by
        obtain⟨rfl,_⟩:=else_one (show e<l.length by omega) (show k<l.length by omega) hh hE
        exact endAt_once (show e<l.length by omega) (show k<l.length by omega) hh hE he)
       have hmk:m<M.length:=by omega
       have hv:((M.set a ((m:Int),(k:Int))).getD m (0,0)).1= -1:=by
        simp only[List.getD_eq_getElem?_getD,List.getElem?_set_ne (Ne.symm hma)]
        rw[List.getD_eq_getElem?_getD] at hmM
        simp only[List.getElem?_eq_getElem hmk,Option.getD_some] at hmM ⊢
        rw[hmM]
       rw[hv]
       have hk2: ∀i,i≠a→i≠m→((M.set a ((m:Int),(k:Int))).set m (-1,(k:Int))).getD i n0=M.getD i n0:=fun i hi him=>by
        simp only[List.getD_eq_getElem?_getD,List.getElem?_set_ne (Ne.symm him),List.getElem?_set_ne (Ne.symm hi)]
       refine⟨by simp[hlen],fun i j e he hEi=> ?_,fun i c1 c2=> ?_⟩
       ·by_cases hek:e=k
        ·subst hek
         have:=(huniq j _ hEi).2
         obtain rfl:i=m:=by omega
         simp[List.getD_eq_getElem?_getD,hmk]
        ·obtain⟨_,hi5⟩:=else_one (show e<l.length by omega) (show e<l.length by omega) hEi hEi
         have him:i≠m:=fun q=>by
          subst q
          obtain⟨rfl,_⟩:=else_one (show e<l.length by omega) (show k<l.length by omega) hEi hE
          exact endAt_once (show e<l.length by omega) (show k<l.length by omega) hEi hE (by omega)
         rw[hk2 i (hno5 i hi5) him]
         exact ih.other i j e (by omega) hEi
       ·have hia:i≠a:=fun e=>c1 _ k (by omega) (e ▸ hE)
        have him:i≠m:=fun e=>c2 a k (by omega) (e ▸ hE)
        rw[hk2 i hia him]
        exact ih.rest i (fun o e he=>c1 o e (by omega)) (fun j e he=>c2 j e (by omega))
     ·rw[show(l.getD k in0).op=11 from h11] at q;cases q
    ·have ht:tellM l k d en M=M:=by unfold tellM;rw[if_neg (show ¬(l.getD k in0).op=11 from h11)]
     rw[ht]
     refine⟨ih.len,fun i j e he hE=>ih.other i j e ?_ hE,fun i c1 c2=>ih.rest i (fun o e he=>c1 o e (by omega)) (fun j e he=>c2 j e (by omega))⟩
     have:e≠k:=fun q=>h11 (q ▸ hE.1)
     omega
section
variable {l:List TInstr} (h:walkOk l=true)
include h
theorem end_is {j:Nat} (hj:j<l.length) (ho:opensB (opAt l j)=true): ∃(e:Nat) (o:Int),endF l j=((e:Int),o)∧j<e∧e<l.length∧EndAt l j o e∧(matchesF l).getD j n0=(o,(e:Int)):=by
 obtain⟨base,hb⟩:=walkSt_ok h (k:=j) (by omega)
 obtain⟨e,o,h1,h2,h3,h4,h5,h6,h7⟩:=(all_shut h hj ho hb).ex
 exact⟨e,o,end_of hb ho h1 h2 h3 h4 h7,h1,h2,⟨h3,base,h4⟩,h5⟩
theorem told_all:Told l l.length (matchesF l):=by
 obtain⟨M,hM⟩:=walk_some (tellM l) (List.replicate l.length (-1, -1)) h
 have hmf:matchesF l=M:=by simp[matchesF,hM]
 rw[hmf]
 exact told l l.length (Nat.le_refl _) [] M hM
theorem match_else {i j e:Nat} (hj:j<l.length) (ho:opensB (opAt l j)=true) (he:endF l j=((e:Int),(i:Int))):(matchesF l).getD i n0=(-1,(e:Int)):=by
 obtain⟨e',o,h1,h2,h3,h4,h5⟩:=end_is h hj ho
 rw[he] at h1
 simp only[Prod.mk.injEq] at h1
 obtain⟨h1,rfl⟩:=h1
 obtain rfl:e=e':=by omega
 exact(told_all h).other i j e h3 h4
theorem used_all {m:Nat} (hm:m<l.length) (h5:opAt l m=5∨opAt l m=11): ∃j,j<l.length∧opensB (opAt l j)=true∧((endF l j).1=m∨(endF l j).2=m):=by
 obtain⟨st,hst⟩:=walkSt_ok h (k:=m) (by omega)
 obtain⟨st',hst'⟩:=walkSt_ok h (k:=m+1) (by omega)
 rcases walkSt_up hst hst' with⟨q1,_⟩|⟨_,q2,q3,_⟩|⟨t,q1,q2⟩|⟨t,r,q1,q2,q3,q4,q5⟩
 ·rcases h5 with h5|h5<;>rw[h5] at q1<;>cases q1
 ·omega
 ·subst q2
  obtain⟨a,b⟩:=t
  have hin:=walkSt_in hst (a,b) (by simp)
  unfold nestIn at hin
  have hin:0≤a∧a<(m:Int)∧_:=hin
  obtain⟨j,rfl⟩: ∃j:Nat,a=j:=⟨a.toNat,by omega⟩
  obtain⟨h1,h2,base,h3,h4,h6,_⟩:=endAt_facts hm ⟨q1,st',hst⟩
  have:=end_of h3 h2 h1 hm q1 h4 h6
  exact⟨j,by omega,h2, .inl (by rw[this])⟩
 ·subst q2
  obtain⟨a,b⟩:=t
  have hin:=walkSt_in hst (a,b) (by simp)
  unfold nestIn at hin
  have hin:0≤a∧a<(m:Int)∧_:=hin
  obtain⟨j,rfl⟩: ∃j:Nat,a=j:=⟨a.toNat,by omega⟩
  obtain⟨M,hM⟩:=walkG_any (tellM l) (List.replicate l.length (-1, -1)) hst
  have ho:=((winv l m (by omega) _ M hM).op ((j:Int),b) (by simp)).1
  simp only[Int.toNat_natCast] at ho
  obtain⟨base,hb⟩:=walkSt_ok h (k:=j) (by omega)
  obtain⟨e,o,g1,g2,g3,g4,g5,g6,g7⟩:=(all_shut h (show j<l.length by omega) ho hb).ex
  have hr:r=base:=by
   rcases(winv l m (by omega) _ M hM).all j (by omega) ho base hb with⟨inner,o',h1,_⟩|⟨h1,_⟩
   ·exact(top_only hst h1).2.2
   ·exact absurd rfl (h1 ((j:Int),b) (by simp))
  subst hr
  have hme:m<e:=by
   rcases Nat.lt_trichotomy m e with q|q|q
   ·exact q
   ·exfalso;subst q;omega
   ·exfalso
    obtain⟨M2,hM2⟩:=walkG_any (tellM l) (List.replicate l.length (-1, -1)) hst
    rcases(winv l m (by omega) _ M2 hM2).all j (by omega) ho r hb with⟨inner,o',h1,h2,h3⟩|⟨h1,_⟩
    ·obtain⟨inner2,o2,h4⟩:=h3 (e+1) (by omega) (by omega)
     have h5:walkSt l (e+1)=some r:=by rw[walkSt_succ g4,g3];rfl
     rw[h5] at h4
     have:=congrArg List.length (Option.some.inj h4)
     simp at this
     omega
    ·exact absurd rfl (h1 ((j:Int),b) (by simp))
  have ho':=g6.2 m (by omega) hme q1 b hst
  exact⟨j,by omega,ho, .inr (by rw[end_of hb ho g1 g2 g3 g4 g7];exact ho')⟩
end
end Go.Proofs.YtfpioigggjnffaaGreatDoor.E
set_option autoImplicit false
set_option maxRecDepth 100000
set_option maxHeartbeats 4000000
set_option pp.maxSteps 20000
namespace Go.Proofs.YtfpioigggjnffaaGreatDoor.E
open Go.Ev
theorem Rm.go {b:Nat} {e:TEnv} (he:ESm e) {s:Stk} (h:Rm b s) (i:TInstr):Rm (b+65) (goS accE shapeF e s i).s:=by
 have hR:Rm b (⟨s,0⟩:WkS).s:=h
 unfold goS
 simp only
 split
 ·exact hR.kill.up (by omega)
 split
 ·exact h.up (by omega)
 split
 ·unfold nestedS
  split
  ·exact(hR.want _).opens _ _ (by omega)
  split
  ·exact((hR.must _ _).closed).opens _ _ (by omega)
  split
  ·refine(((hR.must _ _).closed).must _ _).push ?_
   have:=closed_len ((⟨s,0⟩:WkS).must (decide (1<s.ctrls.length)) 5)
   simp only;omega
  ·exact hR.opens _ _ (by omega)
 split
 ·unfold branchS
  split
  ·exact(hR.want _).kill.up (by omega)
  ·simp only
   have hl:=fin_len (label_fin ⟨s,0⟩ i.a)
   have h1:Rm b (labelsS ((⟨s,0⟩:WkS).label i.a).2 ((⟨s,0⟩:WkS).label i.a).1 i.labels).s:=(hR.label i.a).labels _ _
   have h2:Rm b (if i.op=12 then labelsS ((⟨s,0⟩:WkS).label i.a).2 ((⟨s,0⟩:WkS).label i.a).1 i.labels else(labelsS ((⟨s,0⟩:WkS).label i.a).2 ((⟨s,0⟩:WkS).label i.a).1 i.labels).want [127]).s:=by
    split
    ·exact h1
    ·exact h1.want _
   split
   ·exact(h2.want _).push (by omega)
   ·exact(h2.want _).kill.up (by omega)
 split
 ·unfold callS
  simp only
  have key: ∀(o:Option (List Int×List Int)) (w:WkS),Rm b w.s→(o.getD ([],[])).2.length≤64→Rm (b+65) ((w.want (o.getD ([],[])).1).push (o.getD ([],[])).2).s:=fun o w hw hl=>(hw.want _).push (by omega)
  split
  ·refine key _ _ ((hR.must _ _).want _) ?_
   split
   ·exact(getM_sm he).2
   ·simp
  ·exact key _ _ (hR.must _ _) (type_sm he).2
 split
 ·unfold chosenS
  split
  ·exact hR.pop.up (by omega)
  ·exact(((hR.want _).pop.pop).must _ _).push (by simp)
 split
 ·unfold variableS
  simp only
  have key: ∀r:Int×WkS,Rm b r.2.s→Rm (b+65) (if i.op=32∨i.op=34∨i.op=35 then(if i.op≠32∧i.op≠35 then r.2.want [r.1] else r.2).push [r.1] else(if i.op≠32∧i.op≠35 then r.2.want [r.1] else r.2)).s:=fun r hr=>by
   have h1:Rm b (if i.op≠32∧i.op≠35 then r.2.want [r.1] else r.2).s:=by
    split
    ·exact hr.want _
    ·exact hr
   split
   ·exact h1.push (by simp)
   ·exact h1.up (by omega)
  refine key _ ?_
  split
  ·split
   ·exact hR
   ·exact hR.must _ _
  ·split
   ·exact hR.must _ _
   ·exact hR.must _ _
 split
 ·unfold memoryS
  simp only
  have h1:=hR.must (decide (0<e.mems)) 6
  split
  ·exact h1.push (by simp)
  split
  ·exact(h1.want _).push (by simp)
  ·have h2:=h1.must (decide (i.a≤3)&&decide ((2:Int)^i.a.toNat≤(accE i.op).2.1)) 5
   split
   ·exact(h2.want _).up (by omega)
   ·exact(h2.want _).push (by simp)
 split
 ·exact hR.push (by simp)
 split
 ·exact hR.push (by simp)
 split
 ·exact(hR.want _).push (by simp)
 ·exact h.up (by omega)
theorem Rm.step {b:Nat} {e:TEnv} (he:ESm e) {s s':Stk} (h:Rm b s) {i:TInstr} (hs:stepS saneF accE shapeF e s i= .ok s'):Rm (b+65) s':=by
 have:=(stepS_parts hs).2.2.2
 rw[←this];exact h.go he i
theorem stepS_ne {e:TEnv} {s:Stk} {i:TInstr} {f:Int} (h:stepS saneF accE shapeF e s i= .error f): ¬f=0:=by
 unfold stepS at h
 split at h
 ·cases h;decide
 ·simp only at h
  split at h
  ·rename_i hne;simp only[Except.error.injEq] at h;rw[←h];exact hne
  ·cases h
abbrev stkds (p:List Stk):List D:=p.map Stk.dd
def pathR:Except Int (List Stk)→Option Res
 | .ok p=>some (.tup [.row 0 0 0 p.length, .d (.int .i64 0)],[.row 2 (stkds p) 0 false false])
 | .error e=>some (.tup [.row 0 0 0 0, .d (.int .i64 e)],[.row 2 [] 0 false false])
def pathF (e:TEnv) (l:List TInstr):Except Int (List Stk):=if walkOk l then if envSane e then pathS saneF accE shapeF e (start e) l else .error 1 else .error 3
theorem path_snoc {e:TEnv} {s:Stk} {l:List TInstr} {x:TInstr}:pathS saneF accE shapeF e s (l++[x])=match pathS saneF accE shapeF e s l with
 | .error f=> .error f
 | .ok p=>match stepS saneF accE shapeF e (p.getLastD s) x with
   | .error f=> .error f
   | .ok t=> .ok (p++[t]):=by
 induction l generalizing s with
 |nil=>
  simp only[List.nil_append,pathS]
  have hl:[s].getLastD s=s:=rfl
  rw[hl]
  cases hs:stepS saneF accE shapeF e s x<;>simp only[List.cons_append,List.nil_append]
 |cons i l ih=>
  simp only[List.cons_append,pathS]
  cases hs:stepS saneF accE shapeF e s i with
  |error f=>rfl
  |ok s'=>
   simp only
   rw[ih]
   cases hp:pathS saneF accE shapeF e s' l with
   |error f=>rfl
   |ok p=>
    simp only
    have hl:p.getLastD s'=(s::p).getLastD s:=by
     have:p≠[]:=by
      intro hh;subst hh
      have:=pathS_len hp
      simp at this
     cases p with
     |nil=>exact absurd rfl this
     |cons a p=>rfl
    rw[hl]
    cases stepS saneF accE shapeF e ((s::p).getLastD s) x<;>simp only[List.cons_append]
theorem path_errT {e:TEnv} {s:Stk} {l:List TInstr} {f:Int}: ∀{k:Nat},pathS saneF accE shapeF e s (l.take k)= .error f→pathS saneF accE shapeF e s l= .error f:=by
 intro k h
 induction l generalizing s k with
 |nil=>simpa using h
 |cons i l ih=>
  cases k with
  |zero=>simp[pathS] at h
  |succ k=>
   simp only[List.take_succ_cons,pathS] at h ⊢
   cases hs:stepS saneF accE shapeF e s i with
   |error g=>rw[hs] at h;exact h
   |ok s'=>
    rw[hs] at h
    simp only at h ⊢
    cases hp:pathS saneF accE shapeF e s' (l.take k) with
    |error g=>
     rw[hp] at h
     cases h
     rw[ih hp]
    |ok p=>rw[hp] at h;cases h
theorem path_ev (fu n:Nat) (e:TEnv) (h:EOk fu e) (l:List TInstr) (hl:l.length*65+300<fu) (hl2:l.length*65+300<1000000) (hb: ∀i∈l,i.labels.length<fu∧i.labels.length<1000000):
 evF (G fu) (n+13) 23 [.d e.dd, .d (.list (l.map TInstr.d))] []=pathR (pathF e l):=by
 have M:=matches_ev fu (n+7) l (by omega) (by omega) (by omega)
 have S:=envSane_ev fu (n+6) e h
 unfold pathF
 rw[evF.eq_2,evX.eq_def,Gext,exts_no _ (f:=23) (by decide),GP,Tryz.func23];simp only[Tryz.f23,evB]
 simp only[TEnv.dd] at S
 cases hw:walkOk l with
 |false=>
  rw[hw] at M
  simp only[go_sem,seval, -Nat.reduceSubDiff,↓reduceIte,reduceCtorEq,TEnv.dd,M,pathR]
 |true=>
  rw[hw] at M
  cases hs:envSane e with
  |false=>
   rw[hs] at S
   simp only[go_sem,seval, -Nat.reduceSubDiff,↓reduceIte,reduceCtorEq,TEnv.dd,M,S,pathR]
  |true=>
   rw[hs] at S
   have hfin:finB e.results=true:=by
    unfold envSane at hs
    simp only[Bool.and_eq_true,decide_eq_true_eq,List.all_append] at hs
    match hr:e.results,hs with
    |[],_=>rfl
    |[c],hs=>simpa[finB] using hs.1.2.1.2
    |a::b::r,hs=>have:=hs.2;simp at this;omega
   have O:=openR_ev fu (n+5) stk0 2 e.results ⟨by simp[stk0];omega,by simp[stk0];omega,by simp[stk0],by simp[stk0]⟩ (by have:=h.results;omega)
   have hop:openS stk0 2 e.results= .ok (start e):=start_open hfin
   rw[hop] at O
   simp only[stkR,Stk.dd,stk0,List.map_nil] at O
   simp only[go_sem,seval, -Nat.reduceSubDiff,↓reduceIte,reduceCtorEq,TEnv.dd,M,S,O,List.length_map,byt0]
   generalize hr:loopN _ _ _ _ _=r
   obtain⟨x,s1,rfl,hx,hJ⟩: ∃x s1,r=some (x,s1)∧Go.Ev.leaves x∧((∃p c,x= .exit 0∧pathS saneF accE shapeF e (start e) l= .ok p∧s1=⟨[(10,V.row 2048 0 0 p.length)],[(2048, .row 2 (stkds p) 0 false c)]⟩)∨
    (∃f,x= .ret∧pathS saneF accE shapeF e (start e) l= .error f∧s1=⟨[(4,V.nilsl),(5,V.d (D.int .i64 f))],[]⟩)):=by
    rw[←hr]
    refine loop_inv (J:=fun x s1=>((∃p c,x= .exit 0∧pathS saneF accE shapeF e (start e) l= .ok p∧s1=⟨[(10,V.row 2048 0 0 p.length)],[(2048, .row 2 (stkds p) 0 false c)]⟩)∨
     (∃f,x= .ret∧pathS saneF accE shapeF e (start e) l= .error f∧s1=⟨[(4,V.nilsl),(5,V.d (D.int .i64 f))],[]⟩)))
     l.length (fun k z=> ∃p c,pathS saneF accE shapeF e (start e) (l.take k)= .ok p∧Rm (65*k+1) (p.getLastD (start e))∧p.length=k+1∧
      z=⟨[(2,V.ptr 192 0),(8,V.ptr 576 0),(10,V.row 2048 0 0 p.length),(32,V.d (D.list (List.map TInstr.d l))),(33,V.d (D.int IntKind.i64 l.length)),(34,V.d (D.int IntKind.i64 k))],[(192, .cells [V.d (D.list (List.map tyD e.types)),V.d (D.list (List.map (D.int IntKind.i64) e.funcs)),V.d (D.int IntKind.i64 e.tables),V.d (D.int IntKind.i64 e.mems),V.d (D.list (List.map glD e.globals)),V.d (D.list (byt e.locs)),V.d (D.list (byt e.results))]),(576, .cells [V.d (D.list (byt (p.getLastD (start e)).vals)),V.d (D.list (ctlds (p.getLastD (start e)).ctrls))]),(2048, .row 2 (stkds p) 0 false c)]⟩) ?_ ?_ fu _ (by omega) ?_
    ·rintro k z hk ⟨p,c,hp,hrm,hpl,rfl⟩
     have hxi:(l.map TInstr.d)[k]? =some (l.getD k in0).d:=getD_map hk
     have hkI:(k:Int)<l.length:=by omega
     have W:=wrap_i64 (show-9223372036854775808≤(k:Int)+1 by omega) (by omega)
     have hm:l.getD k in0∈l:=by
      rw[List.getD_eq_getElem?_getD,List.getElem?_eq_getElem hk];exact List.getElem_mem hk
     have P:=step_ev fu n (65*k+1) e h.sm (p.getLastD (start e)) (by omega) (by omega) hrm (l.getD k in0) (hb _ hm).1 (hb _ hm).2
     have e1:l.take (k+1)=l.take k++[l.getD k in0]:=by
      rw[List.take_add_one,List.getElem?_eq_getElem hk,List.getD_eq_getElem?_getD,List.getElem?_eq_getElem hk];rfl
     have hsn:=path_snoc (e:=e) (s:=start e) (l:=l.take k) (x:=l.getD k in0)
     rw[←e1,hp] at hsn
     have hsE:pathS saneF accE shapeF e (start e) (l.take k)= .ok p:=hp
     simp only at hsn
     have hrs:=fun s'=>Rm.step h.sm hrm (s':=s') (i:=l.getD k in0)
     generalize l.getD k in0=i at*
     generalize hlast:p.getLastD (start e)=s at*
     cases hst:stepS saneF accE shapeF e s i with
     |error f=>
      rw[hst] at hsn P
      have hf: ¬f=0:=stepS_ne hst
      simp only[stkR,TEnv.dd,Stk.dd,TInstr.d,stk0,List.map_nil] at P
      simp only[go_sem,seval, -Nat.reduceSubDiff,↓reduceIte,reduceCtorEq,hkI,idx,hxi,TInstr.d,P,hf]
      exact⟨_,_,rfl, .inr ⟨f,rfl,path_errT hsn,rfl⟩⟩
     |ok s'=>
      rw[hst] at hsn P
      have hlast2:(p++[s']).getLastD (start e)=s':=by simp[List.getLastD_eq_getLast?]
      have hr2:p.length+1≤1099511627776:=by omega
      have z1:sizedAll 2 [Stk.dd s']=true:=rfl
      have t1:(stkds p).take p.length=stkds p:=List.take_of_length_le (by simp)
      have t2:stkds p++[Stk.dd s']=stkds (p++[s']):=by simp[stkds]
      simp only[stkR,TEnv.dd,Stk.dd,TInstr.d] at P
      simp only[Stk.dd] at z1 t2
      simp only[go_sem,seval, -Nat.reduceSubDiff,↓reduceIte,reduceCtorEq,hkI,idx,hxi,TInstr.d,P,W,z1,hr2,t1,t2]
      refine⟨_,_,rfl,p++[s'],true,hsn, ?_,by simp[hpl], ?_⟩
      ·rw[hlast2];exact(hrs s' hst).up (by omega)
      ·rw[hlast2,List.length_append];rfl
    ·rintro z ⟨p,c,hp,hrm,hpl,rfl⟩
     rw[List.take_length] at hp
     simp only[go_sem,seval, -Nat.reduceSubDiff,↓reduceIte,reduceCtorEq,Int.lt_irrefl]
     exact⟨_,_,rfl,trivial, .inl ⟨p,c,rfl,hp,rfl⟩⟩
    ·exact⟨[start e],false,rfl,⟨by simp[start],by simp[start,List.getLastD]⟩,rfl,rfl⟩
   rcases hJ with⟨p,c,rfl,hp,rfl⟩|⟨f,rfl,hp,rfl⟩
   ·rw[hp]
    simp only[go_sem,seval, -Nat.reduceSubDiff,↓reduceIte,reduceCtorEq,pathR]
   ·rw[hp]
    simp only[go_sem,seval, -Nat.reduceSubDiff,↓reduceIte,reduceCtorEq,pathR]
end Go.Proofs.YtfpioigggjnffaaGreatDoor.E
