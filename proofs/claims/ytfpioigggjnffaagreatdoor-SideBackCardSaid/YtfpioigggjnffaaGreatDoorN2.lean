/- N2, N3. -/
import Derived.Test.YtfpioigggjnffaaGreatDoorT06
set_option linter.unnecessarySimpa false
set_option linter.unusedSimpArgs false
set_option linter.unusedVariables false
set_option autoImplicit false
namespace Go.Proofs.YtfpioigggjnffaaGreatDoor.E
open Go.Ev
theorem walkSt_up {l:List TInstr} {k:Nat} {st st':List Nest} (h:walkSt l k=some st) (h':walkSt l (k+1)=some st'):
 (opensB (opAt l k)=true∧st'=((k:Int), -1)::st)∨(opensB (opAt l k)=false∧opAt l k≠5∧opAt l k≠11∧st'=st)∨
 (∃t,opAt l k=11∧st=t::st')∨(∃t r,opAt l k=5∧st=t::r∧t.2= -1∧opAt l t.1.toNat=4∧st'=(t.1,(k:Int))::r):=by
 obtain⟨d,e,hs⟩:=walkSt_step h h'
 rcases stepF_cases hs with⟨q1,q2,_⟩|⟨q1,q2,q3,q4,_⟩|⟨t,q1,q2,_⟩|⟨t,r,q1,q2,q3,q4,q5,_⟩
 ·exact .inl ⟨q1,q2⟩
 ·exact .inr (.inl ⟨q1,q2,q3,q4⟩)
 ·exact .inr (.inr (.inl ⟨t,q1,q2⟩))
 ·exact .inr (.inr (.inr ⟨t,r,q1,q2,q3,by unfold ifAt at q4;exact of_decide_eq_true q4,q5⟩))
theorem scan_walk {l:List TInstr} {j:Nat} {base:List Nest} (hb:walkSt l j=some base) (ho:opensB (opAt l j)=true): ∀m,j+1≤m→m≤l.length→(∀i,j<i→i≤m→inBlk l j base i)→
 ∀inner o,walkSt l m=some (inner++((j:Int),o)::base)→endF l j=endGo (opAt l) j (l.length-m) m inner.length o:=by
 intro m
 induction m with
 |zero=>intro h;omega
 |succ m ih=>
  intro h1 h2 hin inner' o' hst'
  by_cases e:m=j
  ·subst e
   have hst1:walkSt l (m+1)=some (((m:Int), -1)::base):=by
    rw[walkSt_succ hb,stepF_open ho];rfl
   rw[hst1] at hst'
   have hst':=Option.some.inj hst'
   have hl:=congrArg List.length hst'
   simp only[List.length_append,List.length_cons] at hl
   have:inner'=[]:=List.length_eq_zero_iff.1 (by omega)
   subst this
   simp only[List.nil_append,List.cons.injEq,Prod.mk.injEq] at hst'
   rw[←hst'.1.2]
   rfl
  ·obtain⟨inner,o,hst⟩:=hin m (by omega) (by omega)
   have ih:=ih (by omega) (by omega) (fun i a b=>hin i a (by omega)) inner o hst
   obtain⟨jj,hjj⟩: ∃jj,l.length-m=jj+1:=⟨l.length-m-1,by omega⟩
   have hjj':l.length-(m+1)=jj:=by omega
   rw[ih,hjj,hjj']
   rcases walkSt_up hst hst' with⟨q1,q2⟩|⟨q1,q2,q3,q4⟩|⟨t,q1,q2⟩|⟨t,r,q1,q2,q3,q4,q5⟩
   ·rw[endGo_open q1]
    have q2:inner'++((j:Int),o')::base=(((m:Int), -1)::inner)++((j:Int),o)::base:=q2
    obtain⟨e1,e2⟩:=List.append_inj q2 (by have:=congrArg List.length q2;simp only[List.length_append,List.length_cons] at this ⊢;omega)
    simp only[List.cons.injEq,Prod.mk.injEq,true_and,and_true] at e2
    rw[e1,e2,List.length_cons]
    rfl
   ·rw[endGo_plain q1 q2 q3]
    obtain⟨e1,e2⟩:=List.append_inj q4 (by have:=congrArg List.length q4;simp only[List.length_append,List.length_cons] at this ⊢;omega)
    simp only[List.cons.injEq,Prod.mk.injEq,true_and,and_true] at e2
    rw[e1,e2]
   ·cases inner with
    |nil=>
     exfalso
     have:=congrArg List.length q2
     simp only[List.nil_append,List.length_append,List.length_cons] at this
     omega
    |cons t0 inner=>
     have q2:t0::(inner++((j:Int),o)::base)=t::(inner'++((j:Int),o')::base):=q2
     simp only[List.cons.injEq] at q2
     obtain⟨e1,e2⟩:=List.append_inj q2.2 (by have:=congrArg List.length q2.2;simp only[List.length_append,List.length_cons] at this ⊢;omega)
     simp only[List.cons.injEq,Prod.mk.injEq,true_and,and_true] at e2
     rw[endGo_end2 q1 (by simp only[List.length_cons];omega),e1,e2,List.length_cons]
     congr 1
     omega
   ·cases inner with
    |nil=>
     simp only[List.nil_append,List.cons.injEq] at q2
     obtain⟨rfl,rfl⟩:=q2
     simp only at q3 q4 q5
     rw[Int.toNat_natCast] at q4
     have hl:=congrArg List.length q5
     simp only[List.length_append,List.length_cons] at hl
     have:inner'=[]:=List.length_eq_zero_iff.1 (by omega)
     subst this
     simp only[List.nil_append,List.cons.injEq,Prod.mk.injEq,true_and,and_true] at q5
     rw[q5]
     exact endGo_else q1 rfl (by omega) q4
    |cons t0 inner=>
     have q2:t0::(inner++((j:Int),o)::base)=t::r:=q2
     simp only[List.cons.injEq] at q2
     obtain⟨rfl,rfl⟩:=q2
     have q5:inner'++((j:Int),o')::base=((t0.1,(m:Int))::inner)++((j:Int),o)::base:=q5
     obtain⟨e1,e2⟩:=List.append_inj q5 (by have:=congrArg List.length q5;simp only[List.length_append,List.length_cons] at this ⊢;omega)
     simp only[List.cons.injEq,Prod.mk.injEq,true_and,and_true] at e2
     rw[endGo_else2 q1 (by simp only[List.length_cons];omega),e1,e2]
     rfl
def EndAt (l:List TInstr) (j:Nat) (o:Int) (e:Nat):Prop:=opAt l e=11∧∃base,walkSt l e=some (((j:Int),o)::base)
theorem walkG_any {σ:Type} (tell:Nat→Int→Nest→σ→σ) (s0:σ) {l:List TInstr} {k:Nat} {st:List Nest} (h:walkSt l k=some st): ∃s,walkG tell s0 l k=some (st,s):=by
 have:=walkG_st tell s0 l k
 rw[h] at this
 cases hw:walkG tell s0 l k with
 |none=>rw[hw] at this;cases this
 |some p=>
  rw[hw] at this
  obtain⟨a,b⟩:=p
  simp only[Option.map_some,Option.some.injEq] at this
  subst this
  exact⟨b,rfl⟩
theorem end_of {l:List TInstr} {j e:Nat} {o:Int} {base:List Nest} (hb:walkSt l j=some base) (ho:opensB (opAt l j)=true) (h1:j<e) (h2:e<l.length) (h3:opAt l e=11) (h4:walkSt l e=some (((j:Int),o)::base)) (h5: ∀m,j<m→m≤e→inBlk l j base m):endF l j=((e:Int),o):=by
 rw[scan_walk hb ho e h1 (by omega) h5 [] o h4]
 obtain⟨jj,hjj⟩: ∃jj,l.length-e=jj+1:=⟨l.length-e-1,by omega⟩
 rw[hjj]
 exact endGo_end h3 rfl
theorem endGo_range (f:Nat→Int) (a:Nat): ∀(j k:Nat) (deep other:Int),(other= -1∨∃m:Nat,other=m∧a<m∧m<k∧f m=5)→a<k→(endGo f a j k deep other=(-1, -1))∨
 ∃(e:Nat) (o:Int),endGo f a j k deep other=((e:Int),o)∧k≤e∧e<k+j∧f e=11∧(o= -1∨∃m:Nat,o=m∧a<m∧m<e∧f m=5)
 |0,k,deep,other,ho,ha=> .inl rfl
 |j+1,k,deep,other,ho,ha=>by
  have up:(other= -1∨∃m:Nat,other=m∧a<m∧m<k+1∧f m=5):=ho.imp id (fun⟨m,h1,h2,h3,h4⟩=>⟨m,h1,h2,by omega,h4⟩)
  have next: ∀d o':Int,(o'= -1∨∃m:Nat,o'=m∧a<m∧m<k+1∧f m=5)→endGo f a (j+1) k deep other=endGo f a j (k+1) d o'→(endGo f a (j+1) k deep other=(-1, -1))∨∃(e:Nat) (o:Int),endGo f a (j+1) k deep other=((e:Int),o)∧k≤e∧e<k+(j+1)∧f e=11∧(o= -1∨∃m:Nat,o=m∧a<m∧m<e∧f m=5):=fun d o' h1 h2=>by
   rw[h2]
   rcases endGo_range f a j (k+1) d o' h1 (by omega) with h|⟨e,o,g1,g2,g3,g4⟩
   ·exact .inl h
   ·exact .inr ⟨e,o,g1,by omega,by omega,g4⟩
  by_cases c0:opensB (f k)=true
  ·exact next _ _ up (endGo_open c0)
  ·have c0':opensB (f k)=false:=by simpa using c0
   by_cases c5:f k=5
   ·by_cases d0:deep=0
    ·by_cases q:0≤other∨f a≠4
     ·exact .inl (endGo_twice c5 d0 q)
     ·exact next _ _ (.inr ⟨k,rfl,ha,by omega,c5⟩) (endGo_else c5 d0 (fun h=>q (.inl h)) (Decidable.not_not.1 fun h=>q (.inr h)))
    ·exact next _ _ up (endGo_else2 c5 d0)
   ·by_cases c11:f k=11
    ·by_cases d0:deep=0
     ·exact .inr ⟨k,other,endGo_end c11 d0,Nat.le_refl _,by omega,c11,ho⟩
     ·exact next _ _ up (endGo_end2 c11 d0)
    ·exact next _ _ up (endGo_plain c0' c5 c11)
theorem endF_range (l:List TInstr) {a:Nat} (ha:a<l.length):endF l a=(-1, -1)∨∃(e:Nat) (o:Int),endF l a=((e:Int),o)∧a<e∧e<l.length∧opAt l e=11∧(o= -1∨∃m:Nat,o=m∧a<m∧m<e∧opAt l m=5):=by
 rcases endGo_range (opAt l) a (l.length-(a+1)) (a+1) 0 (-1) (.inl rfl) (by omega) with h|⟨e,o,h1,h2,h3,h4⟩
 ·exact .inl h
 ·exact .inr ⟨e,o,h1,by omega,by omega,h4⟩
theorem walkSt_before {l:List TInstr}: ∀(d k:Nat) (st':List Nest),walkSt l (k+d)=some st'→∃st'',walkSt l k=some st'':=by
 intro d
 induction d with
 |zero=>intro k st' h;exact⟨st',h⟩
 |succ d ihd=>
  intro k st' h
  obtain⟨s,hs⟩:=walkSt_back (k:=k+d) h
  exact ihd k s hs
end Go.Proofs.YtfpioigggjnffaaGreatDoor.E
set_option autoImplicit false
namespace Go.Proofs.YtfpioigggjnffaaGreatDoor.E
open Go.Ev
theorem top_only {l:List TInstr} {k:Nat} {j o o':Int} {r base inner:List Nest} (hst:walkSt l k=some ((j,o)::r)) (h:(j,o)::r=inner++(j,o')::base):inner=[]∧o=o'∧r=base:=by
 cases inner with
 |nil=>
  simp only[List.nil_append,List.cons.injEq,Prod.mk.injEq,true_and] at h
  exact⟨rfl,h.1,h.2⟩
 |cons p inner=>
  exfalso
  simp only[List.cons_append,List.cons.injEq] at h
  have hs:=walkSt_sorted hst
  have:=(List.pairwise_cons.1 hs).1 (j,o') (by rw[h.2];simp)
  simp at this
theorem endAt_facts {l:List TInstr} {j e:Nat} {o:Int} (he:e<l.length) (h:EndAt l j o e):j<e∧opensB (opAt l j)=true∧∃base,walkSt l j=some base∧walkSt l e=some (((j:Int),o)::base)∧(∀m,j<m→m≤e→inBlk l j base m)∧
 (o= -1∨∃m:Nat,o=m∧j<m∧m<e∧opAt l m=5∧∃o',walkSt l m=some (((j:Int),o')::base)):=by
 obtain⟨h11,base',hst⟩:=h
 have hin:=walkSt_in hst ((j:Int),o) (by simp)
 unfold nestIn at hin
 have hje:j<e:=by have:=hin.2.1;simp only at this;omega
 obtain⟨M,hM⟩:=walkG_any (tellM l) (List.replicate l.length (-1, -1)) hst
 have W:=winv l e (by omega) _ M hM
 have ho:=(W.op ((j:Int),o) (by simp)).1
 simp only[Int.toNat_natCast] at ho
 obtain⟨base,hb⟩:=walkSt_before (e-j) j _ (by rw[show j+(e-j)=e by omega];exact hst)
 refine⟨hje,ho,base,hb, ?_⟩
 rcases W.all j hje ho base hb with⟨inner,o',h1,h2,h3⟩|⟨h1,_⟩
 ·obtain⟨_,rfl,rfl⟩:=top_only hst h1
  exact⟨hst,h3,h2.1.imp id (fun⟨m,a1,a2,a3,a4,_,a6⟩=>⟨m,a1,a2,a3,a4,a6⟩)⟩
 ·exact absurd rfl (h1 ((j:Int),o) (by simp))
theorem endAt_once {l:List TInstr} {j e e':Nat} {o o':Int} (he:e<l.length) (he':e'<l.length) (h:EndAt l j o e) (h':EndAt l j o' e'): ¬e<e':=by
 intro hlt
 obtain⟨a1,a2,base,a3,a4,a5,_⟩:=endAt_facts he h
 obtain⟨b1,b2,base',b3,b4,b5,_⟩:=endAt_facts he' h'
 obtain rfl:=Option.some.inj (a3.symm.trans b3)
 obtain⟨inner,o2,h2⟩:=b5 (e+1) (by omega) (by omega)
 have h3:walkSt l (e+1)=some base:=by rw[walkSt_succ a4,h.1];rfl
 rw[h3] at h2
 have:=congrArg List.length (Option.some.inj h2)
 simp at this
 omega
theorem else_one {l:List TInstr} {j j' e e' i:Nat} (he:e<l.length) (he':e'<l.length) (h:EndAt l j (i:Int) e) (h':EndAt l j' (i:Int) e'):j=j'∧opAt l i=5:=by
 obtain⟨_,_,base,_,_,_,a6⟩:=endAt_facts he h
 obtain⟨_,_,base',_,_,_,b6⟩:=endAt_facts he' h'
 rcases a6 with a6|⟨m,a1,_,_,a4,o1,a5⟩
 ·omega
 ·rcases b6 with b6|⟨m',b1,_,_,b4,o2,b5⟩
  ·omega
  ·obtain rfl:i=m:=by omega
   obtain rfl:i=m':=by omega
   have:=Option.some.inj (a5.symm.trans b5)
   simp only[List.cons.injEq,Prod.mk.injEq] at this
   exact⟨by omega,a4⟩
structure Told (l:List TInstr) (k:Nat) (M:List Nest):Prop where
 len:M.length=l.length
 other: ∀(i j e:Nat),e<k→EndAt l j (i:Int) e→M.getD i n0=(-1,(e:Int))
 rest: ∀(i:Nat),(∀o e,e<k→¬EndAt l i o e)→(∀j e,e<k→¬EndAt l j (i:Int) e)→M.getD i n0=(-1, -1)
theorem told (l:List TInstr): ∀(k:Nat),k≤l.length→∀st M,walkG (tellM l) (List.replicate l.length (-1, -1)) l k=some (st,M)→Told l k M
 |0,_,st,M,h=>by
  simp only[walkG,Option.some.injEq,Prod.mk.injEq] at h
  obtain⟨rfl,rfl⟩:=h
  refine⟨by simp,fun i j e he=>by omega,fun i _ _=> ?_⟩
  simp only[List.getD_eq_getElem?_getD,List.getElem?_replicate,n0]
  split<;>rfl
 |k+1,hk,st',M',h=>by
  simp only[walkG] at h
  split at h
  ·cases h
  ·rename_i st M hw
   have ih:=told l k (by omega) st M hw
   have W:=winv l k (by omega) st M hw
   have hst:=walkSt_of hw
   split at h
   ·cases h
   ·rename_i st1 d en h1
    simp only[Option.some.injEq,Prod.mk.injEq] at h
    obtain⟨rfl,rfl⟩:=h
    by_cases h11:opAt l k=11
    ·rcases stepF_cases h1 with⟨q,_⟩|⟨_,_,q,_⟩|⟨t,_,rfl,_,rfl⟩|⟨t,r,q,_⟩
     ·rw[show(l.getD k in0).op=11 from h11] at q;cases q
     ·exact absurd h11 q
     ·obtain⟨a',b⟩:=en
      have hin:=walkSt_in hst (a',b) (by simp)
      unfold nestIn at hin
      have hin:0≤a'∧a'<(k:Int)∧(b= -1∨(0≤b∧b<(k:Int)∧a'≠b)):=hin
      obtain⟨a,rfl⟩: ∃a:Nat,a'=a:=⟨a'.toNat,by omega⟩
      have hE:EndAt l a b k:=⟨h11,_,hst⟩
      have huniq: ∀j o,EndAt l j o k→j=a∧o=b:=fun j o ⟨_,base,hh⟩=>by
       have:=Option.some.inj (hh.symm.trans hst)
       simp only[List.cons.injEq,Prod.mk.injEq] at this
       exact⟨by omega,this.1.2⟩
      have hoa:opensB (opAt l a)=true:=by
       have:=(W.op ((a:Int),b) (by simp)).1
       simpa using this
      have hlen:=ih.len
      unfold tellM
      rw[if_pos (show(l.getD k in0).op=11 from h11)]
      simp only[Int.toNat_natCast]
      have hk1: ∀i,i≠a→(M.set a (b,(k:Int))).getD i n0=M.getD i n0:=fun i hi=>by
       simp only[List.getD_eq_getElem?_getD,List.getElem?_set_ne (Ne.symm hi)]
      have hno5: ∀i,opAt l i=5→i≠a:=fun i h5 e=>by rw[←e,h5] at hoa;cases hoa
      by_cases hb:b= -1
      ·subst hb
       rw[if_pos rfl]
       refine⟨by simp[hlen],fun i j e he hEi=> ?_,fun i c1 c2=> ?_⟩
       ·by_cases hek:e=k
        ·subst hek
         have:=(huniq j _ hEi).2
         omega
        ·obtain⟨_,h5⟩:=else_one (show e<l.length by omega) (show e<l.length by omega) hEi hEi
         rw[hk1 i (hno5 i h5)]
         exact ih.other i j e (by omega) hEi
       ·have hia:i≠a:=fun e=>c1 _ k (by omega) (e ▸ hE)
        rw[hk1 i hia]
        exact ih.rest i (fun o e he=>c1 o e (by omega)) (fun j e he=>c2 j e (by omega))
      ·rw[if_neg hb]
       obtain⟨m,rfl⟩: ∃m:Nat,b=m:=⟨b.toNat,by omega⟩
       simp only[Int.toNat_natCast]
       have h5:=(else_one (show k<l.length by omega) (show k<l.length by omega) hE hE).2
       have hma:=hno5 m h5
       have hmM:M.getD m n0=(-1, -1):=ih.rest m (fun o e he hh=>by
        obtain⟨_,q,_⟩:=endAt_facts (show e<l.length by omega) hh
        rw[h5] at q;cases q) (fun j e he hh=>by
        obtain⟨rfl,_⟩:=else_one (show e<l.length by omega) (show k<l.length by omega) hh hE
        exact endAt_once (show e<l.length by omega) (show k<l.length by omega) hh hE he)
       have hmk:m<M.length:=by omega
       have hv:((M.set a ((m:Int),(k:Int))).getD m (0,0)).1= -1:=by
        simp only[List.getD_eq_getElem?_getD,List.getElem?_set_ne (Ne.symm hma)]
        rw[List.getD_eq_getElem?_getD] at hmM
        simp only[List.getElem?_eq_getElem hmk,Option.getD_some] at hmM ⊢
        rw[hmM]
       rw[hv]
       have hk2: ∀i,i≠a→i≠m→((M.set a ((m:Int),(k:Int))).set m (-1,(k:Int))).getD i n0=M.getD i n0:=fun i hi him=>by
        simp only[List.getD_eq_getElem?_getD,List.getElem?_set_ne (Ne.symm him),List.getElem?_set_ne (Ne.symm hi)]
       refine⟨by simp[hlen],fun i j e he hEi=> ?_,fun i c1 c2=> ?_⟩
       ·by_cases hek:e=k
        ·subst hek
         have:=(huniq j _ hEi).2
         obtain rfl:i=m:=by omega
         simp[List.getD_eq_getElem?_getD,hmk]
        ·obtain⟨_,hi5⟩:=else_one (show e<l.length by omega) (show e<l.length by omega) hEi hEi
         have him:i≠m:=fun q=>by
          subst q
          obtain⟨rfl,_⟩:=else_one (show e<l.length by omega) (show k<l.length by omega) hEi hE
          exact endAt_once (show e<l.length by omega) (show k<l.length by omega) hEi hE (by omega)
         rw[hk2 i (hno5 i hi5) him]
         exact ih.other i j e (by omega) hEi
       ·have hia:i≠a:=fun e=>c1 _ k (by omega) (e ▸ hE)
        have him:i≠m:=fun e=>c2 a k (by omega) (e ▸ hE)
        rw[hk2 i hia him]
        exact ih.rest i (fun o e he=>c1 o e (by omega)) (fun j e he=>c2 j e (by omega))
     ·rw[show(l.getD k in0).op=11 from h11] at q;cases q
    ·have ht:tellM l k d en M=M:=by unfold tellM;rw[if_neg (show ¬(l.getD k in0).op=11 from h11)]
     rw[ht]
     refine⟨ih.len,fun i j e he hE=>ih.other i j e ?_ hE,fun i c1 c2=>ih.rest i (fun o e he=>c1 o e (by omega)) (fun j e he=>c2 j e (by omega))⟩
     have:e≠k:=fun q=>h11 (q ▸ hE.1)
     omega
section
variable {l:List TInstr} (h:walkOk l=true)
include h
theorem end_is {j:Nat} (hj:j<l.length) (ho:opensB (opAt l j)=true): ∃(e:Nat) (o:Int),endF l j=((e:Int),o)∧j<e∧e<l.length∧EndAt l j o e∧(matchesF l).getD j n0=(o,(e:Int)):=by
 obtain⟨base,hb⟩:=walkSt_ok h (k:=j) (by omega)
 obtain⟨e,o,h1,h2,h3,h4,h5,h6,h7⟩:=(all_shut h hj ho hb).ex
 exact⟨e,o,end_of hb ho h1 h2 h3 h4 h7,h1,h2,⟨h3,base,h4⟩,h5⟩
theorem told_all:Told l l.length (matchesF l):=by
 obtain⟨M,hM⟩:=walk_some (tellM l) (List.replicate l.length (-1, -1)) h
 have hmf:matchesF l=M:=by simp[matchesF,hM]
 rw[hmf]
 exact told l l.length (Nat.le_refl _) [] M hM
theorem match_else {i j e:Nat} (hj:j<l.length) (ho:opensB (opAt l j)=true) (he:endF l j=((e:Int),(i:Int))):(matchesF l).getD i n0=(-1,(e:Int)):=by
 obtain⟨e',o,h1,h2,h3,h4,h5⟩:=end_is h hj ho
 rw[he] at h1
 simp only[Prod.mk.injEq] at h1
 obtain⟨h1,rfl⟩:=h1
 obtain rfl:e=e':=by omega
 exact(told_all h).other i j e h3 h4
theorem used_all {m:Nat} (hm:m<l.length) (h5:opAt l m=5∨opAt l m=11): ∃j,j<l.length∧opensB (opAt l j)=true∧((endF l j).1=m∨(endF l j).2=m):=by
 obtain⟨st,hst⟩:=walkSt_ok h (k:=m) (by omega)
 obtain⟨st',hst'⟩:=walkSt_ok h (k:=m+1) (by omega)
 rcases walkSt_up hst hst' with⟨q1,_⟩|⟨_,q2,q3,_⟩|⟨t,q1,q2⟩|⟨t,r,q1,q2,q3,q4,q5⟩
 ·rcases h5 with h5|h5<;>rw[h5] at q1<;>cases q1
 ·omega
 ·subst q2
  obtain⟨a,b⟩:=t
  have hin:=walkSt_in hst (a,b) (by simp)
  unfold nestIn at hin
  have hin:0≤a∧a<(m:Int)∧_:=hin
  obtain⟨j,rfl⟩: ∃j:Nat,a=j:=⟨a.toNat,by omega⟩
  obtain⟨h1,h2,base,h3,h4,h6,_⟩:=endAt_facts hm ⟨q1,st',hst⟩
  have:=end_of h3 h2 h1 hm q1 h4 h6
  exact⟨j,by omega,h2, .inl (by rw[this])⟩
 ·subst q2
  obtain⟨a,b⟩:=t
  have hin:=walkSt_in hst (a,b) (by simp)
  unfold nestIn at hin
  have hin:0≤a∧a<(m:Int)∧_:=hin
  obtain⟨j,rfl⟩: ∃j:Nat,a=j:=⟨a.toNat,by omega⟩
  obtain⟨M,hM⟩:=walkG_any (tellM l) (List.replicate l.length (-1, -1)) hst
  have ho:=((winv l m (by omega) _ M hM).op ((j:Int),b) (by simp)).1
  simp only[Int.toNat_natCast] at ho
  obtain⟨base,hb⟩:=walkSt_ok h (k:=j) (by omega)
  obtain⟨e,o,g1,g2,g3,g4,g5,g6,g7⟩:=(all_shut h (show j<l.length by omega) ho hb).ex
  have hr:r=base:=by
   rcases(winv l m (by omega) _ M hM).all j (by omega) ho base hb with⟨inner,o',h1,_⟩|⟨h1,_⟩
   ·exact(top_only hst h1).2.2
   ·exact absurd rfl (h1 ((j:Int),b) (by simp))
  subst hr
  have hme:m<e:=by
   rcases Nat.lt_trichotomy m e with q|q|q
   ·exact q
   ·exfalso;subst q;omega
   ·exfalso
    obtain⟨M2,hM2⟩:=walkG_any (tellM l) (List.replicate l.length (-1, -1)) hst
    rcases(winv l m (by omega) _ M2 hM2).all j (by omega) ho r hb with⟨inner,o',h1,h2,h3⟩|⟨h1,_⟩
    ·obtain⟨inner2,o2,h4⟩:=h3 (e+1) (by omega) (by omega)
     have h5:walkSt l (e+1)=some r:=by rw[walkSt_succ g4,g3];rfl
     rw[h5] at h4
     have:=congrArg List.length (Option.some.inj h4)
     simp at this
     omega
    ·exact absurd rfl (h1 ((j:Int),b) (by simp))
  have ho':=g6.2 m (by omega) hme q1 b hst
  exact⟨j,by omega,ho, .inr (by rw[end_of hb ho g1 g2 g3 g4 g7];exact ho')⟩
end
end Go.Proofs.YtfpioigggjnffaaGreatDoor.E
