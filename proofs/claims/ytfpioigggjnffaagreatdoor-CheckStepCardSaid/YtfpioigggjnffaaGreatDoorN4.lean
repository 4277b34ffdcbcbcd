/- N4, N5. -/
import Derived.Test.YtfpioigggjnffaaGreatDoorN2
set_option linter.unnecessarySimpa false
set_option linter.unusedSimpArgs false
set_option linter.unusedVariables false
set_option autoImplicit false
namespace Go.Proofs.YtfpioigggjnffaaGreatDoor.E
open Go.Ev
def rmPut (k:Nat) (r:Int×Int) (M:List Nest):List Nest:=if 0≤r.2 then(M.set k (r.2,r.1)).set r.2.toNat (-1,r.1) else M.set k (r.2,r.1)
def rmUse (r:Int×Int) (U:List Bool):List Bool:=if 0≤r.2 then(U.set r.1.toNat true).set r.2.toNat true else U.set r.1.toNat true
def rmGo (l:List TInstr):Nat→Nat→List Nest→List Bool→Option (List Nest×List Bool)
 |0,_,M,U=>some (M,U)
 |j+1,k,M,U=>if opensB (opAt l k) then(if (endF l k).1<0 then none else rmGo l j (k+1) (rmPut k (endF l k) M) (rmUse (endF l k) U)) else rmGo l j (k+1) M U
def notUsed (l:List TInstr) (U:List Bool) (k:Nat):Bool:=(decide (opAt l k=5)||decide (opAt l k=11))&& !(U.getD k false)
def rMatches (l:List TInstr):Option (List Nest):=match rmGo l l.length 0 (List.replicate l.length (-1, -1)) (List.replicate l.length false) with
 |none=>none
 |some (M,U)=>match first (notUsed l U) 0 l.length with
  |none=>some M
  |some _=>none
theorem rmPut_len (k:Nat) (r:Int×Int) (M:List Nest):(rmPut k r M).length=M.length:=by unfold rmPut;split<;>simp
theorem rmUse_len (r:Int×Int) (U:List Bool):(rmUse r U).length=U.length:=by unfold rmUse;split<;>simp
theorem getD_set_ne {α:Type} {L:List α} {i k:Nat} {x d:α} (h:i≠k):(L.set k x).getD i d=L.getD i d:=by
 simp only[List.getD_eq_getElem?_getD,List.getElem?_set_ne (Ne.symm h)]
theorem getD_set_self {α:Type} {L:List α} {k:Nat} {x d:α} (h:k<L.length):(L.set k x).getD k d=x:=by
 simp[List.getD_eq_getElem?_getD,h]
theorem rmUse_get {r:Int×Int} {U:List Bool} {m:Nat} (h:(rmUse r U).getD m false=true):U.getD m false=true∨(0≤r.1∧r.1=m)∨r.1.toNat=m∨r.2=m:=by
 unfold rmUse at h
 split at h
 ·by_cases h1:m=r.2.toNat
  ·right;right;right;omega
  ·rw[getD_set_ne h1] at h
   by_cases h2:m=r.1.toNat
   ·right;right;left;exact h2.symm
   ·rw[getD_set_ne h2] at h;exact .inl h
 ·by_cases h2:m=r.1.toNat
  ·right;right;left;exact h2.symm
  ·rw[getD_set_ne h2] at h;exact .inl h
theorem rmGo_inv (l:List TInstr): ∀(j k:Nat) (M:List Nest) (U:List Bool) (M':List Nest) (U':List Bool),k+j=l.length→M.length=l.length→U.length=l.length→
 (∀m,U.getD m false=true→∃i,i<l.length∧opensB (opAt l i)=true∧((endF l i).1=m∨(endF l i).2=m))→(∀i,i<k→opensB (opAt l i)=true→0≤(endF l i).1)→rmGo l j k M U=some (M',U')→
 M'.length=l.length∧U'.length=l.length∧(∀m,U'.getD m false=true→∃i,i<l.length∧opensB (opAt l i)=true∧((endF l i).1=m∨(endF l i).2=m))∧(∀i,i<l.length→opensB (opAt l i)=true→0≤(endF l i).1)
 |0,k,M,U,M',U',hk,hM,hU,h1,h2,h=>by
  simp only[rmGo,Option.some.injEq,Prod.mk.injEq] at h
  obtain⟨rfl,rfl⟩:=h
  exact⟨hM,hU,h1,fun i hi ho=>h2 i (by omega) ho⟩
 |j+1,k,M,U,M',U',hk,hM,hU,h1,h2,h=>by
  rw[rmGo] at h
  by_cases ho:opensB (opAt l k)=true
  ·rw[if_pos ho] at h
   by_cases he:(endF l k).1<0
   ·rw[if_pos he] at h;cases h
   ·rw[if_neg he] at h
    refine rmGo_inv l j (k+1) _ _ M' U' (by omega) (by rw[rmPut_len];exact hM) (by rw[rmUse_len];exact hU) (fun m hm=> ?_) (fun i hi hoi=> ?_) h
    ·rcases rmUse_get hm with q|q|q|q
     ·exact h1 m q
     ·exact⟨k,by omega,ho, .inl q.2⟩
     ·exact⟨k,by omega,ho, .inl (by omega)⟩
     ·exact⟨k,by omega,ho, .inr q⟩
    ·by_cases e:i=k
     ·subst e;omega
     ·exact h2 i (by omega) hoi
  ·rw[if_neg ho] at h
   refine rmGo_inv l j (k+1) M U M' U' (by omega) hM hU h1 (fun i hi hoi=> ?_) h
   by_cases e:i=k
   ·subst e;exact absurd hoi ho
   ·exact h2 i (by omega) hoi
theorem rMatches_conv {l:List TInstr} {M:List Nest} (h:rMatches l=some M):walkOk l=true:=by
 unfold rMatches at h
 split at h
 ·cases h
 ·rename_i M' U' hg
  split at h
  ·rename_i hf
   obtain⟨h1,h2,h3,h4⟩:=rmGo_inv l l.length 0 _ _ M' U' (by omega) (by simp) (by simp) (fun m hm=>by
    simp only[List.getD_eq_getElem?_getD,List.getElem?_replicate] at hm
    split at hm<;>cases hm) (fun i hi=>by omega) hg
   refine walkOk_by h4 (fun m hm h5=> ?_)
   have:=first_none.1 hf m (by omega) (by omega)
   unfold notUsed at this
   have hu:U'.getD m false=true:=by
    cases hq:U'.getD m false with
    |true=>rfl
    |false=>rw[hq] at this;rcases h5 with h5|h5<;>simp[h5] at this
   exact h3 m hu
  ·cases h
section
variable {l:List TInstr} (h:walkOk l=true)
include h
def mid (l:List TInstr) (k i:Nat):Prop:=(i<k∧opensB (opAt l i)=true)∨∃j,j<k∧opensB (opAt l j)=true∧(endF l j).2=i
theorem rmGo_ok: ∀(j k:Nat) (M:List Nest) (U:List Bool),k+j=l.length→M.length=l.length→U.length=l.length→
 (∀i,i<l.length→(mid l k i→M.getD i n0=(matchesF l).getD i n0)∧(¬mid l k i→M.getD i n0=(-1, -1)))→
 (∀i,i<k→opensB (opAt l i)=true→∀m:Nat,((endF l i).1=m∨(endF l i).2=m)→U.getD m false=true)→
 ∃U',rmGo l j k M U=some (matchesF l,U')∧∀i,i<l.length→opensB (opAt l i)=true→∀m:Nat,((endF l i).1=m∨(endF l i).2=m)→U'.getD m false=true
 |0,k,M,U,hk,hM,hU,h1,h2=>by
  have e:M=matchesF l:=by
   have hml:=matchesF_len l h
   apply List.ext_getElem (by omega)
   intro i a b
   have hi:i<l.length:=by omega
   have hg:M.getD i n0=(matchesF l).getD i n0:=by
    by_cases hm:mid l k i
    ·exact(h1 i hi).1 hm
    ·rw[(h1 i hi).2 hm]
     refine(match_rest h ?_ (fun j hj ho e=>hm (.inr ⟨j,by omega,ho,e⟩))).symm
     cases hq:opensB (opAt l i) with
     |false=>rfl
     |true=>exact absurd (.inl ⟨by omega,hq⟩) hm
   simpa[List.getD_eq_getElem?_getD,a,b] using hg
  rw[rmGo,e]
  exact⟨U,rfl,fun i hi ho m hm=>h2 i (by omega) ho m hm⟩
 |j+1,k,M,U,hk,hM,hU,h1,h2=>by
  rw[rmGo]
  by_cases ho:opensB (opAt l k)=true
  ·rw[if_pos ho]
   obtain⟨e,o,g1,g2,g3,g4,g5⟩:=end_is h (show k<l.length by omega) ho
   have hf:=endAt_facts g3 g4
   rw[if_neg (by rw[g1];show ¬(e:Int)<0;omega)]
   have hom:o= -1∨∃m:Nat,o=m∧k<m∧m<l.length∧opAt l m=5:=by
    obtain⟨_,_,_,_,_,_,q⟩:=hf
    exact q.imp id (fun⟨m,a1,a2,a3,a4,_⟩=>⟨m,a1,a2,by omega,a4⟩)
   clear hf
   refine rmGo_ok j (k+1) _ _ (by omega) (by rw[rmPut_len];exact hM) (by rw[rmUse_len];exact hU) (fun i hi=> ?_) (fun i hi hoi m hm=> ?_)
   ·rw[g1]
    unfold rmPut
    simp only
    rcases hom with rfl|⟨m,rfl,m1,m2,m3⟩
    ·rw[if_neg (by decide)]
     by_cases e1:i=k
     ·subst e1
      rw[getD_set_self (by omega),g5]
      exact⟨fun _=>rfl,fun hn=>absurd (.inl ⟨by omega,ho⟩) hn⟩
     ·rw[getD_set_ne e1]
      have:mid l (k+1) i↔mid l k i:=by
       unfold mid
       constructor
       ·rintro(⟨a,b⟩|⟨jj,a,b,c⟩)
        ·exact .inl ⟨by omega,b⟩
        ·by_cases ej:jj=k
         ·subst ej;rw[g1] at c;simp only at c;omega
         ·exact .inr ⟨jj,by omega,b,c⟩
       ·rintro(⟨a,b⟩|⟨jj,a,b,c⟩)
        ·exact .inl ⟨by omega,b⟩
        ·exact .inr ⟨jj,by omega,b,c⟩
      rw[this]
      exact h1 i hi
    ·rw[if_pos (by omega),Int.toNat_natCast]
     by_cases e2:i=m
     ·subst e2
      rw[getD_set_self (by simp;omega),match_else h (show k<l.length by omega) ho g1]
      exact⟨fun _=>rfl,fun hn=>absurd (.inr ⟨k,by omega,ho,by rw[g1]⟩) hn⟩
     ·rw[getD_set_ne e2]
      by_cases e1:i=k
      ·subst e1
       rw[getD_set_self (by omega),g5]
       exact⟨fun _=>rfl,fun hn=>absurd (.inl ⟨by omega,ho⟩) hn⟩
      ·rw[getD_set_ne e1]
       have:mid l (k+1) i↔mid l k i:=by
        unfold mid
        constructor
        ·rintro(⟨a,b⟩|⟨jj,a,b,c⟩)
         ·exact .inl ⟨by omega,b⟩
         ·by_cases ej:jj=k
          ·subst ej;rw[g1] at c;simp only at c;omega
          ·exact .inr ⟨jj,by omega,b,c⟩
        ·rintro(⟨a,b⟩|⟨jj,a,b,c⟩)
         ·exact .inl ⟨by omega,b⟩
         ·exact .inr ⟨jj,by omega,b,c⟩
       rw[this]
       exact h1 i hi
   ·rw[g1]
    unfold rmUse
    simp only[Int.toNat_natCast]
    by_cases ei:i=k
    ·subst ei
     rw[g1] at hm
     simp only at hm
     rcases hom with rfl|⟨m',rfl,m1,m2,m3⟩
     ·rw[if_neg (by decide)]
      obtain rfl:e=m:=by omega
      exact getD_set_self (by omega)
     ·rw[if_pos (by omega),Int.toNat_natCast]
      by_cases e2:m=m'
      ·subst e2;exact getD_set_self (by simp;omega)
      ·rw[getD_set_ne e2]
       obtain rfl:e=m:=by omega
       exact getD_set_self (by omega)
    ·have:=h2 i (by omega) hoi m hm
     split
     ·by_cases e2:m=o.toNat
      ·subst e2;rename_i q
       rcases hom with rfl|⟨m',rfl,m1,m2,m3⟩
       ·omega
       ·rw[Int.toNat_natCast];exact getD_set_self (by simp;omega)
      ·rw[getD_set_ne e2]
       by_cases e3:m=e
       ·subst e3;exact getD_set_self (by omega)
       ·rw[getD_set_ne e3];exact this
     ·by_cases e3:m=e
      ·subst e3;exact getD_set_self (by omega)
      ·rw[getD_set_ne e3];exact this
  ·rw[if_neg ho]
   refine rmGo_ok j (k+1) M U (by omega) hM hU (fun i hi=> ?_) (fun i hi hoi m hm=> ?_)
   ·have:mid l (k+1) i↔mid l k i:=by
     unfold mid
     constructor
     ·rintro(⟨a,b⟩|⟨jj,a,b,c⟩)
      ·by_cases e:i=k
       ·subst e;exact absurd b ho
       ·exact .inl ⟨by omega,b⟩
      ·by_cases ej:jj=k
       ·subst ej;exact absurd b ho
       ·exact .inr ⟨jj,by omega,b,c⟩
     ·rintro(⟨a,b⟩|⟨jj,a,b,c⟩)
      ·exact .inl ⟨by omega,b⟩
      ·exact .inr ⟨jj,by omega,b,c⟩
    rw[this]
    exact h1 i hi
   ·by_cases e:i=k
    ·subst e;exact absurd hoi ho
    ·exact h2 i (by omega) hoi m hm
theorem rMatches_ok:rMatches l=some (matchesF l):=by
 obtain⟨U',h1,h2⟩:=rmGo_ok h l.length 0 (List.replicate l.length (-1, -1)) (List.replicate l.length false) (by omega) (by simp) (by simp) (fun i hi=>⟨fun q=>by
  rcases q with⟨a,_⟩|⟨j,a,_⟩<;>omega,fun _=>by simp[List.getD_eq_getElem?_getD,hi]⟩) (fun i hi=>by omega)
 unfold rMatches
 rw[h1]
 simp only
 have:first (notUsed l U') 0 l.length=none:=first_none.2 fun m _ hm=>by
  unfold notUsed
  by_cases h5:opAt l m=5∨opAt l m=11
  ·obtain⟨j,a,b,c⟩:=used_all h (show m<l.length by omega) h5
   rw[h2 j a b m c]
   simp
  ·simp only[not_or] at h5
   simp[h5.1,h5.2]
 rw[this]
end
theorem rMatches_is (l:List TInstr):rMatches l=if walkOk l=true then some (matchesF l) else none:=by
 by_cases h:walkOk l=true
 ·rw[if_pos h,rMatches_ok h]
 ·rw[if_neg h]
  cases hm:rMatches l with
  |none=>rfl
  |some M=>exact absurd (rMatches_conv hm) h
end Go.Proofs.YtfpioigggjnffaaGreatDoor.E
set_option autoImplicit false
set_option maxRecDepth 100000
set_option maxHeartbeats 8000000
set_option pp.maxSteps 20000
namespace Go.Proofs.YtfpioigggjnffaaGreatDoor.E
open Go.Ev
theorem rep_get {N i:Nat} {x z:D} (h:i<N):(rep N i x z)[i]? =some z:=by
 unfold rep
 rw[List.getElem?_append_right (by simp)]
 simp[List.getElem?_replicate]
 omega
theorem rep_set {N i:Nat} {x z:D} (h:i<N):(rep N i x z).set i x=rep N (i+1) x z:=by
 unfold rep
 apply List.ext_getElem?
 intro m
 by_cases e:i=m
 ·subst e
  rw[List.getElem?_set_self (by simp;omega),List.getElem?_append_left (by simp)]
  simp
 ·rw[List.getElem?_set_ne e]
  by_cases h2:m<i
  ·rw[List.getElem?_append_left (by simp;omega),List.getElem?_append_left (by simp;omega)]
   simp[List.getElem?_replicate,h2];omega
  ·rw[List.getElem?_append_right (by simp;omega),List.getElem?_append_right (by simp;omega)]
   simp only[List.getElem?_replicate,List.length_replicate]
   split<;>split<;>first|rfl|omega
theorem rep_full {N:Nat} {x z:D}:rep N N x z=List.replicate N x:=by simp[rep]
structure RmS where
 j:Nat
 k:Nat
 M:List Nest
 U:List Bool
def rmSt (L:List D) (N k:Nat) (X Y:List D):St:=⟨[(0, .d (.list L)),(4, .row 896 0 0 N),(5, .row 1088 0 0 N),(7, .d (.int .i64 k))],[(896, .row 2 X 0 false false),(1088, .row 1 Y 0 false false)]⟩
def rmJ (L:List D) (N:Nat) (r:Option (List Nest×List Bool)) (y:Ex) (s:St):Prop:=match r with
 |none=>y= .ret∧s=⟨[(2, .nilsl),(3, .d (.bool false))],[]⟩
 |some (M,U)=>y= .exit 2∧M.length=N∧U.length=N∧s=⟨[(0, .d (.list L)),(4, .row 896 0 0 N),(5, .row 1088 0 0 N)],[(896, .row 2 (M.map nestD) 0 false false),(1088, .row 1 (U.map D.bool) 0 false false)]⟩
theorem rMatches_ev (fu n:Nat) (l:List TInstr) (hf:l.length<fu) (hs:l.length<100000):
 evF (G fu) (n+3) 67 [.d (.list (l.map TInstr.d))] []=some (.tup [.row 0 0 0 (matchesF l).length, .d (.bool (walkOk l))],[.row 2 ((matchesF l).map nestD) 0 false false]):=by
 have hm:=rMatches_is l
 unfold rMatches at hm
 rw[evF.eq_2,evX.eq_def,Gext,exts_no _ (f:=67) (by decide),GP,Tryz.func67];simp only[Tryz.f67,evB]
 simp only[go_sem,Nat.reduceAdd,Nat.reduceMul,Nat.reduceSub,Nat.reduceLT,Nat.reduceLeDiff,Nat.reduceEqDiff,Nat.reduceBEq,Nat.reduceBeqDiff,Int.reduceEq,Int.reduceLT,Int.reduceLE,Int.reduceToNat,Int.reduceNeg,Int.reduceAdd,Int.reduceSub,Int.reduceMul,reduceIte,reduceCtorEq,Nat.reducePow,Nat.reduceDiv,Nat.reduceMod,Int.reduceBEq,List.length_map,show l.length*17≤1099511627776 by omega,show l.length*2≤1099511627776 by omega]
 rw[loop_some l.length (fun i=>⟨[(0, .d (.list (l.map TInstr.d))),(4, .row 896 0 0 l.length),(5, .row 1088 0 0 l.length),(6, .d (.int .i64 i))],[(896, .row 2 (rep l.length i (nestD (-1, -1)) (nestD (0,0))) 0 false false),(1088, .row 1 (List.replicate l.length (.bool false)) 0 false false)]⟩)
  (.exit 0,⟨[(0, .d (.list (l.map TInstr.d))),(4, .row 896 0 0 l.length),(5, .row 1088 0 0 l.length)],[(896, .row 2 (rep l.length l.length (nestD (-1, -1)) (nestD (0,0))) 0 false false),(1088, .row 1 (List.replicate l.length (.bool false)) 0 false false)]⟩) trivial hf ?_]
 case hs=>
  intro i hi
  have hiI:(i:Int)<l.length:=by omega
  have hg:=rep_get (x:=nestD (-1, -1)) (z:=nestD (0,0)) hi
  have hset:=rep_set (x:=nestD (-1, -1)) (z:=nestD (0,0)) hi
  have Wi:=wrap_i64 (show-9223372036854775808≤(i:Int)+1 by omega) (by omega)
  simp only[nestD] at hg hset ⊢
  simp only[go_sem,Nat.reduceAdd,Nat.reduceMul,Nat.reduceSub,Nat.reduceLT,Nat.reduceLeDiff,Nat.reduceEqDiff,Nat.reduceBEq,Nat.reduceBeqDiff,Int.reduceEq,Int.reduceLT,Int.reduceLE,Int.reduceToNat,Int.reduceNeg,Int.reduceAdd,Int.reduceSub,Int.reduceMul,reduceIte,reduceCtorEq,Nat.reducePow,Nat.reduceDiv,Nat.reduceMod,Int.reduceBEq,List.length_map,hiI,hg,hset,Wi]
  rfl
 case he=>simp only[go_sem,Nat.reduceAdd,Nat.reduceMul,Nat.reduceSub,Nat.reduceLT,Nat.reduceLeDiff,Nat.reduceEqDiff,Nat.reduceBEq,Nat.reduceBeqDiff,Int.reduceEq,Int.reduceLT,Int.reduceLE,Int.reduceToNat,Int.reduceNeg,Int.reduceAdd,Int.reduceSub,Int.reduceMul,reduceIte,reduceCtorEq,Nat.reducePow,Nat.reduceDiv,Nat.reduceMod,Int.reduceBEq,List.length_map,Int.lt_irrefl]
 rotate_left
 ·simp[rep,nestD]
 rw[rep_full]
 simp only[go_sem,Nat.reduceAdd,Nat.reduceMul,Nat.reduceSub,Nat.reduceLT,Nat.reduceLeDiff,Nat.reduceEqDiff,Nat.reduceBEq,Nat.reduceBeqDiff,Int.reduceEq,Int.reduceLT,Int.reduceLE,Int.reduceToNat,Int.reduceNeg,Int.reduceAdd,Int.reduceSub,Int.reduceMul,reduceIte,reduceCtorEq,Nat.reducePow,Nat.reduceDiv,Nat.reduceMod,Int.reduceBEq]
 generalize hr:loopN _ _ _ _ _=r
 obtain⟨y,s1,rfl,hy,hJ⟩: ∃y s1,r=some (y,s1)∧leaves y∧rmJ (l.map TInstr.d) l.length (rmGo l l.length 0 (List.replicate l.length (-1, -1)) (List.replicate l.length false)) y s1:=by
  rw[←hr]
  clear hr r
  refine loop_rel (σ:=RmS) (fun e s=>e.k+e.j=l.length∧e.M.length=l.length∧e.U.length=l.length∧∃X Y,X=e.M.map nestD∧Y=e.U.map D.bool∧s=rmSt (l.map TInstr.d) l.length e.k X Y)
   (fun e y s1=>rmJ (l.map TInstr.d) l.length (rmGo l e.j e.k e.M e.U) y s1) (fun e=>e.j) ?_ fu ⟨l.length,0,List.replicate l.length (-1, -1),List.replicate l.length false⟩ _ hf ⟨by show 0+l.length=_;omega,by simp,by simp,_,_,rfl,rfl,by simp[rmSt]⟩
  rintro⟨j,k,M,U⟩ s ⟨h1,h2,h3,X,Y,hX,hY,rfl⟩
  simp only at h1 h2 h3 hX hY
  unfold rmSt
  cases j with
  |zero=>
   have hk: ¬(k:Int)<l.length:=by omega
   simp only[go_sem,Nat.reduceAdd,Nat.reduceMul,Nat.reduceSub,Nat.reduceLT,Nat.reduceLeDiff,Nat.reduceEqDiff,Nat.reduceBEq,Nat.reduceBeqDiff,Int.reduceEq,Int.reduceLT,Int.reduceLE,Int.reduceToNat,Int.reduceNeg,Int.reduceAdd,Int.reduceSub,Int.reduceMul,reduceIte,reduceCtorEq,Nat.reducePow,Nat.reduceDiv,Nat.reduceMod,Int.reduceBEq,List.length_map,hk]
   exact⟨_,_,rfl,rfl,h2,h3,by rw[hX,hY]⟩
  |succ j=>
   have hkl:k<l.length:=by omega
   have hk:(k:Int)<l.length:=by omega
   have hg:(l.map TInstr.d)[k]? =some (l.getD k in0).d:=getD_map hkl
   have q:=rOpens_ev fu (n+1) (l.getD k in0)
   have ho:(l.getD k in0).op=opAt l k:=rfl
   have E:=rEnd_ev fu n l k hkl hf hs
   have Wk:=wrap_i64 (show-9223372036854775808≤(k:Int)+1 by omega) (by omega)
   have go: ∀(M':List Nest) (U':List Bool) (X' Y':List D) (he:rmGo l (j+1) k M U=rmGo l j (k+1) M' U') (hM:M'.length=l.length) (hU:U'.length=l.length) (hX':X'=M'.map nestD) (hY':Y'=U'.map D.bool),∃x s1,some (Ex.normal,rmSt (l.map TInstr.d) l.length (k+1) X' Y')=some (x,s1)∧match x with
    | .normal=> ∃e':RmS,(e'.k+e'.j=l.length∧e'.M.length=l.length∧e'.U.length=l.length∧∃X Y,X=e'.M.map nestD∧Y=e'.U.map D.bool∧s1=rmSt (l.map TInstr.d) l.length e'.k X Y)∧e'.j<j+1∧∀(y:Ex) (s:St),rmJ (l.map TInstr.d) l.length (rmGo l e'.j e'.k e'.M e'.U) y s→rmJ (l.map TInstr.d) l.length (rmGo l (j+1) k M U) y s
    |x=>rmJ (l.map TInstr.d) l.length (rmGo l (j+1) k M U) x s1:=
    fun M' U' X' Y' he hM hU hX' hY'=>⟨.normal,_,rfl,⟨j,k+1,M',U'⟩,⟨by show k+1+j=_;omega,hM,hU,X',Y',hX',hY',rfl⟩,by show j<j+1;omega,fun y s h=>by rw[he];exact h⟩
   unfold rmSt at go
   have hRM:rmGo l (j+1) k M U=if opensB (opAt l k) then(if (endF l k).1<0 then none else rmGo l j (k+1) (rmPut k (endF l k) M) (rmUse (endF l k) U)) else rmGo l j (k+1) M U:=rfl
   simp only[TInstr.d] at q hg
   rw[ho] at q hg
   generalize hop:opAt l k=op at*
   cases hb:opensB op with
   |false=>
    rw[hb] at q hRM
    simp only[go_sem,Nat.reduceAdd,Nat.reduceMul,Nat.reduceSub,Nat.reduceLT,Nat.reduceLeDiff,Nat.reduceEqDiff,Nat.reduceBEq,Nat.reduceBeqDiff,Int.reduceEq,Int.reduceLT,Int.reduceLE,Int.reduceToNat,Int.reduceNeg,Int.reduceAdd,Int.reduceSub,Int.reduceMul,reduceIte,reduceCtorEq,Nat.reducePow,Nat.reduceDiv,Nat.reduceMod,Int.reduceBEq,List.length_map,hk,idx,hg,q,Wk]
    exact go M U X Y hRM h2 h3 hX hY
   |true=>
    rw[hb] at q hRM
    rw[if_pos rfl] at hRM
    have hXk:X[k]? =some (nestD (M.getD k n0)):=by rw[hX];exact getD_map (d:=n0) (by omega)
    rcases endF_range l hkl with he|⟨e,o,g1,g2,g3,g4,g5⟩
    ·rw[he] at E hRM
     rw[if_pos (by decide)] at hRM
     simp only[go_sem,Nat.reduceAdd,Nat.reduceMul,Nat.reduceSub,Nat.reduceLT,Nat.reduceLeDiff,Nat.reduceEqDiff,Nat.reduceBEq,Nat.reduceBeqDiff,Int.reduceEq,Int.reduceLT,Int.reduceLE,Int.reduceToNat,Int.reduceNeg,Int.reduceAdd,Int.reduceSub,Int.reduceMul,reduceIte,reduceCtorEq,Nat.reducePow,Nat.reduceDiv,Nat.reduceMod,Int.reduceBEq,List.length_map,hk,idx,hg,q,E,Wk]
     exact⟨.ret,_,rfl,by rw[hRM];exact⟨rfl,rfl⟩⟩
    ·rw[g1] at E hRM
     rw[if_neg (by show ¬(e:Int)<0;omega)] at hRM
     have he0: ¬(e:Int)<0:=by omega
     have heI:(e:Int)<l.length:=by omega
     have hYe:Y[e]? =some (.bool (U.getD e false)):=by rw[hY];exact getD_map (d:=false) (by omega)
     simp only[nestD] at hXk
     rcases g5 with rfl|⟨m,rfl,m1,m2,m3⟩
     ·simp only[go_sem,Nat.reduceAdd,Nat.reduceMul,Nat.reduceSub,Nat.reduceLT,Nat.reduceLeDiff,Nat.reduceEqDiff,Nat.reduceBEq,Nat.reduceBeqDiff,Int.reduceEq,Int.reduceLT,Int.reduceLE,Int.reduceToNat,Int.reduceNeg,Int.reduceAdd,Int.reduceSub,Int.reduceMul,reduceIte,reduceCtorEq,Nat.reducePow,Nat.reduceDiv,Nat.reduceMod,Int.reduceBEq,List.length_map,hk,idx,hg,q,E,Wk,hXk,hYe,he0,heI]
      refine go _ _ _ _ hRM (by rw[rmPut_len];exact h2) (by rw[rmUse_len];exact h3) ?_ ?_
      ·rw[hX];simp[rmPut,List.map_set,nestD]
      ·rw[hY];simp[rmUse,List.map_set]
     ·have hm0:(0:Int)≤m:=by omega
      have hmI:(m:Int)<l.length:=by omega
      have hXm:(X.set k (.agg [.int .i64 m, .int .i64 e]))[m]? =some (nestD (M.getD m n0)):=by
       rw[List.getElem?_set_ne (by omega),hX];exact getD_map (d:=n0) (by omega)
      have hYm:(Y.set e (.bool true))[m]? =some (.bool (U.getD m false)):=by
       rw[List.getElem?_set_ne (by omega),hY];exact getD_map (d:=false) (by omega)
      simp only[nestD] at hXm
      simp only[go_sem,Nat.reduceAdd,Nat.reduceMul,Nat.reduceSub,Nat.reduceLT,Nat.reduceLeDiff,Nat.reduceEqDiff,Nat.reduceBEq,Nat.reduceBeqDiff,Int.reduceEq,Int.reduceLT,Int.reduceLE,Int.reduceToNat,Int.reduceNeg,Int.reduceAdd,Int.reduceSub,Int.reduceMul,reduceIte,reduceCtorEq,Nat.reducePow,Nat.reduceDiv,Nat.reduceMod,Int.reduceBEq,List.length_map,hk,idx,hg,q,E,Wk,hXk,hYe,he0,heI,hXm,hYm,hmI]
      refine go _ _ _ _ hRM (by rw[rmPut_len];exact h2) (by rw[rmUse_len];exact h3) ?_ ?_
      ·rw[hX];simp[rmPut,List.map_set,nestD]
      ·rw[hY];simp[rmUse,List.map_set]
 cases hg:rmGo l l.length 0 (List.replicate l.length (-1, -1)) (List.replicate l.length false) with
 |none=>
  rw[hg] at hJ hm
  obtain⟨rfl,rfl⟩:=hJ
  have hw:walkOk l=false:=by
   cases hw:walkOk l with
   |false=>rfl
   |true=>rw[hw] at hm;cases hm
  simp only[go_sem,Nat.reduceAdd,Nat.reduceMul,Nat.reduceSub,Nat.reduceLT,Nat.reduceLeDiff,Nat.reduceEqDiff,Nat.reduceBEq,Nat.reduceBeqDiff,Int.reduceEq,Int.reduceLT,Int.reduceLE,Int.reduceToNat,Int.reduceNeg,Int.reduceAdd,Int.reduceSub,Int.reduceMul,reduceIte,reduceCtorEq,Nat.reducePow,Nat.reduceDiv,Nat.reduceMod,Int.reduceBEq,hw,matchesF_no l hw,List.map_nil,List.length_nil]
 |some p=>
  obtain⟨M,U⟩:=p
  rw[hg] at hJ hm
  obtain⟨rfl,j1,j2,rfl⟩:=hJ
  dsimp only at hm
  simp only[go_sem,Nat.reduceAdd,Nat.reduceMul,Nat.reduceSub,Nat.reduceLT,Nat.reduceLeDiff,Nat.reduceEqDiff,Nat.reduceBEq,Nat.reduceBeqDiff,Int.reduceEq,Int.reduceLT,Int.reduceLE,Int.reduceToNat,Int.reduceNeg,Int.reduceAdd,Int.reduceSub,Int.reduceMul,reduceIte,reduceCtorEq,Nat.reducePow,Nat.reduceDiv,Nat.reduceMod,Int.reduceBEq]
  rw[loop_scan l.length (fun k=>⟨[(0, .d (.list (l.map TInstr.d))),(4, .row 896 0 0 l.length),(5, .row 1088 0 0 l.length),(10, .d (.int .i64 k))],[(896, .row 2 (M.map nestD) 0 false false),(1088, .row 1 (U.map D.bool) 0 false false)]⟩) (notUsed l U) (fun _=>(.ret,⟨[(2, .nilsl),(3, .d (.bool false))],[]⟩)) (.exit 4,⟨[(4, .row 896 0 0 l.length)],[(896, .row 2 (M.map nestD) 0 false false)]⟩) hf (fun _=>trivial) trivial ?_]
  case hs=>
   intro k hkl
   have hk:(k:Int)<l.length:=by omega
   have hgk:(l.map TInstr.d)[k]? =some (l.getD k in0).d:=getD_map hkl
   have hu:(U.map D.bool)[k]? =some (.bool (U.getD k false)):=getD_map (d:=false) (by omega)
   have Wk:=wrap_i64 (show-9223372036854775808≤(k:Int)+1 by omega) (by omega)
   have ho:(l.getD k in0).op=opAt l k:=rfl
   unfold notUsed
   simp only[TInstr.d] at hgk
   rw[ho] at hgk
   generalize opAt l k=op at*
   generalize U.getD k false=u at*
   by_cases c5:op=5
   ·subst c5
    cases u<;>simp only[go_sem,Nat.reduceAdd,Nat.reduceMul,Nat.reduceSub,Nat.reduceLT,Nat.reduceLeDiff,Nat.reduceEqDiff,Nat.reduceBEq,Nat.reduceBeqDiff,Int.reduceEq,Int.reduceLT,Int.reduceLE,Int.reduceToNat,Int.reduceNeg,Int.reduceAdd,Int.reduceSub,Int.reduceMul,reduceIte,reduceCtorEq,Nat.reducePow,Nat.reduceDiv,Nat.reduceMod,Int.reduceBEq,List.length_map,hk,idx,hgk,hu,Wk]<;>rfl
   ·by_cases c11:op=11
    ·subst c11
     cases u<;>simp only[go_sem,Nat.reduceAdd,Nat.reduceMul,Nat.reduceSub,Nat.reduceLT,Nat.reduceLeDiff,Nat.reduceEqDiff,Nat.reduceBEq,Nat.reduceBeqDiff,Int.reduceEq,Int.reduceLT,Int.reduceLE,Int.reduceToNat,Int.reduceNeg,Int.reduceAdd,Int.reduceSub,Int.reduceMul,reduceIte,reduceCtorEq,Nat.reducePow,Nat.reduceDiv,Nat.reduceMod,Int.reduceBEq,List.length_map,hk,idx,hgk,hu,Wk]<;>rfl
    ·simp only[go_sem,Nat.reduceAdd,Nat.reduceMul,Nat.reduceSub,Nat.reduceLT,Nat.reduceLeDiff,Nat.reduceEqDiff,Nat.reduceBEq,Nat.reduceBeqDiff,Int.reduceEq,Int.reduceLT,Int.reduceLE,Int.reduceToNat,Int.reduceNeg,Int.reduceAdd,Int.reduceSub,Int.reduceMul,reduceIte,reduceCtorEq,Nat.reducePow,Nat.reduceDiv,Nat.reduceMod,Int.reduceBEq,List.length_map,hk,idx,hgk,hu,c5,c11,Wk]
     rfl
  case he=>simp only[go_sem,Nat.reduceAdd,Nat.reduceMul,Nat.reduceSub,Nat.reduceLT,Nat.reduceLeDiff,Nat.reduceEqDiff,Nat.reduceBEq,Nat.reduceBeqDiff,Int.reduceEq,Int.reduceLT,Int.reduceLE,Int.reduceToNat,Int.reduceNeg,Int.reduceAdd,Int.reduceSub,Int.reduceMul,reduceIte,reduceCtorEq,Nat.reducePow,Nat.reduceDiv,Nat.reduceMod,Int.reduceBEq,List.length_map,Int.lt_irrefl]
  rotate_left
  ·rfl
  unfold Go.Ev.scan
  cases hf:first (notUsed l U) 0 l.length with
  |none=>
   rw[hf] at hm
   have hw:walkOk l=true:=by
    cases hw:walkOk l with
    |true=>rfl
    |false=>rw[hw] at hm;cases hm
   rw[hw] at hm
   simp only[if_true,Option.some.injEq] at hm
   rw[hw,←hm,j1]
   simp only[go_sem,Nat.reduceAdd,Nat.reduceMul,Nat.reduceSub,Nat.reduceLT,Nat.reduceLeDiff,Nat.reduceEqDiff,Nat.reduceBEq,Nat.reduceBeqDiff,Int.reduceEq,Int.reduceLT,Int.reduceLE,Int.reduceToNat,Int.reduceNeg,Int.reduceAdd,Int.reduceSub,Int.reduceMul,reduceIte,reduceCtorEq,Nat.reducePow,Nat.reduceDiv,Nat.reduceMod,Int.reduceBEq]
  |some i=>
   rw[hf] at hm
   have hw:walkOk l=false:=by
    cases hw:walkOk l with
    |false=>rfl
    |true=>rw[hw] at hm;cases hm
   simp only[go_sem,Nat.reduceAdd,Nat.reduceMul,Nat.reduceSub,Nat.reduceLT,Nat.reduceLeDiff,Nat.reduceEqDiff,Nat.reduceBEq,Nat.reduceBeqDiff,Int.reduceEq,Int.reduceLT,Int.reduceLE,Int.reduceToNat,Int.reduceNeg,Int.reduceAdd,Int.reduceSub,Int.reduceMul,reduceIte,reduceCtorEq,Nat.reducePow,Nat.reduceDiv,Nat.reduceMod,Int.reduceBEq,hw,matchesF_no l hw,List.map_nil,List.length_nil]
end Go.Proofs.YtfpioigggjnffaaGreatDoor.E
