/- T06, T07, N1, N2. -/
import Derived.Test.YtfpioigggjnffaaGreatDoorF6
set_option linter.unnecessarySimpa false
set_option linter.unusedSimpArgs false
set_option linter.unusedVariables false
set_option autoImplicit false
namespace Go.Proofs.YtfpioigggjnffaaGreatDoor.E
open Go.Ev
abbrev opAt (l:List TInstr) (k:Nat):Int:=(l.getD k in0).op
def inBlk (l:List TInstr) (j:Nat) (base:List Nest) (k:Nat):Prop:=∃inner o,walkSt l k=some (inner++((j:Int),o)::base)
def elseIs (l:List TInstr) (j:Nat) (base:List Nest) (k:Nat) (o:Int):Prop:=
 (o= -1∨∃m:Nat,o=m∧j<m∧m<k∧opAt l m=5∧opAt l j=4∧∃o',walkSt l m=some (((j:Int),o')::base))∧
 ∀m,j<m→m<k→opAt l m=5→∀o',walkSt l m=some (((j:Int),o')::base)→o=m
structure Shut (l:List TInstr) (M:List Nest) (j:Nat) (base:List Nest) (k:Nat):Prop where
 ex: ∃e:Nat,∃o:Int,j<e∧e<k∧opAt l e=11∧walkSt l e=some (((j:Int),o)::base)∧M.getD j n0=(o,(e:Int))∧elseIs l j base e o∧∀m,j<m→m≤e→inBlk l j base m
theorem walkSt_of {σ:Type} {tell:Nat→Int→Nest→σ→σ} {s0 s:σ} {l:List TInstr} {k:Nat} {st:List Nest} (h:walkG tell s0 l k=some (st,s)):walkSt l k=some st:=by
 rw[←walkG_st tell s0 l k,h];rfl
theorem walkSt_succ {l:List TInstr} {k:Nat} {st:List Nest} (h:walkSt l k=some st):walkSt l (k+1)=(stepF l st k (opAt l k)).map (·.1):=by
 unfold walkSt at h ⊢
 simp only[walkG]
 cases hw:walkG (fun _ _ _ _=>()) () l k with
 |none=>rw[hw] at h;cases h
 |some x=>
  obtain⟨st',u⟩:=x
  rw[hw] at h
  obtain rfl:=Option.some.inj h
  simp only
  cases stepF l st' k (l.getD k in0).op<;>rfl
theorem walkSt_in {l:List TInstr} {k:Nat} {st:List Nest} (h:walkSt l k=some st): ∀p∈st,nestIn k p:=by
 unfold walkSt at h
 cases hw:walkG (fun _ _ _ _=>()) () l k with
 |none=>rw[hw] at h;cases h
 |some x=>
  obtain⟨st',u⟩:=x
  rw[hw] at h
  obtain rfl:=Option.some.inj h
  exact(walkG_in hw).1
theorem stepF_cases {l:List TInstr} {st st':List Nest} {k:Nat} {op d:Int} {e:Nest} (h:stepF l st k op=some (st',d,e)):
 (opensB op=true∧st'=((k:Int), -1)::st∧d=st.length)∨(opensB op=false∧op≠5∧op≠11∧st'=st∧d=st.length)∨
 (∃t,op=11∧st=t::st'∧d=st'.length∧e=t)∨(∃t r,op=5∧st=t::r∧t.2= -1∧ifAt l t.1=true∧st'=(t.1,(k:Int))::r∧d=r.length):=by
 unfold stepF at h
 by_cases ho:opensB op=true
 ·simp only[ho,if_true,Option.some.injEq,Prod.mk.injEq] at h
  exact .inl ⟨ho,h.1.symm,h.2.1.symm⟩
 ·simp only[ho,if_false,Bool.false_eq_true] at h
  have ho':opensB op=false:=by simpa using ho
  by_cases h5:op≠5∧op≠11
  ·rw[if_pos h5] at h
   simp only[Option.some.injEq,Prod.mk.injEq] at h
   exact .inr (.inl ⟨ho',h5.1,h5.2,h.1.symm,h.2.1.symm⟩)
  ·rw[if_neg h5] at h
   cases st with
   |nil=>cases h
   |cons t r=>
    simp only at h
    by_cases h11:op=11
    ·rw[if_pos h11] at h
     simp only[Option.some.injEq,Prod.mk.injEq] at h
     obtain⟨rfl,rfl,rfl⟩:=h
     exact .inr (.inr (.inl ⟨_,h11,rfl,rfl,rfl⟩))
    ·rw[if_neg h11] at h
     by_cases hh:t.2= -1∧ifAt l t.1=true
     ·rw[if_pos hh] at h
      simp only[Option.some.injEq,Prod.mk.injEq] at h
      obtain⟨rfl,rfl,rfl⟩:=h
      exact .inr (.inr (.inr ⟨_,r,by omega,rfl,hh.1,hh.2,rfl,rfl⟩))
     ·rw[if_neg hh] at h;cases h
structure WInv (l:List TInstr) (k:Nat) (st M:List Nest):Prop where
 len:M.length=l.length
 op: ∀p∈st,opensB (opAt l p.1.toNat)=true∧(p.2= -1∨opAt l p.2.toNat=5)
 all: ∀j,j<k→opensB (opAt l j)=true→∀base,walkSt l j=some base→
  ((∃inner o,st=inner++((j:Int),o)::base∧elseIs l j base k o∧∀m,j<m→m≤k→inBlk l j base m)∨((∀p∈st,p.1≠j)∧Shut l M j base k))
theorem elseIs.up {l:List TInstr} {j k:Nat} {base:List Nest} {o:Int} (h:elseIs l j base k o) (hk:opAt l k≠5∨∀o',walkSt l k≠some (((j:Int),o')::base)):elseIs l j base (k+1) o:=by
 refine⟨h.1.imp id (fun⟨m,h1,h2,h3,h4⟩=>⟨m,h1,h2,by omega,h4⟩),fun m h1 h2 h3 o' h4=> ?_⟩
 by_cases e:m=k
 ·subst e
  exact absurd h4 (hk.elim (fun q=>absurd h3 q) (fun q=>q o'))
 ·exact h.2 m h1 (by omega) h3 o' h4
theorem Shut.up {l:List TInstr} {M M':List Nest} {j k:Nat} {base:List Nest} (h:Shut l M j base k) (hM:M'.getD j n0=M.getD j n0):Shut l M' j base (k+1):=by
 obtain⟨e,o,h1,h2,h3,h4,h5,h6⟩:=h.ex
 exact⟨e,o,h1,by omega,h3,h4,by rw[hM];exact h5,h6⟩
theorem winv (l:List TInstr): ∀(k:Nat),k≤l.length→∀st M,walkG (tellM l) (List.replicate l.length (-1, -1)) l k=some (st,M)→WInv l k st M
 |0,_,st,M,h=>by
  simp only[walkG,Option.some.injEq,Prod.mk.injEq] at h
  obtain⟨rfl,rfl⟩:=h
  exact⟨by simp,fun p hp=>by simp at hp,fun j hj=>by omega⟩
 |k+1,hk,st',M',h=>by
  have h0:=h
  simp only[walkG] at h
  split at h
  ·cases h
  ·rename_i st M hw
   split at h
   ·cases h
   ·rename_i st1 d e h1
    simp only[Option.some.injEq,Prod.mk.injEq] at h
    obtain⟨rfl,hM'⟩:=h
    have I:=winv l k (by omega) st M hw
    have hst:=walkSt_of hw
    have hst':=walkSt_of h0
    have hin:=(walkG_in hw).1
    have hlen:M'.length=l.length:=by rw[←hM',tellM_length];exact I.len
    have hkeep: ∀j,opensB (opAt l j)=true→(∀p∈st,p.1≠j)→M'.getD j n0=M.getD j n0:=fun j hj hp=>by
     rw[←hM']
     unfold tellM
     split
     ·rename_i h11
      rcases stepF_cases h1 with⟨q,_⟩|⟨_,_,q,_⟩|⟨t,_,rfl,_,rfl⟩|⟨t,r,q,_⟩
      ·rw[h11] at q;cases q
      ·exact absurd h11 q
      ·have ha:=hp e (by simp)
       have hb:=(I.op e (by simp)).2
       have hin':=hin e (by simp)
       unfold nestIn at hin'
       have na:e.1.toNat≠j:=by omega
       split
       ·simp only[List.getD_eq_getElem?_getD,List.getElem?_set_ne na]
       ·rename_i hne
        have hb':=hb.resolve_left hne
        have nb:e.2.toNat≠j:=fun q=>by rw[q] at hb';unfold opAt at hb' hj;rw[hb'] at hj;cases hj
        simp only[List.getD_eq_getElem?_getD,List.getElem?_set_ne nb,List.getElem?_set_ne na]
      ·omega
     ·rfl
    refine⟨hlen, ?_,fun j hj hjo base hb=> ?_⟩
    ·rcases stepF_cases h1 with⟨q,rfl,_⟩|⟨_,_,_,rfl,_⟩|⟨t,_,rfl,_,_⟩|⟨t,r,q,rfl,_,_,rfl,_⟩
     ·intro p hp
      rcases List.mem_cons.1 hp with rfl|hp
      ·exact⟨by show opensB (opAt l ((k:Int)).toNat)=true;rw[Int.toNat_natCast];exact q, .inl rfl⟩
      ·exact I.op p hp
     ·exact I.op
     ·exact fun p hp=>I.op p (by simp[hp])
     ·intro p hp
      rcases List.mem_cons.1 hp with rfl|hp
      ·exact⟨(I.op t (by simp)).1, .inr (by show opAt l ((k:Int)).toNat=5;rw[Int.toNat_natCast];exact q)⟩
      ·exact I.op p (by simp[hp])
    ·by_cases ej:j=k
     ·
      subst ej
      obtain rfl:=Option.some.inj (hst.symm.trans hb)
      left
      rcases stepF_cases h1 with⟨q,rfl,_⟩|⟨q,_⟩|⟨t,q,_⟩|⟨t,r,q,_⟩
      ·refine⟨[], -1,rfl,⟨.inl rfl,fun m h1 h2=>by omega⟩,fun m h1 h2=> ?_⟩
       obtain rfl:m=j+1:=by omega
       exact⟨[], -1,hst'⟩
      ·rw[q] at hjo;cases hjo
      ·unfold opAt at hjo;rw[q] at hjo;cases hjo
      ·unfold opAt at hjo;rw[q] at hjo;cases hjo
     ·rcases I.all j (by omega) hjo base hb with⟨inner,o,rfl,he,hbl⟩|⟨hno,hsh⟩
      ·have hbl': ∀{inner':List Nest} {o':Int},st1=inner'++((j:Int),o')::base→∀m,j<m→m≤k+1→inBlk l j base m:=fun{inner' o'} e m h1 h2=>by
        by_cases em:m=k+1
        ·subst em;exact⟨inner',o',by rw[hst',e]⟩
        ·exact hbl m h1 (by omega)
       rcases stepF_cases h1 with⟨q,rfl,_⟩|⟨_,q5,_,rfl,_⟩|⟨t,q11,hs,_,he'⟩|⟨t,r,q5,hs,ht2,hif,rfl,_⟩
       ·exact .inl ⟨((k:Int), -1)::inner,o,rfl,he.up (.inl (fun e=>by unfold opAt at e;rw[e] at q;cases q)),hbl' (inner':=((k:Int), -1)::inner) rfl⟩
       ·exact .inl ⟨inner,o,rfl,he.up (.inl q5),hbl' rfl⟩
       ·cases inner with
        |nil=>
         simp only[List.nil_append,List.cons.injEq] at hs
         obtain⟨rfl,rfl⟩:=hs
         right
         have hbi:=walkSt_in hb
         refine⟨fun p hp=>by have:=hbi p hp;unfold nestIn at this;omega,⟨k,o,by omega,by omega,q11,hst, ?_,he,fun m h1 h2=>hbl m h1 (by omega)⟩⟩
         have hjl:j<M.length:=by rw[I.len];omega
         rw[←hM',he']
         unfold tellM
         have q11':(l.getD k in0).op=11:=q11
         rw[if_pos q11']
         have hget:(M.set j (o,(k:Int))).getD j n0=(o,(k:Int)):=by simp[List.getD_eq_getElem?_getD,hjl]
         split
         ·simpa using hget
         ·rename_i hne
          have hb5:=(I.op ((j:Int),o) (by simp)).2.resolve_left hne
          have nb:o.toNat≠j:=fun e=>by simp only at hb5;rw[e] at hb5;unfold opAt at hb5 hjo;rw[hb5] at hjo;cases hjo
          rw[List.getD_eq_getElem?_getD,List.getElem?_set_ne nb,←List.getD_eq_getElem?_getD]
          simpa using hget
        |cons t' inner=>
         simp only[List.cons_append,List.cons.injEq] at hs
         obtain⟨rfl,rfl⟩:=hs
         refine .inl ⟨inner,o,rfl,he.up (.inl (fun e=>by unfold opAt at e;omega)),hbl' rfl⟩
       ·cases inner with
        |nil=>
         simp only[List.nil_append,List.cons.injEq] at hs
         obtain⟨rfl,rfl⟩:=hs
         refine .inl ⟨[],(k:Int),rfl,⟨.inr ⟨k,rfl,by omega,by omega,q5, ?_,o,hst⟩,fun m h1 h2 h3 o' h4=> ?_⟩,hbl' (inner':=[]) rfl⟩
         ·unfold ifAt at hif
          have hd:(l.getD ((j:Int)).toNat in0).op=4:=of_decide_eq_true hif
          rw[Int.toNat_natCast] at hd
          exact hd
         ·by_cases em:m=k
          ·rw[em]
          ·have:=he.2 m h1 (by omega) h3 o' h4
           simp only at ht2
           omega
        |cons t' inner=>
         simp only[List.cons_append,List.cons.injEq] at hs
         obtain⟨rfl,rfl⟩:=hs
         refine .inl ⟨(t'.1,(k:Int))::inner,o,rfl,he.up (.inr (fun o' e=> ?_)),hbl' (inner':=(t'.1,(k:Int))::inner) rfl⟩
         rw[hst] at e
         have:=congrArg List.length (Option.some.inj e)
         simp at this
         omega
      ·right
       refine⟨?_,hsh.up (hkeep j hjo hno)⟩
       rcases stepF_cases h1 with⟨q,rfl,_⟩|⟨_,_,_,rfl,_⟩|⟨t,_,rfl,_,_⟩|⟨t,r,q,rfl,_,_,rfl,_⟩
       ·intro p hp
        rcases List.mem_cons.1 hp with rfl|hp
        ·simp;omega
        ·exact hno p hp
       ·exact hno
       ·exact fun p hp=>hno p (by simp[hp])
       ·intro p hp
        rcases List.mem_cons.1 hp with rfl|hp
        ·exact hno t (by simp)
        ·exact hno p (by simp[hp])
theorem all_shut {l:List TInstr} (h:walkOk l=true) {j:Nat} (hj:j<l.length) (ho:opensB (opAt l j)=true) {base:List Nest} (hb:walkSt l j=some base):Shut l (matchesF l) j base l.length:=by
 obtain⟨M,hM⟩:=walk_some (tellM l) (List.replicate l.length (-1, -1)) h
 have hmf:matchesF l=M:=by simp[matchesF,hM]
 rw[hmf]
 rcases(winv l l.length (Nat.le_refl _) [] M hM).all j hj ho base hb with⟨inner,o,e,_⟩|⟨_,hs⟩
 ·have:=congrArg List.length e;simp at this
 ·exact hs
theorem walkSt_ok {l:List TInstr} (h:walkOk l=true) {k:Nat} (hk:k≤l.length): ∃st,walkSt l k=some st:=by
 cases hw:walkG (fun _ _ _ _=>()) () l k with
 |none=>
  have:=walkG_none hw l.length hk
  rw[walkOk_none this] at h;cases h
 |some x=>exact⟨x.1,by unfold walkSt;rw[hw];rfl⟩
end Go.Proofs.YtfpioigggjnffaaGreatDoor.E
set_option autoImplicit false
namespace Go.Proofs.YtfpioigggjnffaaGreatDoor.E
open Go.Ev
theorem walkSt_step {l:List TInstr} {k:Nat} {st st':List Nest} (h:walkSt l k=some st) (h':walkSt l (k+1)=some st'): ∃d e,stepF l st k (opAt l k)=some (st',d,e):=by
 rw[walkSt_succ h] at h'
 cases hs:stepF l st k (opAt l k) with
 |none=>rw[hs] at h';cases h'
 |some x=>
  obtain⟨s,d,e⟩:=x
  rw[hs] at h'
  obtain rfl:=Option.some.inj h'
  exact⟨d,e,rfl⟩
theorem walkSt_back {l:List TInstr} {k:Nat} {st':List Nest} (h':walkSt l (k+1)=some st'): ∃st,walkSt l k=some st:=by
 cases hw:walkSt l k with
 |some st=>exact⟨st,rfl⟩
 |none=>
  unfold walkSt at hw h'
  cases hg:walkG (fun _ _ _ _=>()) () l k with
  |some x=>rw[hg] at hw;cases hw
  |none=>
   have:=walkG_none hg (k+1) (by omega)
   rw[this] at h';cases h'
theorem walkSt_sorted {l:List TInstr}: ∀{k:Nat} {st:List Nest},walkSt l k=some st→st.Pairwise (fun p q=>q.1<p.1)
 |0,st,h=>by
  obtain rfl:[]=st:=by simpa[walkSt,walkG] using h
  exact .nil
 |k+1,st',h=>by
  obtain⟨st,h0⟩:=walkSt_back h
  have ih:=walkSt_sorted h0
  have hin:=walkSt_in h0
  obtain⟨d,e,hs⟩:=walkSt_step h0 h
  rcases stepF_cases hs with⟨_,rfl,_⟩|⟨_,_,_,rfl,_⟩|⟨t,_,rfl,_,_⟩|⟨t,r,_,rfl,_,_,rfl,_⟩
  ·exact .cons (fun p hp=>by have:=hin p hp;unfold nestIn at this;show p.1<(k:Int);omega) ih
  ·exact ih
  ·exact(List.pairwise_cons.1 ih).2
  ·exact .cons (List.pairwise_cons.1 ih).1 (List.pairwise_cons.1 ih).2
def pick (l:List TInstr) (M:List Nest):List Nest→Int→Int×Bool
 |[],left=>if 0<left then(0,false) else(l.length,true)
 |p::r,left=>if 0<left then pick l M r (left-1) else if opAt l p.1.toNat=3 then(p.1,true) else((M.getD p.1.toNat n0).2,true)
end Go.Proofs.YtfpioigggjnffaaGreatDoor.E
set_option autoImplicit false
set_option maxRecDepth 100000
set_option maxHeartbeats 40000000
set_option pp.maxSteps 20000
namespace Go.Proofs.YtfpioigggjnffaaGreatDoor.E
open Go.Ev
def endGo (f:Nat→Int) (a:Nat):Nat→Nat→Int→Int→Int×Int
 |0,_,_,_=>(-1, -1)
 |j+1,k,deep,other=>
  if opensB (f k) then endGo f a j (k+1) (deep+1) other
  else if f k=5∧deep=0 then(if 0≤other∨f a≠4 then(-1, -1) else endGo f a j (k+1) deep k)
  else if f k=11∧deep=0 then(k,other)
  else if f k=11 then endGo f a j (k+1) (deep-1) other
  else endGo f a j (k+1) deep other
def endF (l:List TInstr) (a:Nat):Int×Int:=endGo (opAt l) a (l.length-(a+1)) (a+1) 0 (-1)
section
variable {f:Nat→Int} {a j k:Nat} {deep other:Int}
theorem endGo_open (h:opensB (f k)=true):endGo f a (j+1) k deep other=endGo f a j (k+1) (deep+1) other:=by rw[endGo,if_pos h]
theorem endGo_twice (h:f k=5) (hd:deep=0) (h2:0≤other∨f a≠4):endGo f a (j+1) k deep other=(-1, -1):=by rw[endGo,if_neg (by rw[h];decide),if_pos ⟨h,hd⟩,if_pos h2]
theorem endGo_else (h:f k=5) (hd:deep=0) (h2: ¬0≤other) (h3:f a=4):endGo f a (j+1) k deep other=endGo f a j (k+1) deep k:=by rw[endGo,if_neg (by rw[h];decide),if_pos ⟨h,hd⟩,if_neg (by omega)]
theorem endGo_else2 (h:f k=5) (hd: ¬deep=0):endGo f a (j+1) k deep other=endGo f a j (k+1) deep other:=by rw[endGo,if_neg (by rw[h];decide),if_neg (by omega),if_neg (by omega),if_neg (by omega)]
theorem endGo_end (h:f k=11) (hd:deep=0):endGo f a (j+1) k deep other=(↑k,other):=by rw[endGo,if_neg (by rw[h];decide),if_neg (by omega),if_pos ⟨h,hd⟩]
theorem endGo_end2 (h:f k=11) (hd: ¬deep=0):endGo f a (j+1) k deep other=endGo f a j (k+1) (deep-1) other:=by rw[endGo,if_neg (by rw[h];decide),if_neg (by omega),if_neg (by omega),if_pos h]
theorem endGo_plain (h:opensB (f k)=false) (h5: ¬f k=5) (h11: ¬f k=11):endGo f a (j+1) k deep other=endGo f a j (k+1) deep other:=by rw[endGo,if_neg (by rw[h];decide),if_neg (by omega),if_neg (by omega),if_neg h11]
end
end Go.Proofs.YtfpioigggjnffaaGreatDoor.E
set_option autoImplicit false
namespace Go.Proofs.YtfpioigggjnffaaGreatDoor.E
open Go.Ev
theorem walkSt_up {l:List TInstr} {k:Nat} {st st':List Nest} (h:walkSt l k=some st) (h':walkSt l (k+1)=some st'):
 (opensB (opAt l k)=true∧st'=((k:Int), -1)::st)∨(opensB (opAt l k)=false∧opAt l k≠5∧opAt l k≠11∧st'=st)∨
 (∃t,opAt l k=11∧st=t::st')∨(∃t r,opAt l k=5∧st=t::r∧t.2= -1∧opAt l t.1.toNat=4∧st'=(t.1,(k:Int))::r):=by
 obtain⟨d,e,hs⟩:=walkSt_step h h'
 rcases stepF_cases hs with⟨q1,q2,_⟩|⟨q1,q2,q3,q4,_⟩|⟨t,q1,q2,_⟩|⟨t,r,q1,q2,q3,q4,q5,_⟩
 ·exact .inl ⟨q1,q2⟩
 ·exact .inr (.inl ⟨q1,q2,q3,q4⟩)
 ·exact .inr (.inr (.inl ⟨t,q1,q2⟩))
 ·exact .inr (.inr (.inr ⟨t,r,q1,q2,q3,by unfold ifAt at q4;exact of_decide_eq_true q4,q5⟩))
theorem scan_walk {l:List TInstr} {j:Nat} {base:List Nest} (hb:walkSt l j=some base) (ho:opensB (opAt l j)=true): ∀m,j+1≤m→m≤l.length→(∀i,j<i→i≤m→inBlk l j base i)→
 ∀inner o,walkSt l m=some (inner++((j:Int),o)::base)→endF l j=endGo (opAt l) j (l.length-m) m inner.length o:=by
 intro m
 induction m with
 |zero=>intro h;omega
 |succ m ih=>
  intro h1 h2 hin inner' o' hst'
  by_cases e:m=j
  ·subst e
   have hst1:walkSt l (m+1)=some (((m:Int), -1)::base):=by
    rw[walkSt_succ hb,stepF_open ho];rfl
   rw[hst1] at hst'
   have hst':=Option.some.inj hst'
   have hl:=congrArg List.length hst'
   simp only[List.length_append,List.length_cons] at hl
   have:inner'=[]:=List.length_eq_zero_iff.1 (by omega)
   subst this
   simp only[List.nil_append,List.cons.injEq,Prod.mk.injEq] at hst'
   rw[←hst'.1.2]
   rfl
  ·obtain⟨inner,o,hst⟩:=hin m (by omega) (by omega)
   have ih:=ih (by omega) (by omega) (fun i a b=>hin i a (by omega)) inner o hst
   obtain⟨jj,hjj⟩: ∃jj,l.length-m=jj+1:=⟨l.length-m-1,by omega⟩
   have hjj':l.length-(m+1)=jj:=by omega
   rw[ih,hjj,hjj']
   rcases walkSt_up hst hst' with⟨q1,q2⟩|⟨q1,q2,q3,q4⟩|⟨t,q1,q2⟩|⟨t,r,q1,q2,q3,q4,q5⟩
   ·rw[endGo_open q1]
    have q2:inner'++((j:Int),o')::base=(((m:Int), -1)::inner)++((j:Int),o)::base:=q2
    obtain⟨e1,e2⟩:=List.append_inj q2 (by have:=congrArg List.length q2;simp only[List.length_append,List.length_cons] at this ⊢;omega)
    simp only[List.cons.injEq,Prod.mk.injEq,true_and,and_true] at e2
    rw[e1,e2,List.length_cons]
    rfl
   ·rw[endGo_plain q1 q2 q3]
    obtain⟨e1,e2⟩:=List.append_inj q4 (by have:=congrArg List.length q4;simp only[List.length_append,List.length_cons] at this ⊢;omega)
    simp only[List.cons.injEq,Prod.mk.injEq,true_and,and_true] at e2
    rw[e1,e2]
   ·cases inner with
    |nil=>
     exfalso
     have:=congrArg List.length q2
     simp only[List.nil_append,List.length_append,List.length_cons] at this
     omega
    |cons t0 inner=>
     have q2:t0::(inner++((j:Int),o)::base)=t::(inner'++((j:Int),o')::base):=q2
     simp only[List.cons.injEq] at q2
     obtain⟨e1,e2⟩:=List.append_inj q2.2 (by have:=congrArg List.length q2.2;simp only[List.length_append,List.length_cons] at this ⊢;omega)
     simp only[List.cons.injEq,Prod.mk.injEq,true_and,and_true] at e2
     rw[endGo_end2 q1 (by simp only[List.length_cons];omega),e1,e2,List.length_cons]
     congr 1
     omega
   ·cases inner with
    |nil=>
     simp only[List.nil_append,List.cons.injEq] at q2
     obtain⟨rfl,rfl⟩:=q2
     simp only at q3 q4 q5
     rw[Int.toNat_natCast] at q4
     have hl:=congrArg List.length q5
     simp only[List.length_append,List.length_cons] at hl
     have:inner'=[]:=List.length_eq_zero_iff.1 (by omega)
     subst this
     simp only[List.nil_append,List.cons.injEq,Prod.mk.injEq,true_and,and_true] at q5
     rw[q5]
     exact endGo_else q1 rfl (by omega) q4
    |cons t0 inner=>
     have q2:t0::(inner++((j:Int),o)::base)=t::r:=q2
     simp only[List.cons.injEq] at q2
     obtain⟨rfl,rfl⟩:=q2
     have q5:inner'++((j:Int),o')::base=((t0.1,(m:Int))::inner)++((j:Int),o)::base:=q5
     obtain⟨e1,e2⟩:=List.append_inj q5 (by have:=congrArg List.length q5;simp only[List.length_append,List.length_cons] at this ⊢;omega)
     simp only[List.cons.injEq,Prod.mk.injEq,true_and,and_true] at e2
     rw[endGo_else2 q1 (by simp only[List.length_cons];omega),e1,e2]
     rfl
def EndAt (l:List TInstr) (j:Nat) (o:Int) (e:Nat):Prop:=opAt l e=11∧∃base,walkSt l e=some (((j:Int),o)::base)
theorem walkG_any {σ:Type} (tell:Nat→Int→Nest→σ→σ) (s0:σ) {l:List TInstr} {k:Nat} {st:List Nest} (h:walkSt l k=some st): ∃s,walkG tell s0 l k=some (st,s):=by
 have:=walkG_st tell s0 l k
 rw[h] at this
 cases hw:walkG tell s0 l k with
 |none=>rw[hw] at this;cases this
 |some p=>
  rw[hw] at this
  obtain⟨a,b⟩:=p
  simp only[Option.map_some,Option.some.injEq] at this
  subst this
  exact⟨b,rfl⟩
theorem end_of {l:List TInstr} {j e:Nat} {o:Int} {base:List Nest} (hb:walkSt l j=some base) (ho:opensB (opAt l j)=true) (h1:j<e) (h2:e<l.length) (h3:opAt l e=11) (h4:walkSt l e=some (((j:Int),o)::base)) (h5: ∀m,j<m→m≤e→inBlk l j base m):endF l j=((e:Int),o):=by
 rw[scan_walk hb ho e h1 (by omega) h5 [] o h4]
 obtain⟨jj,hjj⟩: ∃jj,l.length-e=jj+1:=⟨l.length-e-1,by omega⟩
 rw[hjj]
 exact endGo_end h3 rfl
theorem endGo_range (f:Nat→Int) (a:Nat): ∀(j k:Nat) (deep other:Int),(other= -1∨∃m:Nat,other=m∧a<m∧m<k∧f m=5)→a<k→(endGo f a j k deep other=(-1, -1))∨
 ∃(e:Nat) (o:Int),endGo f a j k deep other=((e:Int),o)∧k≤e∧e<k+j∧f e=11∧(o= -1∨∃m:Nat,o=m∧a<m∧m<e∧f m=5)
 |0,k,deep,other,ho,ha=> .inl rfl
 |j+1,k,deep,other,ho,ha=>by
  have up:(other= -1∨∃m:Nat,other=m∧a<m∧m<k+1∧f m=5):=ho.imp id (fun⟨m,h1,h2,h3,h4⟩=>⟨m,h1,h2,by omega,h4⟩)
  have next: ∀d o':Int,(o'= -1∨∃m:Nat,o'=m∧a<m∧m<k+1∧f m=5)→endGo f a (j+1) k deep other=endGo f a j (k+1) d o'→(endGo f a (j+1) k deep other=(-1, -1))∨∃(e:Nat) (o:Int),endGo f a (j+1) k deep other=((e:Int),o)∧k≤e∧e<k+(j+1)∧f e=11∧(o= -1∨∃m:Nat,o=m∧a<m∧m<e∧f m=5):=fun d o' h1 h2=>by
   rw[h2]
   rcases endGo_range f a j (k+1) d o' h1 (by omega) with h|⟨e,o,g1,g2,g3,g4⟩
   ·exact .inl h
   ·exact .inr ⟨e,o,g1,by omega,by omega,g4⟩
  by_cases c0:opensB (f k)=true
  ·exact next _ _ up (endGo_open c0)
  ·have c0':opensB (f k)=false:=by simpa using c0
   by_cases c5:f k=5
   ·by_cases d0:deep=0
    ·by_cases q:0≤other∨f a≠4
     ·exact .inl (endGo_twice c5 d0 q)
     ·exact next _ _ (.inr ⟨k,rfl,ha,by omega,c5⟩) (endGo_else c5 d0 (fun h=>q (.inl h)) (Decidable.not_not.1 fun h=>q (.inr h)))
    ·exact next _ _ up (endGo_else2 c5 d0)
   ·by_cases c11:f k=11
    ·by_cases d0:deep=0
     ·exact .inr ⟨k,other,endGo_end c11 d0,Nat.le_refl _,by omega,c11,ho⟩
     ·exact next _ _ up (endGo_end2 c11 d0)
    ·exact next _ _ up (endGo_plain c0' c5 c11)
theorem endF_range (l:List TInstr) {a:Nat} (ha:a<l.length):endF l a=(-1, -1)∨∃(e:Nat) (o:Int),endF l a=((e:Int),o)∧a<e∧e<l.length∧opAt l e=11∧(o= -1∨∃m:Nat,o=m∧a<m∧m<e∧opAt l m=5):=by
 rcases endGo_range (opAt l) a (l.length-(a+1)) (a+1) 0 (-1) (.inl rfl) (by omega) with h|⟨e,o,h1,h2,h3,h4⟩
 ·exact .inl h
 ·exact .inr ⟨e,o,h1,by omega,by omega,h4⟩
theorem walkSt_before {l:List TInstr}: ∀(d k:Nat) (st':List Nest),walkSt l (k+d)=some st'→∃st'',walkSt l k=some st'':=by
 intro d
 induction d with
 |zero=>intro k st' h;exact⟨st',h⟩
 |succ d ihd=>
  intro k st' h
  obtain⟨s,hs⟩:=walkSt_back (k:=k+d) h
  exact ihd k s hs
end Go.Proofs.YtfpioigggjnffaaGreatDoor.E
