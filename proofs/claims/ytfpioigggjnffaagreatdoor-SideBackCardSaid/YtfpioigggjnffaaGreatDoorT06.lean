/- T06, T07, N1. -/
import Derived.Test.YtfpioigggjnffaaGreatDoorF6
set_option linter.unnecessarySimpa false
set_option linter.unusedSimpArgs false
set_option linter.unusedVariables false
set_option autoImplicit false
namespace Go.Proofs.YtfpioigggjnffaaGreatDoor.E
open Go.Ev
abbrev opAt (l:List TInstr) (k:Nat):Int:=(l.getD k in0).op
def inBlk (l:List TInstr) (j:Nat) (base:List Nest) (k:Nat):Prop:=∃inner o,walkSt l k=some (inner++((j:Int),o)::base)
def elseIs (l:List TInstr) (j:Nat) (base:List Nest) (k:Nat) (o:Int):Prop:=
 (o= -1∨∃m:Nat,o=m∧j<m∧m<k∧opAt l m=5∧opAt l j=4∧∃o',walkSt l m=some (((j:Int),o')::base))∧
 ∀m,j<m→m<k→opAt l m=5→∀o',walkSt l m=some (((j:Int),o')::base)→o=m
structure Shut (l:List TInstr) (M:List Nest) (j:Nat) (base:List Nest) (k:Nat):Prop where
 ex: ∃e:Nat,∃o:Int,j<e∧e<k∧opAt l e=11∧walkSt l e=some (((j:Int),o)::base)∧M.getD j n0=(o,(e:Int))∧elseIs l j base e o∧∀m,j<m→m≤e→inBlk l j base m
theorem walkSt_of {σ:Type} {tell:Nat→Int→Nest→σ→σ} {s0 s:σ} {l:List TInstr} {k:Nat} {st:List Nest} (h:walkG tell s0 l k=some (st,s)):walkSt l k=some st:=by
 rw[←walkG_st tell s0 l k,h];rfl
theorem walkSt_succ {l:List TInstr} {k:Nat} {st:List Nest} (h:walkSt l k=some st):walkSt l (k+1)=(stepF l st k (opAt l k)).map (·.1):=by
 unfold walkSt at h ⊢
 simp only[walkG]
 cases hw:walkG (fun _ _ _ _=>()) () l k with
 |none=>rw[hw] at h;cases h
 |some x=>
  obtain⟨st',u⟩:=x
  rw[hw] at h
  obtain rfl:=Option.some.inj h
  simp only
  cases stepF l st' k (l.getD k in0).op<;>rfl
theorem walkSt_in {l:List TInstr} {k:Nat} {st:List Nest} (h:walkSt l k=some st): ∀p∈st,nestIn k p:=by
 unfold walkSt at h
 cases hw:walkG (fun _ _ _ _=>()) () l k with
 |none=>rw[hw] at h;cases h
 |some x=>
  obtain⟨st',u⟩:=x
  rw[hw] at h
  obtain rfl:=Option.some.inj h
  exact(walkG_in hw).1
theorem stepF_cases {l:List TInstr} {st st':List Nest} {k:Nat} {op d:Int} {e:Nest} (h:stepF l st k op=some (st',d,e)):
 (opensB op=true∧st'=((k:Int), -1)::st∧d=st.length)∨(opensB op=false∧op≠5∧op≠11∧st'=st∧d=st.length)∨
 (∃t,op=11∧st=t::st'∧d=st'.length∧e=t)∨(∃t r,op=5∧st=t::r∧t.2= -1∧ifAt l t.1=true∧st'=(t.1,(k:Int))::r∧d=r.length):=by
 unfold stepF at h
 by_cases ho:opensB op=true
 ·simp only[ho,if_true,Option.some.injEq,Prod.mk.injEq] at h
  exact .inl ⟨ho,h.1.symm,h.2.1.symm⟩
 ·simp only[ho,if_false,Bool.false_eq_true] at h
  have ho':opensB op=false:=by simpa using ho
  by_cases h5:op≠5∧op≠11
  ·rw[if_pos h5] at h
   simp only[Option.some.injEq,Prod.mk.injEq] at h
   exact .inr (.inl ⟨ho',h5.1,h5.2,h.1.symm,h.2.1.symm⟩)
  ·rw[if_neg h5] at h
   cases st with
   |nil=>cases h
   |cons t r=>
    simp only at h
    by_cases h11:op=11
    ·rw[if_pos h11] at h
     simp only[Option.some.injEq,Prod.mk.injEq] at h
     obtain⟨rfl,rfl,rfl⟩:=h
     exact .inr (.inr (.inl ⟨_,h11,rfl,rfl,rfl⟩))
    ·rw[if_neg h11] at h
     by_cases hh:t.2= -1∧ifAt l t.1=true
     ·rw[if_pos hh] at h
      simp only[Option.some.injEq,Prod.mk.injEq] at h
      obtain⟨rfl,rfl,rfl⟩:=h
      exact .inr (.inr (.inr ⟨_,r,by omega,rfl,hh.1,hh.2,rfl,rfl⟩))
     ·rw[if_neg hh] at h;cases h
structure WInv (l:List TInstr) (k:Nat) (st M:List Nest):Prop where
 len:M.length=l.length
 op: ∀p∈st,opensB (opAt l p.1.toNat)=true∧(p.2= -1∨opAt l p.2.toNat=5)
 all: ∀j,j<k→opensB (opAt l j)=true→∀base,walkSt l j=some base→
  ((∃inner o,st=inner++((j:Int),o)::base∧elseIs l j base k o∧∀m,j<m→m≤k→inBlk l j base m)∨((∀p∈st,p.1≠j)∧Shut l M j base k))
theorem elseIs.up {l:List TInstr} {j k:Nat} {base:List Nest} {o:Int} (h:elseIs l j base k o) (hk:opAt l k≠5∨∀o',walkSt l k≠some (((j:Int),o')::base)):elseIs l j base (k+1) o:=by
 refine⟨h.1.imp id (fun⟨m,h1,h2,h3,h4⟩=>⟨m,h1,h2,by omega,h4⟩),fun m h1 h2 h3 o' h4=> ?_⟩
 by_cases e:m=k
 ·subst e
  exact absurd h4 (hk.elim (fun q=>absurd h3 q) (fun q=>q o'))
 ·exact h.2 m h1 (by omega) h3 o' h4
theorem Shut.up {l:List TInstr} {M M':List Nest} {j k:Nat} {base:List Nest} (h:Shut l M j base k) (hM:M'.getD j n0=M.getD j n0):Shut l M' j base (k+1):=by
 obtain⟨e,o,h1,h2,h3,h4,h5,h6⟩:=h.ex
 exact⟨e,o,h1,by omega,h3,h4,by rw[hM];exact h5,h6⟩
theorem winv (l:List TInstr): ∀(k:Nat),k≤l.length→∀st M,walkG (tellM l) (List.replicate l.length (-1, -1)) l k=some (st,M)→WInv l k st M
 |0,_,st,M,h=>by
  simp only[walkG,Option.some.injEq,Prod.mk.injEq] at h
  obtain⟨rfl,rfl⟩:=h
  exact⟨by simp,fun p hp=>by simp at hp,fun j hj=>by omega⟩
 |k+1,hk,st',M',h=>by
  have h0:=h
  simp only[walkG] at h
  split at h
  ·cases h
  ·rename_i st M hw
   split at h
   ·cases h
   ·rename_i st1 d e h1
    simp only[Option.some.injEq,Prod.mk.injEq] at h
    obtain⟨rfl,hM'⟩:=h
    have I:=winv l k (by omega) st M hw
    have hst:=walkSt_of hw
    have hst':=walkSt_of h0
    have hin:=(walkG_in hw).1
    have hlen:M'.length=l.length:=by rw[←hM',tellM_length];exact I.len
    have hkeep: ∀j,opensB (opAt l j)=true→(∀p∈st,p.1≠j)→M'.getD j n0=M.getD j n0:=fun j hj hp=>by
     rw[←hM']
     unfold tellM
     split
     ·rename_i h11
      rcases stepF_cases h1 with⟨q,_⟩|⟨_,_,q,_⟩|⟨t,_,rfl,_,rfl⟩|⟨t,r,q,_⟩
      ·rw[h11] at q;cases q
      ·exact absurd h11 q
      ·have ha:=hp e (by simp)
       have hb:=(I.op e (by simp)).2
       have hin':=hin e (by simp)
       unfold nestIn at hin'
       have na:e.1.toNat≠j:=by omega
       split
       ·simp only[List.getD_eq_getElem?_getD,List.getElem?_set_ne na]
       ·rename_i hne
        have hb':=hb.resolve_left hne
        have nb:e.2.toNat≠j:=fun q=>by rw[q] at hb';unfold opAt at hb' hj;rw[hb'] at hj;cases hj
        simp only[List.getD_eq_getElem?_getD,List.getElem?_set_ne nb,List.getElem?_set_ne na]
      ·omega
     ·rfl
    refine⟨hlen, ?_,fun j hj hjo base hb=> ?_⟩
    ·rcases stepF_cases h1 with⟨q,rfl,_⟩|⟨_,_,_,rfl,_⟩|⟨t,_,rfl,_,_⟩|⟨t,r,q,rfl,_,_,rfl,_⟩
     ·intro p hp
      rcases List.mem_cons.1 hp with rfl|hp
      ·exact⟨by show opensB (opAt l ((k:Int)).toNat)=true;rw[Int.toNat_natCast];exact q, .inl rfl⟩
      ·exact I.op p hp
     ·exact I.op
     ·exact fun p hp=>I.op p (by simp[hp])
     ·intro p hp
      rcases List.mem_cons.1 hp with rfl|hp
      ·exact⟨(I.op t (by simp)).1, .inr (by show opAt l ((k:Int)).toNat=5;rw[Int.toNat_natCast];exact q)⟩
      ·exact I.op p (by simp[hp])
    ·by_cases ej:j=k
     ·
      subst ej
      obtain rfl:=Option.some.inj (hst.symm.trans hb)
      left
      rcases stepF_cases h1 with⟨q,rfl,_⟩|⟨q,_⟩|⟨t,q,_⟩|⟨t,r,q,_⟩
      ·refine⟨[], -1,rfl,⟨.inl rfl,fun m h1 h2=>by omega⟩,fun m h1 h2=> ?_⟩
       obtain rfl:m=j+1:=by omega
       exact⟨[], -1,hst'⟩
      ·rw[q] at hjo;cases hjo
      ·unfold opAt at hjo;rw[q] at hjo;cases hjo
      ·unfold opAt at hjo;rw[q] at hjo;cases hjo
     ·rcases I.all j (by omega) hjo base hb with⟨inner,o,rfl,he,hbl⟩|⟨hno,hsh⟩
      ·have hbl': ∀{inner':List Nest} {o':Int},st1=inner'++((j:Int),o')::base→∀m,j<m→m≤k+1→inBlk l j base m:=fun{inner' o'} e m h1 h2=>by
        by_cases em:m=k+1
        ·subst em;exact⟨inner',o',by rw[hst',e]⟩
        ·exact hbl m h1 (by omega)
       rcases stepF_cases h1 with⟨q,rfl,_⟩|⟨_,q5,_,rfl,_⟩|⟨t,q11,hs,_,he'⟩|⟨t,r,q5,hs,ht2,hif,rfl,_⟩
       ·exact .inl ⟨((k:Int), -1)::inner,o,rfl,he.up (.inl (fun e=>by unfold opAt at e;rw[e] at q;cases q)),hbl' (inner':=((k:Int), -1)::inner) rfl⟩
       ·exact .inl ⟨inner,o,rfl,he.up (.inl q5),hbl' rfl⟩
       ·cases inner with
        |nil=>
         simp only[List.nil_append,List.cons.injEq] at hs
         obtain⟨rfl,rfl⟩:=hs
         right
         have hbi:=walkSt_in hb
         refine⟨fun p hp=>by have:=hbi p hp;unfold nestIn at this;omega,⟨k,o,by omega,by omega,q11,hst, ?_,he,fun m h1 h2=>hbl m h1 (by omega)⟩⟩
         have hjl:j<M.length:=by rw[I.len];omega
         rw[←hM',he']
         unfold tellM
         have q11':(l.getD k in0).op=11:=q11
         rw[if_pos q11']
         have hget:(M.set j (o,(k:Int))).getD j n0=(o,(k:Int)):=by simp[List.getD_eq_getElem?_getD,hjl]
         split
         ·simpa using hget
         ·rename_i hne
          have hb5:=(I.op ((j:Int),o) (by simp)).2.resolve_left hne
          have nb:o.toNat≠j:=fun e=>by simp only at hb5;rw[e] at hb5;unfold opAt at hb5 hjo;rw[hb5] at hjo;cases hjo
          rw[List.getD_eq_getElem?_getD,List.getElem?_set_ne nb,←List.getD_eq_getElem?_getD]
          simpa using hget
        |cons t' inner=>
         simp only[List.cons_append,List.cons.injEq] at hs
         obtain⟨rfl,rfl⟩:=hs
         refine .inl ⟨inner,o,rfl,he.up (.inl (fun e=>by unfold opAt at e;omega)),hbl' rfl⟩
       ·cases inner with
        |nil=>
         simp only[List.nil_append,List.cons.injEq] at hs
         obtain⟨rfl,rfl⟩:=hs
         refine .inl ⟨[],(k:Int),rfl,⟨.inr ⟨k,rfl,by omega,by omega,q5, ?_,o,hst⟩,fun m h1 h2 h3 o' h4=> ?_⟩,hbl' (inner':=[]) rfl⟩
         ·unfold ifAt at hif
          have hd:(l.getD ((j:Int)).toNat in0).op=4:=of_decide_eq_true hif
          rw[Int.toNat_natCast] at hd
          exact hd
         ·by_cases em:m=k
          ·rw[em]
          ·have:=he.2 m h1 (by omega) h3 o' h4
           simp only at ht2
           omega
        |cons t' inner=>
         simp only[List.cons_append,List.cons.injEq] at hs
         obtain⟨rfl,rfl⟩:=hs
         refine .inl ⟨(t'.1,(k:Int))::inner,o,rfl,he.up (.inr (fun o' e=> ?_)),hbl' (inner':=(t'.1,(k:Int))::inner) rfl⟩
         rw[hst] at e
         have:=congrArg List.length (Option.some.inj e)
         simp at this
         omega
      ·right
       refine⟨?_,hsh.up (hkeep j hjo hno)⟩
       rcases stepF_cases h1 with⟨q,rfl,_⟩|⟨_,_,_,rfl,_⟩|⟨t,_,rfl,_,_⟩|⟨t,r,q,rfl,_,_,rfl,_⟩
       ·intro p hp
        rcases List.mem_cons.1 hp with rfl|hp
        ·simp;omega
        ·exact hno p hp
       ·exact hno
       ·exact fun p hp=>hno p (by simp[hp])
       ·intro p hp
        rcases List.mem_cons.1 hp with rfl|hp
        ·exact hno t (by simp)
        ·exact hno p (by simp[hp])
theorem all_shut {l:List TInstr} (h:walkOk l=true) {j:Nat} (hj:j<l.length) (ho:opensB (opAt l j)=true) {base:List Nest} (hb:walkSt l j=some base):Shut l (matchesF l) j base l.length:=by
 obtain⟨M,hM⟩:=walk_some (tellM l) (List.replicate l.length (-1, -1)) h
 have hmf:matchesF l=M:=by simp[matchesF,hM]
 rw[hmf]
 rcases(winv l l.length (Nat.le_refl _) [] M hM).all j hj ho base hb with⟨inner,o,e,_⟩|⟨_,hs⟩
 ·have:=congrArg List.length e;simp at this
 ·exact hs
theorem walkSt_ok {l:List TInstr} (h:walkOk l=true) {k:Nat} (hk:k≤l.length): ∃st,walkSt l k=some st:=by
 cases hw:walkG (fun _ _ _ _=>()) () l k with
 |none=>
  have:=walkG_none hw l.length hk
  rw[walkOk_none this] at h;cases h
 |some x=>exact⟨x.1,by unfold walkSt;rw[hw];rfl⟩
end Go.Proofs.YtfpioigggjnffaaGreatDoor.E
set_option autoImplicit false
namespace Go.Proofs.YtfpioigggjnffaaGreatDoor.E
open Go.Ev
theorem walkSt_step {l:List TInstr} {k:Nat} {st st':List Nest} (h:walkSt l k=some st) (h':walkSt l (k+1)=some st'): ∃d e,stepF l st k (opAt l k)=some (st',d,e):=by
 rw[walkSt_succ h] at h'
 cases hs:stepF l st k (opAt l k) with
 |none=>rw[hs] at h';cases h'
 |some x=>
  obtain⟨s,d,e⟩:=x
  rw[hs] at h'
  obtain rfl:=Option.some.inj h'
  exact⟨d,e,rfl⟩
theorem walkSt_back {l:List TInstr} {k:Nat} {st':List Nest} (h':walkSt l (k+1)=some st'): ∃st,walkSt l k=some st:=by
 cases hw:walkSt l k with
 |some st=>exact⟨st,rfl⟩
 |none=>
  unfold walkSt at hw h'
  cases hg:walkG (fun _ _ _ _=>()) () l k with
  |some x=>rw[hg] at hw;cases hw
  |none=>
   have:=walkG_none hg (k+1) (by omega)
   rw[this] at h';cases h'
theorem walkSt_sorted {l:List TInstr}: ∀{k:Nat} {st:List Nest},walkSt l k=some st→st.Pairwise (fun p q=>q.1<p.1)
 |0,st,h=>by
  obtain rfl:[]=st:=by simpa[walkSt,walkG] using h
  exact .nil
 |k+1,st',h=>by
  obtain⟨st,h0⟩:=walkSt_back h
  have ih:=walkSt_sorted h0
  have hin:=walkSt_in h0
  obtain⟨d,e,hs⟩:=walkSt_step h0 h
  rcases stepF_cases hs with⟨_,rfl,_⟩|⟨_,_,_,rfl,_⟩|⟨t,_,rfl,_,_⟩|⟨t,r,_,rfl,_,_,rfl,_⟩
  ·exact .cons (fun p hp=>by have:=hin p hp;unfold nestIn at this;show p.1<(k:Int);omega) ih
  ·exact ih
  ·exact(List.pairwise_cons.1 ih).2
  ·exact .cons (List.pairwise_cons.1 ih).1 (List.pairwise_cons.1 ih).2
def encl (l:List TInstr) (k:Nat) (st:List Nest):List Nest:=if opAt l k=5∨opAt l k=11 then st.tail else st
theorem encl_mem {l:List TInstr} (h:walkOk l=true) {j k:Nat} (hjk:j<k) (hk:k<l.length) (ho:opensB (opAt l j)=true) {st:List Nest} (hst:walkSt l k=some st):
 (¬(((matchesF l).getD j n0).2≤(k:Int)∨((matchesF l).getD j n0).1=(k:Int)))↔∃p∈encl l k st,p.1=(j:Int):=by
 obtain⟨base,hb⟩:=walkSt_ok h (k:=j) (by omega)
 obtain⟨e,o,he1,he2,he3,he4,he5,he6,he7⟩:=(all_shut h (by omega) ho hb).ex
 have hbi:=walkSt_in hb
 have hbase: ∀p∈base,p.1≠(j:Int):=fun p hp=>by have:=hbi p hp;unfold nestIn at this;omega
 obtain⟨st1,hst1⟩:=walkSt_ok h (k:=k+1) (by omega)
 have hoff:walkSt l (e+1)=some base:=by
  rw[walkSt_succ he4,he3];rfl
 rw[he5]
 rcases Nat.lt_trichotomy e k with hlt|rfl|hgt
 ·
  have: ¬¬(((o,(e:Int)):Nest).2≤(k:Int)∨((o,(e:Int)):Nest).1=(k:Int)):=fun q=>q (.inl (by show(e:Int)≤k;omega))
  refine⟨fun q=>absurd q this,fun⟨p,hp,hpj⟩=> ?_⟩
  exfalso
  have hps:p∈st:=by
   unfold encl at hp
   split at hp
   ·exact List.mem_of_mem_tail hp
   ·exact hp
  obtain⟨M,hM⟩:=walk_some (tellM l) (List.replicate l.length (-1, -1)) h
  obtain⟨Mk,hMk⟩: ∃Mk,walkG (tellM l) (List.replicate l.length (-1, -1)) l k=some (st,Mk):=by
   have:=walkG_st (tellM l) (List.replicate l.length (-1, -1)) l k
   rw[hst] at this
   obtain⟨⟨a,b⟩,h1,h2⟩:=Option.map_eq_some_iff.1 this
   simp only at h2
   subst h2
   exact⟨b,h1⟩
  rcases(winv l k (by omega) st Mk hMk).all j hjk ho base hb with⟨inner,o',_,_,hall⟩|⟨hno,_⟩
  ·obtain⟨inner',o2,h2⟩:=hall (e+1) (by omega) (by omega)
   rw[hoff] at h2
   have:=congrArg List.length (Option.some.inj h2)
   simp at this
   omega
  ·exact hno p hps hpj
 ·
  refine⟨fun q=>absurd (.inl (Int.le_refl _)) q,fun⟨p,hp,hpj⟩=> ?_⟩
  exfalso
  obtain rfl:=Option.some.inj (hst.symm.trans he4)
  unfold encl at hp
  rw[if_pos (.inr he3)] at hp
  exact hbase p hp hpj
 ·
  obtain⟨inner,o',hi⟩:=he7 k hjk (by omega)
  obtain rfl:=Option.some.inj (hst.symm.trans hi)
  have hmem: ∀t inner',inner=t::inner'→∃p∈(inner++((j:Int),o')::base).tail,p.1=(j:Int):=fun t inner' e=>by subst e;exact⟨((j:Int),o'),by simp,rfl⟩
  have hno:inner≠[]→o≠(k:Int):=fun hne e=>by
   rcases he6.1 with q|⟨m,q1,q2,q3,q4,_,o3,q6⟩
   ·omega
   ·obtain rfl:m=k:=by omega
    rw[hst] at q6
    have:=congrArg List.length (Option.some.inj q6)
    cases inner with
    |nil=>exact hne rfl
    |cons=>simp at this;omega
  by_cases h5:opAt l k=5
  ·unfold encl
   rw[if_pos (.inl h5)]
   cases inner with
   |nil=>
    have:=he6.2 k hjk hgt h5 o' hst
    refine⟨fun q=>absurd (.inr this) q,fun⟨p,hp,hpj⟩=>absurd hpj (hbase p hp)⟩
   |cons t inner'=>
    refine⟨fun _=>hmem t inner' rfl,fun _ q=>q.elim (fun q=>by simp only at q;omega) (fun q=>hno (by simp) q)⟩
  ·by_cases h11:opAt l k=11
   ·unfold encl
    rw[if_pos (.inr h11)]
    cases inner with
    |nil=>
     exfalso
     obtain⟨inner2,o2,h2⟩:=he7 (k+1) (by omega) (by omega)
     have:walkSt l (k+1)=some base:=by rw[walkSt_succ hst,h11];rfl
     rw[this] at h2
     have:=congrArg List.length (Option.some.inj h2)
     simp at this
     omega
    |cons t inner'=>
     refine⟨fun _=>hmem t inner' rfl,fun _ q=>q.elim (fun q=>by simp only at q;omega) (fun q=>hno (by simp) q)⟩
   ·unfold encl
    rw[if_neg (by simp[h5,h11])]
    refine⟨fun _=>⟨((j:Int),o'),by simp,rfl⟩,fun _ q=>q.elim (fun q=>by simp only at q;omega) (fun q=> ?_)⟩
    rcases he6.1 with q'|⟨m,q1,q2,q3,q4,_⟩
    ·simp only at q;omega
    ·simp only at q
     obtain rfl:m=k:=by omega
     exact h5 q4
def pick (l:List TInstr) (M:List Nest):List Nest→Int→Int×Bool
 |[],left=>if 0<left then(0,false) else(l.length,true)
 |p::r,left=>if 0<left then pick l M r (left-1) else if opAt l p.1.toNat=3 then(p.1,true) else((M.getD p.1.toNat n0).2,true)
theorem filter_succ {L:List Nest} {j:Nat} (hs:L.Pairwise (fun p q=>q.1<p.1)):(∃p∈L,p.1=(j:Int)∧L.filter (fun p=>decide (p.1<((j+1:Nat):Int)))=p::L.filter (fun p=>decide (p.1<(j:Int))))∨
 ((∀p∈L,p.1≠(j:Int))∧L.filter (fun p=>decide (p.1<((j+1:Nat):Int)))=L.filter (fun p=>decide (p.1<(j:Int)))):=by
 induction L with
 |nil=>exact .inr ⟨fun p hp=>by simp at hp,rfl⟩
 |cons p L ih=>
  obtain⟨h1,h2⟩:=List.pairwise_cons.1 hs
  by_cases hp:p.1=(j:Int)
  ·left
   refine⟨p,by simp,hp, ?_⟩
   have a:decide (p.1<((j+1:Nat):Int))=true:=by simp;omega
   have b:decide (p.1<(j:Int))=false:=by simp;omega
   simp only[List.filter_cons,a,b,if_true,Bool.false_eq_true,if_false]
   congr 1
   apply List.filter_congr
   intro q hq
   have:=h1 q hq
   rw[decide_eq_decide]
   omega
  ·rcases ih h2 with⟨q,hq,hqj,e⟩|⟨hno,e⟩
   ·left
    have:=h1 q hq
    refine⟨q,by simp[hq],hqj, ?_⟩
    have a:decide (p.1<((j+1:Nat):Int))=false:=by simp;omega
    have b:decide (p.1<(j:Int))=false:=by simp;omega
    simp only[List.filter_cons,a,b,Bool.false_eq_true,if_false]
    exact e
   ·right
    refine⟨fun q hq=>(List.mem_cons.1 hq).elim (fun e=>e ▸ hp) (hno q), ?_⟩
    have a:decide (p.1<((j+1:Nat):Int))=decide (p.1<(j:Int)):=by rw[decide_eq_decide];omega
    simp only[List.filter_cons,a,e]
theorem encl_sub {l:List TInstr} {k:Nat} {st:List Nest} {p:Nest} (h:p∈encl l k st):p∈st:=by
 unfold encl at h
 split at h
 ·exact List.mem_of_mem_tail h
 ·exact h
theorem encl_sorted {l:List TInstr} {k:Nat} {st:List Nest} (h:walkSt l k=some st):(encl l k st).Pairwise (fun p q=>q.1<p.1):=by
 have:=walkSt_sorted h
 unfold encl
 split
 ·cases st with
  |nil=>exact .nil
  |cons p r=>exact(List.pairwise_cons.1 this).2
 ·exact this
theorem walkSt_opens {l:List TInstr} (h:walkOk l=true) {k:Nat} (hk:k≤l.length) {st:List Nest} (hst:walkSt l k=some st): ∀p∈st,opensB (opAt l p.1.toNat)=true:=by
 have:=walkG_st (tellM l) (List.replicate l.length (-1, -1)) l k
 rw[hst] at this
 obtain⟨⟨a,b⟩,h1,h2⟩:=Option.map_eq_some_iff.1 this
 simp only at h2
 subst h2
 exact fun p hp=>((winv l k hk a b h1).op p hp).1
theorem tgt_pick {l:List TInstr} (h:walkOk l=true) {k:Nat} (hk:k<l.length) {st:List Nest} (hst:walkSt l k=some st): ∀(j:Nat),j≤k→∀left,tgtGo l (matchesF l) (k:Int) j left=pick l (matchesF l) ((encl l k st).filter (fun p=>decide (p.1<(j:Int)))) left
 |0,hj,left=>by
  have:(encl l k st).filter (fun p=>decide (p.1<((0:Nat):Int)))=[]:=by
   rw[List.filter_eq_nil_iff]
   intro p hp
   have:=walkSt_in hst p (encl_sub hp)
   unfold nestIn at this
   simp;omega
  rw[this]
  rfl
 |j+1,hj,left=>by
  have ih:=tgt_pick h hk hst j (by omega)
  rw[tgtGo]
  rcases filter_succ (j:=j) (encl_sorted hst) with⟨p,hp,hpj,e⟩|⟨hno,e⟩
  ·rw[e]
   have hpo:=walkSt_opens h (by omega) hst p (encl_sub hp)
   rw[hpj,Int.toNat_natCast] at hpo
   have hc:=(encl_mem h (by omega) hk hpo hst).2 ⟨p,hp,hpj⟩
   rw[if_neg (fun q=>q.elim (fun q=>by unfold opAt at hpo;rw[hpo] at q;cases q) hc)]
   rw[pick,hpj,Int.toNat_natCast]
   split
   ·exact ih _
   ·rfl
  ·rw[e]
   by_cases ho:opensB (opAt l j)=true
   ·have hc:((matchesF l).getD j n0).2≤(k:Int)∨((matchesF l).getD j n0).1=(k:Int):=by
     rcases Classical.em (((matchesF l).getD j n0).2≤(k:Int)∨((matchesF l).getD j n0).1=(k:Int)) with q|q
     ·exact q
     ·obtain⟨p,hp,hpj⟩:=(encl_mem h (by omega) hk ho hst).1 q
      exact absurd hpj (hno p hp)
    rw[if_pos (.inr hc)]
    exact ih _
   ·rw[if_pos (.inl (show opensB (opAt l j)=false from Bool.eq_false_iff.2 ho))]
    exact ih _
theorem tgt_encl {l:List TInstr} (h:walkOk l=true) {k:Nat} (hk:k<l.length) {st:List Nest} (hst:walkSt l k=some st) {left:Int} (hl:0≤left):targetF l (k:Int) left=pick l (matchesF l) (encl l k st) left:=by
 unfold targetF
 rw[if_neg (by rw[h];simp;omega),Int.toNat_natCast,tgt_pick h hk hst k (Nat.le_refl _)]
 congr 1
 rw[List.filter_eq_self]
 intro p hp
 have:=walkSt_in hst p (encl_sub hp)
 unfold nestIn at this
 simp;omega
theorem pick_ok {l:List TInstr} {M:List Nest}: ∀{L:List Nest} {left:Int},0≤left→(pick l M L left).2=decide (left≤L.length)∧((L.length:Int)<left→(pick l M L left).1=0)∧(left=L.length→(pick l M L left).1=l.length)∧
 (left<L.length→∃p,L[left.toNat]? =some p∧(pick l M L left).1=if opAt l p.1.toNat=3 then p.1 else(M.getD p.1.toNat n0).2)
 |[],left,h=>by
  simp only[pick,List.length_nil]
  by_cases h0:0<left
  ·rw[if_pos h0]
   refine⟨by simp;omega,fun _=>rfl,fun e=>by simp at e;omega,fun e=>by simp at e;omega⟩
  ·rw[if_neg h0]
   refine⟨by simp;omega,fun e=>by simp at e;omega,fun _=>rfl,fun e=>by simp at e;omega⟩
 |p::r,left,h=>by
  simp only[pick,List.length_cons]
  by_cases h0:0<left
  ·rw[if_pos h0]
   obtain⟨a,b,c,d⟩:=pick_ok (l:=l) (M:=M) (L:=r) (left:=left-1) (by omega)
   refine⟨?_,fun e=>b (by omega),fun e=>c (by omega),fun e=> ?_⟩
   ·rw[a,decide_eq_decide];omega
   ·obtain⟨q,q1,q2⟩:=d (by omega)
    refine⟨q, ?_,q2⟩
    rw[show left.toNat=(left-1).toNat+1 by omega,List.getElem?_cons_succ]
    exact q1
  ·rw[if_neg h0]
   obtain rfl:left=0:=by omega
   refine⟨?_,fun e=>by omega,fun e=>by omega,fun e=>⟨p,rfl, ?_⟩⟩
   ·split<;>simp<;>omega
   ·split<;>rfl
end Go.Proofs.YtfpioigggjnffaaGreatDoor.E
set_option autoImplicit false
set_option maxRecDepth 100000
set_option maxHeartbeats 40000000
set_option pp.maxSteps 20000
namespace Go.Proofs.YtfpioigggjnffaaGreatDoor.E
open Go.Ev
def endGo (f:Nat→Int) (a:Nat):Nat→Nat→Int→Int→Int×Int
 |0,_,_,_=>(-1, -1)
 |j+1,k,deep,other=>
  if opensB (f k) then endGo f a j (k+1) (deep+1) other
  else if f k=5∧deep=0 then(if 0≤other∨f a≠4 then(-1, -1) else endGo f a j (k+1) deep k)
  else if f k=11∧deep=0 then(k,other)
  else if f k=11 then endGo f a j (k+1) (deep-1) other
  else endGo f a j (k+1) deep other
def endF (l:List TInstr) (a:Nat):Int×Int:=endGo (opAt l) a (l.length-(a+1)) (a+1) 0 (-1)
section
variable {f:Nat→Int} {a j k:Nat} {deep other:Int}
theorem endGo_open (h:opensB (f k)=true):endGo f a (j+1) k deep other=endGo f a j (k+1) (deep+1) other:=by rw[endGo,if_pos h]
theorem endGo_twice (h:f k=5) (hd:deep=0) (h2:0≤other∨f a≠4):endGo f a (j+1) k deep other=(-1, -1):=by rw[endGo,if_neg (by rw[h];decide),if_pos ⟨h,hd⟩,if_pos h2]
theorem endGo_else (h:f k=5) (hd:deep=0) (h2: ¬0≤other) (h3:f a=4):endGo f a (j+1) k deep other=endGo f a j (k+1) deep k:=by rw[endGo,if_neg (by rw[h];decide),if_pos ⟨h,hd⟩,if_neg (by omega)]
theorem endGo_else2 (h:f k=5) (hd: ¬deep=0):endGo f a (j+1) k deep other=endGo f a j (k+1) deep other:=by rw[endGo,if_neg (by rw[h];decide),if_neg (by omega),if_neg (by omega),if_neg (by omega)]
theorem endGo_end (h:f k=11) (hd:deep=0):endGo f a (j+1) k deep other=(↑k,other):=by rw[endGo,if_neg (by rw[h];decide),if_neg (by omega),if_pos ⟨h,hd⟩]
theorem endGo_end2 (h:f k=11) (hd: ¬deep=0):endGo f a (j+1) k deep other=endGo f a j (k+1) (deep-1) other:=by rw[endGo,if_neg (by rw[h];decide),if_neg (by omega),if_neg (by omega),if_pos h]
theorem endGo_plain (h:opensB (f k)=false) (h5: ¬f k=5) (h11: ¬f k=11):endGo f a (j+1) k deep other=endGo f a j (k+1) deep other:=by rw[endGo,if_neg (by rw[h];decide),if_neg (by omega),if_neg (by omega),if_neg h11]
end
end Go.Proofs.YtfpioigggjnffaaGreatDoor.E
