/- T06, T07, N1. -/
import Derived.Test.YtfpioigggjnffaaGreatDoorF4
set_option linter.unnecessarySimpa false
set_option linter.unusedSimpArgs false
set_option linter.unusedVariables false
set_option autoImplicit false
namespace Go.Proofs.YtfpioigggjnffaaGreatDoor.E
open Go.Ev
abbrev opAt (l:List TInstr) (k:Nat):Int:=(l.getD k in0).op
def inBlk (l:List TInstr) (j:Nat) (base:List Nest) (k:Nat):Prop:=∃inner o,walkSt l k=some (inner++((j:Int),o)::base)
def elseIs (l:List TInstr) (j:Nat) (base:List Nest) (k:Nat) (o:Int):Prop:=
 (o= -1∨∃m:Nat,o=m∧j<m∧m<k∧opAt l m=5∧opAt l j=4∧∃o',walkSt l m=some (((j:Int),o')::base))∧
 ∀m,j<m→m<k→opAt l m=5→∀o',walkSt l m=some (((j:Int),o')::base)→o=m
structure Shut (l:List TInstr) (M:List Nest) (j:Nat) (base:List Nest) (k:Nat):Prop where
 ex: ∃e:Nat,∃o:Int,j<e∧e<k∧opAt l e=11∧walkSt l e=some (((j:Int),o)::base)∧M.getD j n0=(o,(e:Int))∧elseIs l j base e o∧∀m,j<m→m≤e→inBlk l j base m
theorem walkSt_of {σ:Type} {tell:Nat→Int→Nest→σ→σ} {s0 s:σ} {l:List TInstr} {k:Nat} {st:List Nest} (h:walkG tell s0 l k=some (st,s)):walkSt l k=some st:=by
 rw[←walkG_st tell s0 l k,h];rfl
theorem walkSt_succ {l:List TInstr} {k:Nat} {st:List Nest} (h:walkSt l k=some st):walkSt l (k+1)=(stepF l st k (opAt l k)).map (·.1):=by
 unfold walkSt at h ⊢
 simp only[walkG]
 cases hw:walkG (fun _ _ _ _=>()) () l k with
 |none=>rw[hw] at h;cases h
 |some x=>
  obtain⟨st',u⟩:=x
  rw[hw] at h
  obtain rfl:=Option.some.inj h
  simp only
  cases stepF l st' k (l.getD k in0).op<;>rfl
theorem walkSt_in {l:List TInstr} {k:Nat} {st:List Nest} (h:walkSt l k=some st): ∀p∈st,nestIn k p:=by
 unfold walkSt at h
 cases hw:walkG (fun _ _ _ _=>()) () l k with
 |none=>rw[hw] at h;cases h
 |some x=>
  obtain⟨st',u⟩:=x
  rw[hw] at h
  obtain rfl:=Option.some.inj h
  exact(walkG_in hw).1
theorem stepF_cases {l:List TInstr} {st st':List Nest} {k:Nat} {op d:Int} {e:Nest} (h:stepF l st k op=some (st',d,e)):
 (opensB op=true∧st'=((k:Int), -1)::st∧d=st.length)∨(opensB op=false∧op≠5∧op≠11∧st'=st∧d=st.length)∨
 (∃t,op=11∧st=t::st'∧d=st'.length∧e=t)∨(∃t r,op=5∧st=t::r∧t.2= -1∧ifAt l t.1=true∧st'=(t.1,(k:Int))::r∧d=r.length):=by
 unfold stepF at h
 by_cases ho:opensB op=true
 ·simp only[ho,if_true,Option.some.injEq,Prod.mk.injEq] at h
  exact .inl ⟨ho,h.1.symm,h.2.1.symm⟩
 ·simp only[ho,if_false,Bool.false_eq_true] at h
  have ho':opensB op=false:=by simpa using ho
  by_cases h5:op≠5∧op≠11
  ·rw[if_pos h5] at h
   simp only[Option.some.injEq,Prod.mk.injEq] at h
   exact .inr (.inl ⟨ho',h5.1,h5.2,h.1.symm,h.2.1.symm⟩)
  ·rw[if_neg h5] at h
   cases st with
   |nil=>cases h
   |cons t r=>
    simp only at h
    by_cases h11:op=11
    ·rw[if_pos h11] at h
     simp only[Option.some.injEq,Prod.mk.injEq] at h
     obtain⟨rfl,rfl,rfl⟩:=h
     exact .inr (.inr (.inl ⟨_,h11,rfl,rfl,rfl⟩))
    ·rw[if_neg h11] at h
     by_cases hh:t.2= -1∧ifAt l t.1=true
     ·rw[if_pos hh] at h
      simp only[Option.some.injEq,Prod.mk.injEq] at h
      obtain⟨rfl,rfl,rfl⟩:=h
      exact .inr (.inr (.inr ⟨_,r,by omega,rfl,hh.1,hh.2,rfl,rfl⟩))
     ·rw[if_neg hh] at h;cases h
structure WInv (l:List TInstr) (k:Nat) (st M:List Nest):Prop where
 len:M.length=l.length
 op: ∀p∈st,opensB (opAt l p.1.toNat)=true∧(p.2= -1∨opAt l p.2.toNat=5)
 all: ∀j,j<k→opensB (opAt l j)=true→∀base,walkSt l j=some base→
  ((∃inner o,st=inner++((j:Int),o)::base∧elseIs l j base k o∧∀m,j<m→m≤k→inBlk l j base m)∨((∀p∈st,p.1≠j)∧Shut l M j base k))
theorem elseIs.up {l:List TInstr} {j k:Nat} {base:List Nest} {o:Int} (h:elseIs l j base k o) (hk:opAt l k≠5∨∀o',walkSt l k≠some (((j:Int),o')::base)):elseIs l j base (k+1) o:=by
 refine⟨h.1.imp id (fun⟨m,h1,h2,h3,h4⟩=>⟨m,h1,h2,by omega,h4⟩),fun m h1 h2 h3 o' h4=> ?_⟩
 by_cases e:m=k
 ·subst e
  exact absurd h4 (hk.elim (fun q=>absurd h3 q) (fun q=>q o'))
 ·exact h.2 m h1 (by omega) h3 o' h4
theorem Shut.up {l:List TInstr} {M M':List Nest} {j k:Nat} {base:List Nest} (h:Shut l M j base k) (hM:M'.getD j n0=M.getD j n0):Shut l M' j base (k+1):=by
 obtain⟨e,o,h1,h2,h3,h4,h5,h6⟩:=h.ex
 exact⟨e,o,h1,by omega,h3,h4,by rw[hM];exact h5,h6⟩
theorem winv (l:List TInstr): ∀(k:Nat),k≤l.length→∀st M,walkG (tellM l) (List.replicate l.length (-1, -1)) l k=some (st,M)→WInv l k st M
 |0,_,st,M,h=>by
  simp only[walkG,Option.some.injEq,Prod.mk.injEq] at h
  obtain⟨rfl,rfl⟩:=h
  exact⟨by simp,fun p hp=>by simp at hp,fun j hj=>by omega⟩
 |k+1,hk,st',M',h=>by
  have h0:=h
  simp only[walkG] at h
  split at h
  ·cases h
  ·rename_i st M hw
   split at h
   ·cases h
   ·rename_i st1 d e h1
    simp only[Option.some.injEq,Prod.mk.injEq] at h
    obtain⟨rfl,hM'⟩:=h
    have I:=winv l k (by omega) st M hw
    have hst:=walkSt_of hw
    have hst':=walkSt_of h0
    have hin:=(walkG_in hw).1
    have hlen:M'.length=l.length:=by rw[←hM',tellM_length];exact I.len
    have hkeep: ∀j,opensB (opAt l j)=true→(∀p∈st,p.1≠j)→M'.getD j n0=M.getD j n0:=fun j hj hp=>by
     rw[←hM']
     unfold tellM
     split
     ·rename_i h11
      rcases stepF_cases h1 with⟨q,_⟩|⟨_,_,q,_⟩|⟨t,_,rfl,_,rfl⟩|⟨t,r,q,_⟩
      ·rw[h11] at q;cases q
      ·exact absurd h11 q
      ·have ha:=hp e (by simp)
       have hb:=(I.op e (by simp)).2
       have hin':=hin e (by simp)
       unfold nestIn at hin'
       have na:e.1.toNat≠j:=by omega
       split
       ·simp only[List.getD_eq_getElem?_getD,List.getElem?_set_ne na]
       ·rename_i hne
        have hb':=hb.resolve_left hne
        have nb:e.2.toNat≠j:=fun q=>by rw[q] at hb';unfold opAt at hb' hj;rw[hb'] at hj;cases hj
        simp only[List.getD_eq_getElem?_getD,List.getElem?_set_ne nb,List.getElem?_set_ne na]
      ·omega
     ·rfl
    refine⟨hlen, ?_,fun j hj hjo base hb=> ?_⟩
    ·rcases stepF_cases h1 with⟨q,rfl,_⟩|⟨_,_,_,rfl,_⟩|⟨t,_,rfl,_,_⟩|⟨t,r,q,rfl,_,_,rfl,_⟩
     ·intro p hp
      rcases List.mem_cons.1 hp with rfl|hp
      ·exact⟨by show opensB (opAt l ((k:Int)).toNat)=true;rw[Int.toNat_natCast];exact q, .inl rfl⟩
      ·exact I.op p hp
     ·exact I.op
     ·exact fun p hp=>I.op p (by simp[hp])
     ·intro p hp
      rcases List.mem_cons.1 hp with rfl|hp
      ·exact⟨(I.op t (by simp)).1, .inr (by show opAt l ((k:Int)).toNat=5;rw[Int.toNat_natCast];exact q)⟩
      ·exact I.op p (by simp[hp])
    ·by_cases ej:j=k
     ·
      subst ej
      obtain rfl:=Option.some.inj (hst.symm.trans hb)
      left
      rcases stepF_cases h1 with⟨q,rfl,_⟩|⟨q,_⟩|⟨t,q,_⟩|⟨t,r,q,_⟩
      ·refine⟨[], -1,rfl,⟨.inl rfl,fun m h1 h2=>by omega⟩,fun m h1 h2=> ?_⟩
       obtain rfl:m=j+1:=by omega
       exact⟨[], -1,hst'⟩
      ·rw[q] at hjo;cases hjo
      ·unfold opAt at hjo;rw[q] at hjo;cases hjo
      ·unfold opAt at hjo;rw[q] at hjo;cases hjo
     ·rcases I.all j (by omega) hjo base hb with⟨inner,o,rfl,he,hbl⟩|⟨hno,hsh⟩
      ·have hbl': ∀{inner':List Nest} {o':Int},st1=inner'++((j:Int),o')::base→∀m,j<m→m≤k+1→inBlk l j base m:=fun{inner' o'} e m h1 h2=>by
        by_cases em:m=k+1
        ·subst em;exact⟨inner',o',by rw[hst',e]⟩
        ·exact hbl m h1 (by omega)
       rcases stepF_cases h1 with⟨q,rfl,_⟩|⟨_,q5,_,rfl,_⟩|⟨t,q11,hs,_,he'⟩|⟨t,r,q5,hs,ht2,hif,rfl,_⟩
       ·exact .inl ⟨((k:Int), -1)::inner,o,rfl,he.up (.inl (fun e=>by unfold opAt at e;rw[e] at q;cases q)),hbl' (inner':=((k:Int), -1)::inner) rfl⟩
       ·exact .inl ⟨inner,o,rfl,he.up (.inl q5),hbl' rfl⟩
       ·cases inner with
        |nil=>
         simp only[List.nil_append,List.cons.injEq] at hs
         obtain⟨rfl,rfl⟩:=hs
         right
         have hbi:=walkSt_in hb
         refine⟨fun p hp=>by have:=hbi p hp;unfold nestIn at this;omega,⟨k,o,by omega,by omega,q11,hst, ?_,he,fun m h1 h2=>hbl m h1 (by omega)⟩⟩
         have hjl:j<M.length:=by rw[I.len];omega
         rw[←hM',he']
         unfold tellM
         have q11':(l.getD k in0).op=11:=q11
         rw[if_pos q11']
         have hget:(M.set j (o,(k:Int))).getD j n0=(o,(k:Int)):=by simp[List.getD_eq_getElem?_getD,hjl]
         split
         ·simpa using hget
         ·rename_i hne
          have hb5:=(I.op ((j:Int),o) (by simp)).2.resolve_left hne
          have nb:o.toNat≠j:=fun e=>by simp only at hb5;rw[e] at hb5;unfold opAt at hb5 hjo;rw[hb5] at hjo;cases hjo
          rw[List.getD_eq_getElem?_getD,List.getElem?_set_ne nb,←List.getD_eq_getElem?_getD]
          simpa using hget
        |cons t' inner=>
         simp only[List.cons_append,List.cons.injEq] at hs
         obtain⟨rfl,rfl⟩:=hs
         refine .inl ⟨inner,o,rfl,he.up (.inl (fun e=>by unfold opAt at e;omega)),hbl' rfl⟩
       ·cases inner with
        |nil=>
         simp only[List.nil_append,List.cons.injEq] at hs
         obtain⟨rfl,rfl⟩:=hs
         refine .inl ⟨[],(k:Int),rfl,⟨.inr ⟨k,rfl,by omega,by omega,q5, ?_,o,hst⟩,fun m h1 h2 h3 o' h4=> ?_⟩,hbl' (inner':=[]) rfl⟩
         ·unfold ifAt at hif
          have hd:(l.getD ((j:Int)).toNat in0).op=4:=of_decide_eq_true hif
          rw[Int.toNat_natCast] at hd
          exact hd
         ·by_cases em:m=k
          ·rw[em]
          ·have:=he.2 m h1 (by omega) h3 o' h4
           simp only at ht2
           omega
        |cons t' inner=>
         simp only[List.cons_append,List.cons.injEq] at hs
         obtain⟨rfl,rfl⟩:=hs
         refine .inl ⟨(t'.1,(k:Int))::inner,o,rfl,he.up (.inr (fun o' e=> ?_)),hbl' (inner':=(t'.1,(k:Int))::inner) rfl⟩
         rw[hst] at e
         have:=congrArg List.length (Option.some.inj e)
         simp at this
         omega
      ·right
       refine⟨?_,hsh.up (hkeep j hjo hno)⟩
       rcases stepF_cases h1 with⟨q,rfl,_⟩|⟨_,_,_,rfl,_⟩|⟨t,_,rfl,_,_⟩|⟨t,r,q,rfl,_,_,rfl,_⟩
       ·intro p hp
        rcases List.mem_cons.1 hp with rfl|hp
        ·simp;omega
        ·exact hno p hp
       ·exact hno
       ·exact fun p hp=>hno p (by simp[hp])
       ·intro p hp
        rcases List.mem_cons.1 hp with rfl|hp
        ·exact hno t (by simp)
        ·exact hno p (by simp[hp])
theorem all_shut {l:List TInstr} (h:walkOk l=true) {j:Nat} (hj:j<l.length) (ho:opensB (opAt l j)=true) {base:List Nest} (hb:walkSt l j=some base):Shut l (matchesF l) j base l.length:=by
 obtain⟨M,hM⟩:=walk_some (tellM l) (List.replicate l.length (-1, -1)) h
 have hmf:matchesF l=M:=by simp[matchesF,hM]
 rw[hmf]
 rcases(winv l l.length (Nat.le_refl _) [] M hM).all j hj ho base hb with⟨inner,o,e,_⟩|⟨_,hs⟩
 ·have:=congrArg List.length e;simp at this
 ·exact hs
theorem walkSt_ok {l:List TInstr} (h:walkOk l=true) {k:Nat} (hk:k≤l.length): ∃st,walkSt l k=some st:=by
 cases hw:walkG (fun _ _ _ _=>()) () l k with
 |none=>
  have:=walkG_none hw l.length hk
  rw[walkOk_none this] at h;cases h
 |some x=>exact⟨x.1,by unfold walkSt;rw[hw];rfl⟩
end Go.Proofs.YtfpioigggjnffaaGreatDoor.E
set_option autoImplicit false
namespace Go.Proofs.YtfpioigggjnffaaGreatDoor.E
open Go.Ev
theorem walkSt_step {l:List TInstr} {k:Nat} {st st':List Nest} (h:walkSt l k=some st) (h':walkSt l (k+1)=some st'): ∃d e,stepF l st k (opAt l k)=some (st',d,e):=by
 rw[walkSt_succ h] at h'
 cases hs:stepF l st k (opAt l k) with
 |none=>rw[hs] at h';cases h'
 |some x=>
  obtain⟨s,d,e⟩:=x
  rw[hs] at h'
  obtain rfl:=Option.some.inj h'
  exact⟨d,e,rfl⟩
theorem walkSt_back {l:List TInstr} {k:Nat} {st':List Nest} (h':walkSt l (k+1)=some st'): ∃st,walkSt l k=some st:=by
 cases hw:walkSt l k with
 |some st=>exact⟨st,rfl⟩
 |none=>
  unfold walkSt at hw h'
  cases hg:walkG (fun _ _ _ _=>()) () l k with
  |some x=>rw[hg] at hw;cases hw
  |none=>
   have:=walkG_none hg (k+1) (by omega)
   rw[this] at h';cases h'
theorem walkSt_sorted {l:List TInstr}: ∀{k:Nat} {st:List Nest},walkSt l k=some st→st.Pairwise (fun p q=>q.1<p.1)
 |0,st,h=>by
  obtain rfl:[]=st:=by simpa[walkSt,walkG] using h
  exact .nil
 |k+1,st',h=>by
  obtain⟨st,h0⟩:=walkSt_back h
  have ih:=walkSt_sorted h0
  have hin:=walkSt_in h0
  obtain⟨d,e,hs⟩:=walkSt_step h0 h
  rcases stepF_cases hs with⟨_,rfl,_⟩|⟨_,_,_,rfl,_⟩|⟨t,_,rfl,_,_⟩|⟨t,r,_,rfl,_,_,rfl,_⟩
  ·exact .cons (fun p hp=>by have:=hin p hp;unfold nestIn at this;show p.1<(k:Int);omega) ih
  ·exact ih
  ·exact(List.pairwise_cons.1 ih).2
  ·exact .cons (List.pairwise_cons.1 ih).1 (List.pairwise_cons.1 ih).2
def pick (l:List TInstr) (M:List Nest):List Nest→Int→Int×Bool
 |[],left=>if 0<left then(0,false) else(l.length,true)
 |p::r,left=>if 0<left then pick l M r (left-1) else if opAt l p.1.toNat=3 then(p.1,true) else((M.getD p.1.toNat n0).2,true)
end Go.Proofs.YtfpioigggjnffaaGreatDoor.E
set_option autoImplicit false
set_option maxRecDepth 100000
set_option maxHeartbeats 40000000
set_option pp.maxSteps 20000
namespace Go.Proofs.YtfpioigggjnffaaGreatDoor.E
open Go.Ev
theorem rOpens_ev (fu n:Nat) (i:TInstr):evF (G fu) (n+1) 127 [.d i.d] []=some (.d (.bool (opensB i.op)),[]):=by
 simp only[TInstr.d]
 rw[evF.eq_2,evX.eq_def,Gext,exts_no _ (f:=127) (by decide),GP,Tryz.func127];simp only[Tryz.f127,evB]
 by_cases h1:2≤i.op<;>by_cases h2:i.op≤4<;>simp only[go_sem,Nat.reduceAdd,Nat.reduceMul,Nat.reduceSub,Nat.reduceLT,Nat.reduceLeDiff,Nat.reduceEqDiff,Nat.reduceBEq,Nat.reduceBeqDiff,Int.reduceEq,Int.reduceLT,Int.reduceLE,Int.reduceToNat,Int.reduceNeg,Int.reduceAdd,Int.reduceSub,Int.reduceMul,reduceIte,reduceCtorEq,Nat.reducePow,Nat.reduceDiv,Nat.reduceMod,Int.reduceBEq,opensB,h1,h2]
def endGo (f:Nat→Int) (a:Nat):Nat→Nat→Int→Int→Int×Int
 |0,_,_,_=>(-1, -1)
 |j+1,k,deep,other=>
  if opensB (f k) then endGo f a j (k+1) (deep+1) other
  else if f k=5∧deep=0 then(if 0≤other∨f a≠4 then(-1, -1) else endGo f a j (k+1) deep k)
  else if f k=11∧deep=0 then(k,other)
  else if f k=11 then endGo f a j (k+1) (deep-1) other
  else endGo f a j (k+1) deep other
def endF (l:List TInstr) (a:Nat):Int×Int:=endGo (opAt l) a (l.length-(a+1)) (a+1) 0 (-1)
section
variable {f:Nat→Int} {a j k:Nat} {deep other:Int}
theorem endGo_open (h:opensB (f k)=true):endGo f a (j+1) k deep other=endGo f a j (k+1) (deep+1) other:=by rw[endGo,if_pos h]
theorem endGo_twice (h:f k=5) (hd:deep=0) (h2:0≤other∨f a≠4):endGo f a (j+1) k deep other=(-1, -1):=by rw[endGo,if_neg (by rw[h];decide),if_pos ⟨h,hd⟩,if_pos h2]
theorem endGo_else (h:f k=5) (hd:deep=0) (h2: ¬0≤other) (h3:f a=4):endGo f a (j+1) k deep other=endGo f a j (k+1) deep k:=by rw[endGo,if_neg (by rw[h];decide),if_pos ⟨h,hd⟩,if_neg (by omega)]
theorem endGo_else2 (h:f k=5) (hd: ¬deep=0):endGo f a (j+1) k deep other=endGo f a j (k+1) deep other:=by rw[endGo,if_neg (by rw[h];decide),if_neg (by omega),if_neg (by omega),if_neg (by omega)]
theorem endGo_end (h:f k=11) (hd:deep=0):endGo f a (j+1) k deep other=(↑k,other):=by rw[endGo,if_neg (by rw[h];decide),if_neg (by omega),if_pos ⟨h,hd⟩]
theorem endGo_end2 (h:f k=11) (hd: ¬deep=0):endGo f a (j+1) k deep other=endGo f a j (k+1) (deep-1) other:=by rw[endGo,if_neg (by rw[h];decide),if_neg (by omega),if_neg (by omega),if_pos h]
theorem endGo_plain (h:opensB (f k)=false) (h5: ¬f k=5) (h11: ¬f k=11):endGo f a (j+1) k deep other=endGo f a j (k+1) deep other:=by rw[endGo,if_neg (by rw[h];decide),if_neg (by omega),if_neg (by omega),if_neg h11]
end
def endSt (L:List D) (a k:Nat) (deep other:Int):St:=⟨[(0, .d (.list L)),(1, .d (.int .i64 a)),(6, .d (.int .i64 deep)),(7, .d (.int .i64 other)),(8, .d (.int .i64 k))],[]⟩
def endJ (r:Int×Int) (y:Ex) (s:St):Prop:=(y= .exit 0∧r=(-1, -1)∧s=⟨[],[]⟩)∨(y= .ret∧s=⟨[(4, .d (.int .i64 r.1)),(5, .d (.int .i64 r.2))],[]⟩)
structure EndS where
 j:Nat
 k:Nat
 deep:Int
 other:Int
theorem rEnd_ev (fu n:Nat) (l:List TInstr) (a:Nat) (ha:a<l.length) (hf:l.length<fu) (hs:l.length<100000):
 evF (G fu) (n+2) 128 [.d (.list (l.map TInstr.d)), .d (.int .i64 a)] []=some (.tup [.d (.int .i64 (endF l a).1), .d (.int .i64 (endF l a).2)],[]):=by
 have W0:=wrap_i64 (show-9223372036854775808≤(a:Int)+1 by omega) (by omega)
 have haI:(a:Int)<l.length:=by omega
 have hga:(l.map TInstr.d)[a]? =some (l.getD a in0).d:=getD_map ha
 obtain⟨f,hfn⟩: ∃f,f=opAt l:=⟨_,rfl⟩
 have hfa:(l.getD a in0).op=f a:=by rw[hfn]
 unfold endF
 rw[←hfn]
 rw[evF.eq_2,evX.eq_def,Gext,exts_no _ (f:=128) (by decide),GP,Tryz.func128];simp only[Tryz.f128,evB]
 simp only[go_sem,Nat.reduceAdd,Nat.reduceMul,Nat.reduceSub,Nat.reduceLT,Nat.reduceLeDiff,Nat.reduceEqDiff,Nat.reduceBEq,Nat.reduceBeqDiff,Int.reduceEq,Int.reduceLT,Int.reduceLE,Int.reduceToNat,Int.reduceNeg,Int.reduceAdd,Int.reduceSub,Int.reduceMul,reduceIte,reduceCtorEq,Nat.reducePow,Nat.reduceDiv,Nat.reduceMod,Int.reduceBEq,W0]
 generalize hr:loopN _ _ _ _ _=r
 obtain⟨y,s1,rfl,hy,hJ⟩: ∃y s1,r=some (y,s1)∧leaves y∧endJ (endGo f a (l.length-(a+1)) (a+1) 0 (-1)) y s1:=by
  rw[←hr]
  clear hr r
  refine loop_rel (σ:=EndS) (fun e s=>e.k+e.j=l.length∧ -(e.k:Int)≤e.deep∧e.deep≤e.k∧s=endSt (l.map TInstr.d) a e.k e.deep e.other)
   (fun e y s1=>endJ (endGo f a e.j e.k e.deep e.other) y s1) (fun e=>e.j) ?_ fu ⟨l.length-(a+1),a+1,0, -1⟩ _ (by show l.length-(a+1)<fu;omega) ⟨by show a+1+(l.length-(a+1))=_;omega,by show-((a+1:Nat):Int)≤0;omega,by show(0:Int)≤((a+1:Nat):Int);omega,rfl⟩
  rintro⟨j,k,deep,other⟩ s ⟨h1,h2,h3,rfl⟩
  simp only at h1 h2 h3
  unfold endSt
  cases j with
  |zero=>
   have hk: ¬(k:Int)<l.length:=by omega
   simp only[go_sem,Nat.reduceAdd,Nat.reduceMul,Nat.reduceSub,Nat.reduceLT,Nat.reduceLeDiff,Nat.reduceEqDiff,Nat.reduceBEq,Nat.reduceBeqDiff,Int.reduceEq,Int.reduceLT,Int.reduceLE,Int.reduceToNat,Int.reduceNeg,Int.reduceAdd,Int.reduceSub,Int.reduceMul,reduceIte,reduceCtorEq,Nat.reducePow,Nat.reduceDiv,Nat.reduceMod,Int.reduceBEq,List.length_map,hk]
   exact⟨_,_,rfl, .inl ⟨rfl,rfl,rfl⟩⟩
  |succ j=>
   have hkl:k<l.length:=by omega
   have hk:(k:Int)<l.length:=by omega
   have hg:(l.map TInstr.d)[k]? =some (l.getD k in0).d:=getD_map hkl
   have q:=rOpens_ev fu n (l.getD k in0)
   have hfk:(l.getD k in0).op=f k:=by rw[hfn]
   have Wk:=wrap_i64 (show-9223372036854775808≤(k:Int)+1 by omega) (by omega)
   have W1:=wrap_i64 (show-9223372036854775808≤deep+1 by omega) (by omega)
   have W2:=wrap_i64 (show-9223372036854775808≤deep-1 by omega) (by omega)
   have go: ∀(d' o':Int) (he:endGo f a (j+1) k deep other=endGo f a j (k+1) d' o') (hd0: -((k+1:Nat):Int)≤d') (hd1:d'≤((k+1:Nat):Int)),∃x s1,some (Ex.normal,endSt (l.map TInstr.d) a (k+1) d' o')=some (x,s1)∧match x with
    | .normal=> ∃e':EndS,(e'.k+e'.j=l.length∧ -(e'.k:Int)≤e'.deep∧e'.deep≤e'.k∧s1=endSt (l.map TInstr.d) a e'.k e'.deep e'.other)∧e'.j<j+1∧∀(y:Ex) (s:St),endJ (endGo f a e'.j e'.k e'.deep e'.other) y s→endJ (endGo f a (j+1) k deep other) y s
    |x=>endJ (endGo f a (j+1) k deep other) x s1:=
    fun d' o' he hd0 hd1=>⟨.normal,_,rfl,⟨j,k+1,d',o'⟩,⟨by show k+1+j=_;omega,hd0,hd1,rfl⟩,by show j<j+1;omega,fun y s h=>by rw[he];exact h⟩
   have bad: ∀(r1 r2:Int) (he:endGo f a (j+1) k deep other=(r1,r2)),∃x s1,some (Ex.ret,(⟨[(4, .d (.int .i64 r1)),(5, .d (.int .i64 r2))],[]⟩:St))=some (x,s1)∧match x with
    | .normal=> ∃e':EndS,(e'.k+e'.j=l.length∧ -(e'.k:Int)≤e'.deep∧e'.deep≤e'.k∧s1=endSt (l.map TInstr.d) a e'.k e'.deep e'.other)∧e'.j<j+1∧∀(y:Ex) (s:St),endJ (endGo f a e'.j e'.k e'.deep e'.other) y s→endJ (endGo f a (j+1) k deep other) y s
    |x=>endJ (endGo f a (j+1) k deep other) x s1:=
    fun r1 r2 he=>⟨.ret,_,rfl, .inr ⟨rfl,by rw[he]⟩⟩
   unfold endSt at go
   simp only[TInstr.d] at q hg hga
   rw[hfk] at q hg
   rw[hfa] at hga
   generalize hop:f k=op at*
   generalize hoa:f a=oa at*
   by_cases c0:opensB op=true
   ·rw[c0] at q
    simp only[go_sem,Nat.reduceAdd,Nat.reduceMul,Nat.reduceSub,Nat.reduceLT,Nat.reduceLeDiff,Nat.reduceEqDiff,Nat.reduceBEq,Nat.reduceBeqDiff,Int.reduceEq,Int.reduceLT,Int.reduceLE,Int.reduceToNat,Int.reduceNeg,Int.reduceAdd,Int.reduceSub,Int.reduceMul,reduceIte,reduceCtorEq,Nat.reducePow,Nat.reduceDiv,Nat.reduceMod,Int.reduceBEq,List.length_map,hk,idx,hg,q,Wk,W1]
    exact go _ _ (endGo_open (by rw[hop];exact c0)) (by omega) (by omega)
   ·have c0':opensB op=false:=by simpa using c0
    rw[c0'] at q
    by_cases c5:op=5
    ·subst c5
     by_cases d0:deep=0
     ·subst d0
      by_cases o0:0≤other
      ·simp only[go_sem,Nat.reduceAdd,Nat.reduceMul,Nat.reduceSub,Nat.reduceLT,Nat.reduceLeDiff,Nat.reduceEqDiff,Nat.reduceBEq,Nat.reduceBeqDiff,Int.reduceEq,Int.reduceLT,Int.reduceLE,Int.reduceToNat,Int.reduceNeg,Int.reduceAdd,Int.reduceSub,Int.reduceMul,reduceIte,reduceCtorEq,Nat.reducePow,Nat.reduceDiv,Nat.reduceMod,Int.reduceBEq,List.length_map,hk,haI,idx,hg,hga,q,o0]
       exact bad _ _ (endGo_twice hop rfl (.inl o0))
      ·by_cases a4:oa=4
       ·subst a4
        simp only[go_sem,Nat.reduceAdd,Nat.reduceMul,Nat.reduceSub,Nat.reduceLT,Nat.reduceLeDiff,Nat.reduceEqDiff,Nat.reduceBEq,Nat.reduceBeqDiff,Int.reduceEq,Int.reduceLT,Int.reduceLE,Int.reduceToNat,Int.reduceNeg,Int.reduceAdd,Int.reduceSub,Int.reduceMul,reduceIte,reduceCtorEq,Nat.reducePow,Nat.reduceDiv,Nat.reduceMod,Int.reduceBEq,List.length_map,hk,haI,idx,hg,hga,q,o0,Wk]
        exact go _ _ (endGo_else hop rfl o0 hoa) (by omega) (by omega)
       ·simp only[go_sem,Nat.reduceAdd,Nat.reduceMul,Nat.reduceSub,Nat.reduceLT,Nat.reduceLeDiff,Nat.reduceEqDiff,Nat.reduceBEq,Nat.reduceBeqDiff,Int.reduceEq,Int.reduceLT,Int.reduceLE,Int.reduceToNat,Int.reduceNeg,Int.reduceAdd,Int.reduceSub,Int.reduceMul,reduceIte,reduceCtorEq,Nat.reducePow,Nat.reduceDiv,Nat.reduceMod,Int.reduceBEq,List.length_map,hk,haI,idx,hg,hga,q,o0,a4]
        exact bad _ _ (endGo_twice hop rfl (.inr (by rw[hoa];exact a4)))
     ·simp only[go_sem,Nat.reduceAdd,Nat.reduceMul,Nat.reduceSub,Nat.reduceLT,Nat.reduceLeDiff,Nat.reduceEqDiff,Nat.reduceBEq,Nat.reduceBeqDiff,Int.reduceEq,Int.reduceLT,Int.reduceLE,Int.reduceToNat,Int.reduceNeg,Int.reduceAdd,Int.reduceSub,Int.reduceMul,reduceIte,reduceCtorEq,Nat.reducePow,Nat.reduceDiv,Nat.reduceMod,Int.reduceBEq,List.length_map,hk,haI,idx,hg,hga,q,d0,Wk]
      exact go _ _ (endGo_else2 hop d0) (by omega) (by omega)
    ·by_cases c11:op=11
     ·subst c11
      by_cases d0:deep=0
      ·subst d0
       simp only[go_sem,Nat.reduceAdd,Nat.reduceMul,Nat.reduceSub,Nat.reduceLT,Nat.reduceLeDiff,Nat.reduceEqDiff,Nat.reduceBEq,Nat.reduceBeqDiff,Int.reduceEq,Int.reduceLT,Int.reduceLE,Int.reduceToNat,Int.reduceNeg,Int.reduceAdd,Int.reduceSub,Int.reduceMul,reduceIte,reduceCtorEq,Nat.reducePow,Nat.reduceDiv,Nat.reduceMod,Int.reduceBEq,List.length_map,hk,haI,idx,hg,hga,q]
       exact bad _ _ (endGo_end hop rfl)
      ·simp only[go_sem,Nat.reduceAdd,Nat.reduceMul,Nat.reduceSub,Nat.reduceLT,Nat.reduceLeDiff,Nat.reduceEqDiff,Nat.reduceBEq,Nat.reduceBeqDiff,Int.reduceEq,Int.reduceLT,Int.reduceLE,Int.reduceToNat,Int.reduceNeg,Int.reduceAdd,Int.reduceSub,Int.reduceMul,reduceIte,reduceCtorEq,Nat.reducePow,Nat.reduceDiv,Nat.reduceMod,Int.reduceBEq,List.length_map,hk,haI,idx,hg,hga,q,d0,Wk,W2]
       exact go _ _ (endGo_end2 hop d0) (by omega) (by omega)
     ·simp only[go_sem,Nat.reduceAdd,Nat.reduceMul,Nat.reduceSub,Nat.reduceLT,Nat.reduceLeDiff,Nat.reduceEqDiff,Nat.reduceBEq,Nat.reduceBeqDiff,Int.reduceEq,Int.reduceLT,Int.reduceLE,Int.reduceToNat,Int.reduceNeg,Int.reduceAdd,Int.reduceSub,Int.reduceMul,reduceIte,reduceCtorEq,Nat.reducePow,Nat.reduceDiv,Nat.reduceMod,Int.reduceBEq,List.length_map,hk,haI,idx,hg,hga,q,c5,c11,Wk]
      exact go _ _ (endGo_plain (by rw[hop];exact c0') (by rw[hop];exact c5) (by rw[hop];exact c11)) (by omega) (by omega)
 generalize endGo f a (l.length-(a+1)) (a+1) 0 (-1)=r at*
 rcases hJ with⟨rfl,rfl,rfl⟩|⟨rfl,rfl⟩
 ·simp only[go_sem,Nat.reduceAdd,Nat.reduceMul,Nat.reduceSub,Nat.reduceLT,Nat.reduceLeDiff,Nat.reduceEqDiff,Nat.reduceBEq,Nat.reduceBeqDiff,Int.reduceEq,Int.reduceLT,Int.reduceLE,Int.reduceToNat,Int.reduceNeg,Int.reduceAdd,Int.reduceSub,Int.reduceMul,reduceIte,reduceCtorEq,Nat.reducePow,Nat.reduceDiv,Nat.reduceMod,Int.reduceBEq]
 ·simp only[go_sem,Nat.reduceAdd,Nat.reduceMul,Nat.reduceSub,Nat.reduceLT,Nat.reduceLeDiff,Nat.reduceEqDiff,Nat.reduceBEq,Nat.reduceBeqDiff,Int.reduceEq,Int.reduceLT,Int.reduceLE,Int.reduceToNat,Int.reduceNeg,Int.reduceAdd,Int.reduceSub,Int.reduceMul,reduceIte,reduceCtorEq,Nat.reducePow,Nat.reduceDiv,Nat.reduceMod,Int.reduceBEq]
end Go.Proofs.YtfpioigggjnffaaGreatDoor.E
