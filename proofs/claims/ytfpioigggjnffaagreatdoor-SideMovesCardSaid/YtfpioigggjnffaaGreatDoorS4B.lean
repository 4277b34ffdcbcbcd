/- S4B, S9, K1, K2. -/
import Derived.Test.YtfpioigggjnffaaGreatDoorZ2
import Derived.Test.YtfpioigggjnffaaGreatDoorS7a
import Derived.Test.YtfpioigggjnffaaGreatDoorEvD
import Derived.KernelRfl
set_option linter.unnecessarySimpa false
set_option linter.unusedSimpArgs false
set_option linter.unusedVariables false
set_option autoImplicit false
set_option maxRecDepth 100000
namespace Go.Proofs.YtfpioigggjnffaaGreatDoor.E
open Go.Ev
structure Sd (fu:Nat) (m:Mk):Prop where
 c: ∀s∈m.P,0<s.ctrls.length∧∀c∈s.ctrls,0≤c.ht∧c.ht≤1000000∧c.fin.length≤1
 b: ∀k,k<m.l.length→((m.l.getD k in0).op=12∨(m.l.getD k in0).op=13∨(m.l.getD k in0).op=14)→(0≤(m.l.getD k in0).a∧(m.l.getD k in0).a<(m.P.getD k stk0).ctrls.length)∧∀x∈(m.l.getD k in0).labels,0≤x∧x<(m.P.getD k stk0).ctrls.length
 lb: ∀i∈m.l,i.labels.length≤64
 big:70<fu
theorem stepJ_none {l:List TInstr} {S:List Int} {P:List Stk} {k:Nat} (h4: ¬(l.getD k in0).op=4) (h5: ¬(l.getD k in0).op=5) (h12: ¬(l.getD k in0).op=12) (h13: ¬(l.getD k in0).op=13) (h14: ¬(l.getD k in0).op=14):stepJ l S P k=[]:=by
 unfold stepJ
 simp only
 rw[if_neg h4,if_neg h5,if_neg (by omega),if_neg h14]
theorem stepJ_le {l:List TInstr} {S:List Int} {P:List Stk} {k:Nat} (hl:(l.getD k in0).labels.length≤64):(stepJ l S P k).length≤65:=by
 unfold stepJ
 simp only
 split
 ·simp
 ·split
  ·simp
  ·split
   ·simp
   ·split
    ·rw[List.length_append,List.length_map];simp only[List.length_cons,List.length_nil];omega
    ·simp
theorem stepJ_some {l:List TInstr} {S:List Int} {P:List Stk} {k:Nat} (h:(l.getD k in0).op=4∨(l.getD k in0).op=5∨(l.getD k in0).op=12∨(l.getD k in0).op=13∨(l.getD k in0).op=14):stepJ l S P k≠[]:=by
 unfold stepJ
 simp only
 split
 ·simp
 ·split
  ·simp
  ·split
   ·simp
   ·split
    ·simp
    ·omega
end Go.Proofs.YtfpioigggjnffaaGreatDoor.E
set_option autoImplicit false
set_option maxRecDepth 100000
set_option maxHeartbeats 4000000
namespace Go.Proofs.YtfpioigggjnffaaGreatDoor.E
open Go.Ev
inductive StepR (fu n:Nat) (m:Mk) (J:Option (List Jmp)) (L:Option (List Int)) (k:Nat) (R:Option Res):Prop
 |no (h1:stepJ m.l m.S m.P k=[]) (h2:stepL m.l m.S k=[]) (h:R=some (.tup [],m.o J L))
 |jumps (h1:stepJ m.l m.S m.P k≠[]) (h2:stepL m.l m.S k=[]) (h:R=some (.tup [],m.oJ (stepJ m.l m.S m.P k) J L))
 |loop (h1:stepJ m.l m.S m.P k=[]) (h2:stepL m.l m.S k=[at0 m.S k]) (h:R=some (.tup [],m.oL (at0 m.S k) J L))
theorem step_all (fu n:Nat) (m:Mk) (hm:MkOk fu m) (hs:Sd fu m) (J:Option (List Jmp)) (L:Option (List Int)) (k:Nat) (hk:k<m.l.length) (hj: ∀j,J=some j→j.length+100<1000000) (hl: ∀j,L=some j→j.length<1000000):
 StepR fu n m J L k (evF (G fu) (n+8) 74 [.ptr 0 0, .d (.int .i64 k), .d (m.l.getD k in0).d] (m.o J L)):=by
 have hj0: ∀j,J=some j→j.length<1000000:=fun j h=>by have:=hj j h;omega
 have hmem: ∀k,k≤m.l.length→m.P.getD k stk0∈m.P:=fun k hk=>by
  have hlt:k<m.P.length:=by rw[hm.P];omega
  rw[List.getD_eq_getElem?_getD,List.getElem?_eq_getElem hlt]
  exact List.getElem_mem hlt
 have hlm:(m.l.getD k in0).labels.length≤64:=by
  refine hs.lb _ ?_
  rw[List.getD_eq_getElem?_getD,List.getElem?_eq_getElem hk]
  exact List.getElem_mem hk
 have hbig:=hs.big
 by_cases h3:(m.l.getD k in0).op=3
 ·refine .loop (stepJ_none (by omega) (by omega) (by omega) (by omega) (by omega)) (by unfold stepL;rw[if_pos h3]) ?_
  exact step3_ev fu n m hm J L k hk _ h3 hl
 ·have hL0:stepL m.l m.S k=[]:=by unfold stepL;rw[if_neg h3]
  by_cases h4:(m.l.getD k in0).op=4
  ·exact .jumps (stepJ_some (by omega)) hL0 (step4_ev fu n m hm J L k hk h4 (hs.c _ (hmem (k+1) (by omega))).1 hj0)
  by_cases h5:(m.l.getD k in0).op=5
  ·refine .jumps (stepJ_some (by omega)) hL0 (step5_ev fu n m hm J L k hk h5 (hs.c _ (hmem k (by omega))).1 (fun c hc=> ?_) hj0)
   have:=(hs.c _ (hmem k (by omega))).2 c hc
   omega
  by_cases h12:(m.l.getD k in0).op=12∨(m.l.getD k in0).op=13
  ·obtain⟨⟨b1,b2⟩,_⟩:=hs.b k hk (by omega)
   obtain⟨x,hx⟩: ∃x:Nat,(m.l.getD k in0).a=x:=⟨(m.l.getD k in0).a.toNat,by omega⟩
   have:=step12_ev fu n m hm J L k hk _ h12 x hx (by omega) hj0
   refine .jumps (stepJ_some (by omega)) hL0 ?_
   have e:stepJ m.l m.S m.P k=[branchJ m.l m.S m.P k (m.l.getD k in0).a]:=by
    unfold stepJ
    simp only
    rw[if_neg h4,if_neg h5,if_pos h12]
   rw[e];exact this
  by_cases h14:(m.l.getD k in0).op=14
  ·obtain⟨b1,b2⟩:=hs.b k hk (by omega)
   exact .jumps (stepJ_some (by omega)) hL0 (step14_ev fu n m hm J L k hk h14 b2 b1 (by omega) (fun j h=>by have:=hj j h;omega) (by omega))
  exact .no (stepJ_none h4 h5 (by omega) (by omega) h14) hL0 (step0_ev fu n m J L k _ h3 h4 h5 (by omega) (by omega) h14)
end Go.Proofs.YtfpioigggjnffaaGreatDoor.E
set_option autoImplicit false
namespace Go.Proofs.YtfpioigggjnffaaGreatDoor.E
open Go.Ev
def Bs (l:List Int):Prop:=∀x∈l,0≤x∧x<256
theorem Bs.nil:Bs []:=fun x h=>absurd h (by simp)
theorem Bs.cons {c:Int} {l:List Int} (h:0≤c∧c<256) (hl:Bs l):Bs (c::l):=fun x hx=>by
 rcases List.mem_cons.1 hx with rfl|hx
 ·exact h
 ·exact hl x hx
theorem Bs.append {l m:List Int} (h:Bs l) (h2:Bs m):Bs (l++m):=fun x hx=>by
 rcases List.mem_append.1 hx with hx|hx
 ·exact h x hx
 ·exact h2 x hx
theorem Bs.drop {l:List Int} (h:Bs l) (n:Nat):Bs (l.drop n):=fun x hx=>h x (List.mem_of_mem_drop hx)
theorem Bs.take {l:List Int} (h:Bs l) (n:Nat):Bs (l.take n):=fun x hx=>h x (List.mem_of_mem_take hx)
theorem all256 {p:Int→Bool} (h:(List.range 256).all (fun n=>p (n:Int))=true) {c:Int} (h0:0≤c) (h1:c<256):p c=true:=by
 have:=List.all_eq_true.1 h c.toNat (by simp;omega)
 rwa [Int.toNat_of_nonneg h0] at this
theorem or128 {c:Int} (h0:0≤c) (h1:c<256):bits2 .or .u8 c 128=c%128+128:=by
 have:=all256 (p:=fun c=>bits2 .or .u8 c 128==c%128+128) (by kernel_rfl) h0 h1
 simpa using this
theorem and127 {c:Int} (h0:0≤c) (h1:c<256):bits2 .and .u8 c 127=c%128:=by
 have:=all256 (p:=fun c=>bits2 .and .u8 c 127==c%128) (by kernel_rfl) h0 h1
 simpa using this
def ulebF:Nat→Int→List Int
 |0,_=>[]
 |f+1,v=>if v≥128 then(v%128+128)::ulebF f (v / 128) else[v]
def uleb (v:Int):List Int:=ulebF 10 v
def slebF:Nat→Int→List Int
 |0,_=>[]
 |f+1,v=>if v< -64∨v≥64 then(v%128+128)::slebF f (v / 128) else[v%128]
def sleb (v:Int):List Int:=slebF 10 v
theorem ulebF_len (f:Nat): ∀v,(ulebF f v).length≤f:=by
 induction f with
 |zero=>intro v;simp[ulebF]
 |succ f ih=>
  intro v
  simp only[ulebF]
  split
  ·have:=ih (v / 128)
   simp
   omega
  ·simp
theorem slebF_len (f:Nat): ∀v,(slebF f v).length≤f:=by
 induction f with
 |zero=>intro v;simp[slebF]
 |succ f ih=>
  intro v
  simp only[slebF]
  split
  ·have:=ih (v / 128)
   simp
   omega
  ·simp
theorem ulebF_bs (f:Nat): ∀v,0≤v→Bs (ulebF f v):=by
 induction f with
 |zero=>intro v _;exact Bs.nil
 |succ f ih=>
  intro v h0
  simp only[ulebF]
  split
  ·exact Bs.cons (by omega) (ih _ (by omega))
  ·exact Bs.cons (by omega) Bs.nil
theorem slebF_bs (f:Nat): ∀v,Bs (slebF f v):=by
 induction f with
 |zero=>intro v;exact Bs.nil
 |succ f ih=>
  intro v
  simp only[slebF]
  split
  ·exact Bs.cons (by omega) (ih _)
  ·exact Bs.cons (by omega) Bs.nil
def scan:Nat→List Int→Except Int (List Int)
 |0,_=> .error 3
 |_+1,[]=> .error 2
 |f+1,c::l=>if c<128 then .ok [c] else match scan f l with
  | .error e=> .error e
  | .ok ds=> .ok (c::ds)
def val:List Int→Int
 |[]=>0
 |c::l=>c%128+128*val l
def lastB:List Int→Int
 |[]=>0
 |[c]=>c
 |_::c::l=>lastB (c::l)
theorem val_nonneg (l:List Int):0≤val l:=by
 induction l with
 |nil=>exact Int.le_refl _
 |cons c l ih=>simp only[val];omega
theorem val_lt (l:List Int):val l<128^l.length:=by
 induction l with
 |nil=>decide
 |cons c l ih=>
  simp only[val,List.length_cons,Int.pow_succ]
  omega
theorem scan_ok {f:Nat}: ∀{l ds:List Int},scan f l= .ok ds→ds≠[]∧ds.length≤f∧ds=l.take ds.length∧ds.length≤l.length∧lastB ds<128:=by
 induction f with
 |zero=>intro l ds h;simp[scan] at h
 |succ f ih=>
  intro l ds h
  cases l with
  |nil=>simp[scan] at h
  |cons c l=>
   simp only[scan] at h
   split at h
   ·injection h with h
    subst h
    exact⟨by simp,by simp,by simp,by simp,by simpa[lastB]⟩
   ·split at h
    ·cases h
    ·rename_i d e
     injection h with h
     subst h
     obtain⟨h1,h2,h3,h4,h5⟩:=ih e
     refine⟨by simp,by simp;omega, ?_,by simp;omega, ?_⟩
     ·rw[List.length_cons,List.take_succ_cons,←h3]
     ·cases d with
      |nil=>exact absurd rfl h1
      |cons c2 d=>exact h5
theorem scan_append {f:Nat}: ∀{l ds:List Int},scan f l= .ok ds→∀m,scan f (l++m)= .ok ds:=by
 induction f with
 |zero=>intro l ds h;simp[scan] at h
 |succ f ih=>
  intro l ds h m
  cases l with
  |nil=>simp[scan] at h
  |cons c l=>
   simp only[scan,List.cons_append] at h ⊢
   split at h
   ·rename_i hc;rw[if_pos hc];exact h
   ·rename_i hc
    rw[if_neg hc]
    split at h
    ·cases h
    ·rename_i d e
     rw[ih e m]
     exact h
theorem pow_mono {m n:Nat} (h:m≤n):(128:Int)^m≤128^n:=by exact_mod_cast Nat.pow_le_pow_right (by decide) h
theorem lastB_nonneg (ds:List Int) (hb:Bs ds):0≤lastB ds:=by
 induction ds with
 |nil=>exact Int.le_refl _
 |cons c l ih=>
  cases l with
  |nil=>exact(hb c (by simp)).1
  |cons d l=>exact ih (fun z hz=>hb z (List.mem_cons_of_mem _ hz))
theorem lastB_cons (c:Int) {ds:List Int} (h:ds≠[]):lastB (c::ds)=lastB ds:=by
 cases ds with
 |nil=>exact absurd rfl h
 |cons d l=>rfl
def rdU (l:List Int):Except Int (List Int):=
 match scan 5 l with
 | .error e=> .error e
 | .ok ds=>if ds.length=5∧16≤lastB ds then .error 3 else .ok ds
theorem rdU_lt {l ds:List Int} (hb:Bs l) (h:rdU l= .ok ds):val ds<4294967296:=by
 unfold rdU at h
 split at h
 ·cases h
 ·rename_i d hs
  split at h
  ·cases h
  ·rename_i hc
   injection h with h
   subst h
   obtain⟨h1,h2,h3,_,h5⟩:=scan_ok hs
   have hl0:=lastB_nonneg d (by rw[h3];exact hb.take _)
   by_cases h6:d.length=5
   ·have h7: ¬16≤lastB d:=fun h=>hc ⟨h6,h⟩
    match d,h6 with
    |[a,b,c,d,e],_=>
     simp only[lastB,val] at h7 hl0 ⊢
     omega
   ·exact Int.lt_of_lt_of_le (val_lt d) (Int.le_trans (pow_mono (n:=4) (by omega)) (by decide))
theorem rdU_scan {l ds:List Int} (h:rdU l= .ok ds):scan 5 l= .ok ds:=by
 unfold rdU at h
 split at h
 ·cases h
 ·rename_i d hs
  split at h
  ·cases h
  ·injection h with h
   rw[hs,h]
theorem scan_uleb (f:Nat): ∀(v:Int) (g:Nat),0≤v→v<128^(f+1)→(ulebF (f+1) v).length≤g→scan g (ulebF (f+1) v)= .ok (ulebF (f+1) v)∧val (ulebF (f+1) v)=v:=by
 induction f with
 |zero=>
  intro v g h0 h1 hg
  have h2:v<128:=by simpa using h1
  have e:ulebF (0+1) v=[v]:=by simp only[ulebF];rw[if_neg (by omega)]
  rw[e] at hg ⊢
  obtain⟨g,rfl⟩: ∃j,g=j+1:=⟨g-1,by simp at hg;omega⟩
  exact⟨by simp only[scan];rw[if_pos h2],by simp only[val];omega⟩
 |succ f ih=>
  intro v g h0 h1 hg
  rw[ulebF] at hg ⊢
  by_cases h2:v≥128
  ·rw[if_pos h2] at hg ⊢
   obtain⟨g,rfl⟩: ∃j,g=j+1:=⟨g-1,by simp at hg;omega⟩
   obtain⟨i1,i2⟩:=ih (v / 128) g (by omega) (by rw[Int.pow_succ] at h1;exact Int.ediv_lt_of_lt_mul (by decide) h1) (by simpa using hg)
   exact⟨by rw[scan,if_neg (by omega),i1],by rw[val,i2];omega⟩
  ·rw[if_neg h2] at hg ⊢
   obtain⟨g,rfl⟩: ∃j,g=j+1:=⟨g-1,by simp at hg;omega⟩
   exact⟨by simp only[scan];rw[if_pos (by omega)],by simp only[val];omega⟩
theorem uleb_len32 {v:Int} (h0:0≤v) (h1:v<4294967296):(uleb v).length≤5:=by
 have: ∀(f g:Nat) (v:Int),0≤v→v<128^(f+1)→f<g→(ulebF g v).length≤f+1:=by
  intro f
  induction f with
  |zero=>
   intro g v h0 h1 hg
   obtain⟨g,rfl⟩: ∃j,g=j+1:=⟨g-1,by omega⟩
   have h2:v<128:=by simpa using h1
   simp only[ulebF]
   rw[if_neg (by omega)]
   simp
  |succ f ih=>
   intro g v h0 h1 hg
   obtain⟨g,rfl⟩: ∃j,g=j+1:=⟨g-1,by omega⟩
   simp only[ulebF]
   split
   ·have:=ih g (v / 128) (by omega) (by rw[Int.pow_succ] at h1;exact Int.ediv_lt_of_lt_mul (by decide) h1) (by omega)
    simp
    omega
   ·simp
 exact this 4 10 v h0 (by omega) (by omega)
theorem last_of_val {ds:List Int} (h5:ds.length=5) (hv:val ds<4294967296) (hl:lastB ds<128):lastB ds<16:=by
 match ds,h5 with
 |[a,b,c,d,e],_=>
  simp only[lastB,val] at hv hl ⊢
  omega
theorem rdU_uleb {v:Int} (h0:0≤v) (h1:v<4294967296) (m:List Int):rdU (uleb v++m)= .ok (uleb v)∧val (uleb v)=v:=by
 obtain⟨h2,h3⟩:=scan_uleb 9 v 5 h0 (by omega) (uleb_len32 h0 h1)
 have h4:scan 5 (uleb v++m)= .ok (uleb v):=scan_append h2 m
 refine⟨?_,h3⟩
 unfold rdU
 rw[h4]
 dsimp only
 rw[if_neg (fun h=>by
  have h5:=(scan_ok h2).2.2.2.2
  have:=last_of_val (ds:=uleb v) h.1 (by have:val (uleb v)=v:=h3;omega) h5
  omega)]
theorem uleb_least (ds:List Int): ∀(f:Nat),ds≠[]→ds.length≤f→(ulebF f (val ds)).length≤ds.length:=by
 induction ds with
 |nil=>intro f h;exact absurd rfl h
 |cons c l ih=>
  intro f _ hf
  obtain⟨f,rfl⟩: ∃j,f=j+1:=⟨f-1,by simp at hf;omega⟩
  have h0:=val_nonneg l
  rw[show val (c::l)=c%128+128*val l from rfl,ulebF]
  by_cases h:c%128+128*val l≥128
  ·rw[if_pos h]
   have e:(c%128+128*val l) / 128=val l:=by omega
   rw[e]
   have hl:l≠[]:=by
    rintro rfl
    simp only[val] at h
    omega
   have:=ih f hl (by simpa using hf)
   simpa using this
  ·rw[if_neg h]
   simp
end Go.Proofs.YtfpioigggjnffaaGreatDoor.E
set_option autoImplicit false
namespace Go.Proofs.YtfpioigggjnffaaGreatDoor.E
open Go.Ev
def sval:List Int→Int
 |[]=>0
 |[c]=>if c%128<64 then c%128 else c%128-128
 |c::d::l=>c%128+128*sval (d::l)
theorem sval_cons (c:Int) {l:List Int} (h:l≠[]):sval (c::l)=c%128+128*sval l:=by
 cases l with
 |nil=>exact absurd rfl h
 |cons d l=>rfl
theorem sval_val (ds:List Int) (h:ds≠[]):sval ds=if lastB ds%128<64 then val ds else val ds-128^ds.length:=by
 induction ds with
 |nil=>exact absurd rfl h
 |cons c l ih=>
  cases l with
  |nil=>
   have e1:sval [c]=if c%128<64 then c%128 else c%128-128:=rfl
   have e2:lastB [c]=c:=rfl
   have e3:val [c]=c%128+128*0:=rfl
   rw[e1,e2,e3]
   split<;>simp
  |cons d l=>
   have hne:d::l≠[]:=by simp
   rw[sval_cons c hne,lastB_cons c hne,ih hne,show val (c::d::l)=c%128+128*val (d::l) from rfl,show(c::d::l).length=(d::l).length+1 from rfl,Int.pow_succ]
   generalize(128:Int)^(d::l).length=P
   split<;>omega
theorem pow128 (n:Nat):(2:Int)^(7*n)=128^n:=by
 rw[Int.pow_mul]
 rfl
theorem val_high (ds:List Int) (h:ds≠[]) (hs: ¬lastB ds%128<64):64*128^(ds.length-1)≤val ds:=by
 induction ds with
 |nil=>exact absurd rfl h
 |cons c l ih=>
  cases l with
  |nil=>
   have e2:lastB [c]=c:=rfl
   have e3:val [c]=c%128+128*0:=rfl
   rw[e2] at hs
   rw[e3]
   simp
   omega
  |cons d l=>
   have hne:d::l≠[]:=by simp
   rw[lastB_cons c hne] at hs
   have:=ih hne hs
   rw[show val (c::d::l)=c%128+128*val (d::l) from rfl]
   have e:(c::d::l).length-1=(d::l).length-1+1:=by simp
   rw[e,Int.pow_succ]
   generalize(128:Int)^((d::l).length-1)=P at*
   omega
def rdS (w:Bool) (l:List Int):Except Int (List Int):=
 match scan (if w then 10 else 5) l with
 | .error e=> .error e
 | .ok ds=>if ds.length=(if w then 10 else 5)∧(if w then 0 else 7)<lastB ds∧lastB ds<(if w then 127 else 120) then .error 3 else .ok ds
theorem scan_err {f:Nat}: ∀{l:List Int} {e:Int},scan f l= .error e→e=2∨e=3:=by
 induction f with
 |zero=>intro l e h;simp[scan] at h;exact .inr h.symm
 |succ f ih=>
  intro l e h
  cases l with
  |nil=>simp[scan] at h;exact .inl h.symm
  |cons c l=>
   simp only[scan] at h
   split at h
   ·cases h
   ·split at h
    ·rename_i e' h'
     injection h with h
     subst h
     exact ih h'
    ·cases h
theorem slebF_ne (f:Nat) (v:Int):slebF (f+1) v≠[]:=by
 rw[slebF]
 split<;>simp
theorem scan_sleb (f:Nat): ∀(v:Int) (g:Nat), -64*128^f≤v→v<64*128^f→(slebF (f+1) v).length≤g→scan g (slebF (f+1) v)= .ok (slebF (f+1) v)∧sval (slebF (f+1) v)=v:=by
 induction f with
 |zero=>
  intro v g h0 h1 hg
  simp only[Int.pow_zero,Int.mul_one] at h0 h1
  have e:slebF (0+1) v=[v%128]:=by simp only[slebF];rw[if_neg (by omega)]
  rw[e] at hg ⊢
  obtain⟨g,rfl⟩: ∃j,g=j+1:=⟨g-1,by simp at hg;omega⟩
  refine⟨by simp only[scan];rw[if_pos (by omega)], ?_⟩
  simp only[sval]
  split<;>omega
 |succ f ih=>
  intro v g h0 h1 hg
  rw[slebF] at hg ⊢
  by_cases h2:v< -64∨v≥64
  ·rw[if_pos h2] at hg ⊢
   obtain⟨g,rfl⟩: ∃j,g=j+1:=⟨g-1,by simp at hg;omega⟩
   obtain⟨i1,i2⟩:=ih (v / 128) g (by
    rw[Int.pow_succ,←Int.mul_assoc] at h0
    exact(Int.le_ediv_iff_mul_le (by decide)).2 h0) (by
    rw[Int.pow_succ,←Int.mul_assoc] at h1
    exact Int.ediv_lt_of_lt_mul (by decide) h1) (by simpa using hg)
   exact⟨by rw[scan,if_neg (by omega),i1],by rw[sval_cons _ (slebF_ne f _),i2];omega⟩
  ·rw[if_neg h2] at hg ⊢
   obtain⟨g,rfl⟩: ∃j,g=j+1:=⟨g-1,by simp at hg;omega⟩
   refine⟨by simp only[scan];rw[if_pos (by omega)], ?_⟩
   simp only[sval]
   split<;>omega
theorem sleb_len32 {v:Int} (h0: -2147483648≤v) (h1:v<2147483648):(sleb v).length≤5:=by
 have: ∀(f g:Nat) (v:Int), -64*128^f≤v→v<64*128^f→f<g→(slebF g v).length≤f+1:=by
  intro f
  induction f with
  |zero=>
   intro g v h0 h1 hg
   obtain⟨g,rfl⟩: ∃j,g=j+1:=⟨g-1,by omega⟩
   simp only[Int.pow_zero,Int.mul_one] at h0 h1
   simp only[slebF]
   rw[if_neg (by omega)]
   simp
  |succ f ih=>
   intro g v h0 h1 hg
   obtain⟨g,rfl⟩: ∃j,g=j+1:=⟨g-1,by omega⟩
   simp only[slebF]
   split
   ·have:=ih g (v / 128) (by
     rw[Int.pow_succ,←Int.mul_assoc] at h0
     exact(Int.le_ediv_iff_mul_le (by decide)).2 h0) (by
     rw[Int.pow_succ,←Int.mul_assoc] at h1
     exact Int.ediv_lt_of_lt_mul (by decide) h1) (by omega)
    simp
    omega
   ·simp
 exact this 4 10 v (by omega) (by omega) (by omega)
theorem rdS32_last {ds:List Int} (h5:ds.length=5) (h0: -2147483648≤sval ds) (h1:sval ds<2147483648) (hl0:0≤lastB ds) (hl:lastB ds<128): ¬(7<lastB ds∧lastB ds<120):=by
 rw[sval_val ds (by rintro rfl;simp at h5),h5] at h0 h1
 by_cases h:lastB ds%128<64
 ·rw[if_pos h] at h0 h1
  match ds,h5 with
  |[a,b,c,d,e],_=>
   simp only[lastB,val] at h0 h1 hl0 hl h ⊢
   omega
 ·rw[if_neg h] at h0 h1
  match ds,h5 with
  |[a,b,c,d,e],_=>
   simp only[lastB,val] at h0 h1 hl0 hl h ⊢
   omega
theorem rdS64_last {ds:List Int} (h5:ds.length=10) (h0: -9223372036854775808≤sval ds) (h1:sval ds<9223372036854775808) (hl0:0≤lastB ds) (hl:lastB ds<128): ¬(0<lastB ds∧lastB ds<127):=by
 rw[sval_val ds (by rintro rfl;simp at h5),h5] at h0 h1
 by_cases h:lastB ds%128<64
 ·rw[if_pos h] at h0 h1
  match ds,h5 with
  |[a0,a1,a2,a3,a4,a5,a6,a7,a8,a9],_=>
   simp only[lastB,val] at h0 h1 hl0 hl h ⊢
   omega
 ·rw[if_neg h] at h0 h1
  match ds,h5 with
  |[a0,a1,a2,a3,a4,a5,a6,a7,a8,a9],_=>
   simp only[lastB,val] at h0 h1 hl0 hl h ⊢
   omega
def inS (w:Bool) (v:Int):Prop:=if w then-9223372036854775808≤v∧v<9223372036854775808 else-2147483648≤v∧v<2147483648
theorem rdS_sleb {w:Bool} {v:Int} (h:inS w v) (m:List Int):rdS w (sleb v++m)= .ok (sleb v)∧sval (sleb v)=v:=by
 have hb:Bs (sleb v):=slebF_bs 10 v
 cases w with
 |false=>
  simp only[inS,Bool.false_eq_true,if_false] at h
  obtain⟨h2,h3⟩:=scan_sleb 9 v 5 (by omega) (by omega) (sleb_len32 h.1 h.2)
  have h4:scan 5 (sleb v++m)= .ok (sleb v):=scan_append h2 m
  refine⟨?_,h3⟩
  unfold rdS
  simp only[Bool.false_eq_true,if_false]
  rw[h4]
  dsimp only
  rw[if_neg (fun h6=>rdS32_last (ds:=sleb v) h6.1 (by have:sval (sleb v)=v:=h3;omega) (by have:sval (sleb v)=v:=h3;omega) (lastB_nonneg _ hb) (scan_ok h2).2.2.2.2 h6.2)]
 |true=>
  simp only[inS,if_true] at h
  obtain⟨h2,h3⟩:=scan_sleb 9 v 10 (by omega) (by omega) (slebF_len 10 v)
  have h4:scan 10 (sleb v++m)= .ok (sleb v):=scan_append h2 m
  refine⟨?_,h3⟩
  unfold rdS
  simp only[if_true]
  rw[h4]
  dsimp only
  rw[if_neg (fun h6=>rdS64_last (ds:=sleb v) h6.1 (by have:sval (sleb v)=v:=h3;omega) (by have:sval (sleb v)=v:=h3;omega) (lastB_nonneg _ hb) (scan_ok h2).2.2.2.2 h6.2)]
theorem rdS_in {w:Bool} {l ds:List Int} (hb:Bs l) (h:rdS w l= .ok ds):inS w (sval ds)∧ds≠[]∧ds=l.take ds.length∧ds.length≤l.length∧ds.length≤10∧lastB ds<128:=by
 unfold rdS at h
 split at h
 ·cases h
 ·rename_i d hs
  by_cases hc:d.length=(if w then 10 else 5)∧(if w then 0 else 7)<lastB d∧lastB d<(if w then 127 else 120)
  ·rw[if_pos hc] at h
   cases h
  ·rw[if_neg hc] at h
   injection h with h
   subst h
   obtain⟨h1,h2,h3,h4,h5⟩:=scan_ok hs
   have hl0:=lastB_nonneg d (by rw[h3];exact hb.take _)
   have hv:=val_lt d
   have hv0:=val_nonneg d
   refine⟨?_,h1,h3,h4,by cases w<;>simp at h2<;>omega,h5⟩
   rw[sval_val d h1]
   have hh:=fun hs=>val_high d h1 hs
   cases w with
   |false=>
    simp only[Bool.false_eq_true,if_false] at h2 hc
    simp only[inS,Bool.false_eq_true,if_false]
    by_cases h6:d.length=5
    ·have h7: ¬(7<lastB d∧lastB d<120):=fun h=>hc ⟨h6,h⟩
     rw[h6]
     clear hs hh hv hv0 hc
     by_cases h8:lastB d%128<64
     ·rw[if_pos h8]
      match d,h6 with
      |[a,b,c,d,e],_=>
       simp only[lastB,val] at h7 hl0 h5 h8 ⊢
       omega
     ·rw[if_neg h8]
      match d,h6 with
      |[a,b,c,d,e],_=>
       simp only[lastB,val] at h7 hl0 h5 h8 ⊢
       omega
    ·have hp:(128:Int)^d.length≤128^4:=pow_mono (by omega)
     split<;>omega
   |true=>
    simp only[if_true] at h2 hc
    simp only[inS,if_true]
    by_cases h6:d.length=10
    ·have h7: ¬(0<lastB d∧lastB d<127):=fun h=>hc ⟨h6,h⟩
     rw[h6]
     clear hs hh hv hv0 hc
     by_cases h8:lastB d%128<64
     ·rw[if_pos h8]
      match d,h6 with
      |[a0,a1,a2,a3,a4,a5,a6,a7,a8,a9],_=>
       simp only[lastB,val] at h7 hl0 h5 h8 ⊢
       omega
     ·rw[if_neg h8]
      match d,h6 with
      |[a0,a1,a2,a3,a4,a5,a6,a7,a8,a9],_=>
       simp only[lastB,val] at h7 hl0 h5 h8 ⊢
       omega
    ·have hp:(128:Int)^d.length≤128^9:=pow_mono (by omega)
     split<;>omega
theorem sleb_least (ds:List Int): ∀(f:Nat),ds≠[]→ds.length≤f→(slebF f (sval ds)).length≤ds.length:=by
 induction ds with
 |nil=>intro f h;exact absurd rfl h
 |cons c l ih=>
  intro f _ hf
  obtain⟨f,rfl⟩: ∃j,f=j+1:=⟨f-1,by simp at hf;omega⟩
  cases l with
  |nil=>
   rw[slebF,if_neg (by simp only[sval];split<;>omega)]
   simp
  |cons d l=>
   rw[sval_cons c (by simp),slebF]
   by_cases h:c%128+128*sval (d::l)< -64∨c%128+128*sval (d::l)≥64
   ·rw[if_pos h]
    have e:(c%128+128*sval (d::l)) / 128=sval (d::l):=by omega
    rw[e]
    have:=ih f (by simp) (by simpa using hf)
    simpa using this
   ·rw[if_neg h]
    simp
end Go.Proofs.YtfpioigggjnffaaGreatDoor.E
