/- L3, K3. -/
import Derived.Test.YtfpioigggjnffaaGreatDoorL1
import Derived.Test.YtfpioigggjnffaaGreatDoorS4B
import Derived.Test.YtfpioigggjnffaaGreatDoorF1
set_option linter.unnecessarySimpa false
set_option linter.unusedSimpArgs false
set_option linter.unusedVariables false
set_option autoImplicit false
set_option maxRecDepth 100000
set_option maxHeartbeats 4000000
set_option pp.maxSteps 20000
namespace Go.Proofs.YtfpioigggjnffaaGreatDoor.E
open Go.Ev
def rdUR (x:Int):Except Int (List Int)→V
 | .error e=> .tup [.d (.int .u64 0), .d (.int .i64 0), .d (.int .i64 e)]
 | .ok ds=> .tup [.d (.int .u64 (val ds)), .d (.int .i64 (x+ds.length)), .d (.int .i64 0)]
def rdSR (x:Int):Except Int (List Int)→V
 | .error e=> .tup [.d (.int .i64 0), .d (.int .i64 0), .d (.int .i64 e)]
 | .ok ds=> .tup [.d (.int .i64 (sval ds)), .d (.int .i64 (x+ds.length)), .d (.int .i64 0)]
theorem shr_u8 {x:Int} (n:Nat) (hn:n≤8):shr .u8 x n=x / (2^n:Int):=by
 simp only[shr,IntKind.bits,Int.toNat_natCast,Nat.min_eq_left hn]
 rw[Int.fdiv_eq_ediv_of_nonneg _ (by exact Int.le_of_lt (Int.pow_pos (by decide)))]
theorem ReadU_ev (fu n:Nat) (l:List Int) (hb:Bs l) (x:Nat) (hf:10<fu) (hx:x≤l.length) (hl:l.length<1099511627000):
 evF (G fu) (n+4) 151 [.d (.list (byt l)), .d (.int .i64 x), .d (.int .i64 32)] []=some (rdUR x (rdU (l.drop x)),[]):=by
 have hr:=read_ev fu n l hb x 32 4 hf (by omega) (by omega) (by decide) hx hl
 rw[evF.eq_2,evX.eq_def,Gext,exts_no _ (f:=151) (by decide),GP,Tryz.func151];simp only[Tryz.f151,evB]
 unfold rdU
 cases hs:scan (4+1) (l.drop x) with
 |error e=>
  have he:=scan_err hs
  have he0: ¬e=0:=by omega
  rw[hs] at hr
  have hs':scan 5 (l.drop x)= .error e:=hs
  simp only[readR] at hr
  simp only[go_sem,seval, -Nat.reduceSubDiff,↓reduceIte,reduceCtorEq,hr,he0,hs',rdUR]
 |ok ds=>
  obtain⟨h1,h2,h3,h4,h5⟩:=scan_ok hs
  have hbd:Bs ds:=by rw[h3];exact(hb.drop x).take _
  have hv2:val ds<128^5:=Int.lt_of_lt_of_le (val_lt ds) (pow_mono (by omega))
  have hvm:val ds%18446744073709551616=val ds:=Int.emod_eq_of_lt (val_nonneg ds) (by omega)
  have hlb:=lastB_nonneg ds hbd
  rw[hs] at hr
  have hs':scan 5 (l.drop x)= .ok ds:=hs
  simp only[readR,hvm] at hr
  by_cases h6:ds.length=5
  ·have e2:shr .u8 (lastB ds) 4=lastB ds / 16:=shr_u8 4 (by decide)
   rw[h6] at hr
   by_cases h7:lastB ds<16
   ·have e3:lastB ds / 16=0:=by omega
    have e4: ¬16≤lastB ds:=by omega
    simp only[go_sem,seval, -Nat.reduceSubDiff,↓reduceIte,reduceCtorEq,hr,hs',h6,e2,e3,e4,rdUR,show((5:Nat):Int)=5 from rfl,show IntKind.wrap .i64 3=3 from rfl,show IntKind.wrap .i64 4=4 from rfl]
   ·have e3: ¬lastB ds / 16=0:=by omega
    have e4:16≤lastB ds:=by omega
    simp only[go_sem,seval, -Nat.reduceSubDiff,↓reduceIte,reduceCtorEq,hr,hs',h6,e2,e3,e4,rdUR,show((5:Nat):Int)=5 from rfl,show IntKind.wrap .i64 3=3 from rfl,show IntKind.wrap .i64 4=4 from rfl]
  ·have e1: ¬32<7*(ds.length:Int):=by omega
   simp only[go_sem,seval, -Nat.reduceSubDiff,↓reduceIte,reduceCtorEq,hr,hs',h6,e1,rdUR]
theorem sign_ext {v:Int} {n:Nat} (h0:0≤v) (h1:v<128^n) (h2:64*128^(n-1)≤v) (hn:1≤n) (hn9:n≤9):bits2 .or .u64 v (shl .u64 18446744073709551615 (7*(n:Int)))=v-128^n+18446744073709551616:=by
 have hs:shl .u64 18446744073709551615 (7*(n:Int))=18446744073709551616-128^n:=by
  unfold shl
  have e:(7*(n:Int)).toNat=7*n:=by omega
  have eb:IntKind.bits .u64=64:=rfl
  rw[e,eb,Nat.min_eq_left (by omega),wrap_u64_mod,pow128]
  rcases(by omega:n=1∨n=2∨n=3∨n=4∨n=5∨n=6∨n=7∨n=8∨n=9) with rfl|rfl|rfl|rfl|rfl|rfl|rfl|rfl|rfl<;>decide
 have hp:(128:Int)^n≤128^9:=pow_mono hn9
 have hp0:(0:Int)<128^n:=Int.pow_pos (by decide)
 rw[hs,or_join h0 (i:=7*n) (by rw[pow128];exact h1) (by omega) (by omega) (by omega) (by
  rw[pow128]
  rcases(by omega:n=1∨n=2∨n=3∨n=4∨n=5∨n=6∨n=7∨n=8∨n=9) with rfl|rfl|rfl|rfl|rfl|rfl|rfl|rfl|rfl<;>decide) (by omega)]
 omega
theorem wrap_i64_hi {x:Int} (h0: -9223372036854775808≤x) (h1:x<0):IntKind.wrap .i64 (x+18446744073709551616)=x:=by
 simp only[IntKind.wrap,IntKind.bits,IntKind.signed,Bool.true_and,decide_eq_true_eq]
 split<;>rename_i h<;>simp at h<;>omega
theorem and64' {c:Int} (h0:0≤c) (h1:c<256):bits2 .and .u8 c 64=if c%128<64 then 0 else 64:=by
 have:=all256 (p:=fun c=>bits2 .and .u8 c 64==if c%128<64 then 0 else 64) (by kernel_rfl) h0 h1
 simpa using this
theorem lastB_byte {ds:List Int} (h1:ds≠[]) (hb:Bs ds):0≤lastB ds∧lastB ds<256:=by
 induction ds with
 |nil=>exact absurd rfl h1
 |cons c l ih=>
  cases l with
  |nil=>exact hb c (by simp)
  |cons d l=>exact ih (by simp) (fun z hz=>hb z (List.mem_cons_of_mem _ hz))
theorem ReadS_ev (w:Bool) (fu n:Nat) (l:List Int) (hb:Bs l) (x:Nat) (hf:10<fu) (hx:x≤l.length) (hl:l.length<1099511627000):
 evF (G fu) (n+4) 152 [.d (.list (byt l)), .d (.int .i64 x), .d (.int .i64 (if w then 64 else 32))] []=some (rdSR x (rdS w (l.drop x)),[]):=by
 unfold rdS
 have fin: ∀(ds:List Int),ds≠[]→Bs ds→ds.length≤9→(if lastB ds%128<64 then IntKind.wrap .i64 (val ds) else IntKind.wrap .i64 (bits2 .or .u64 (val ds) (shl .u64 18446744073709551615 (7*(ds.length:Int)))))=sval ds:=fun ds h1 hbd h9=>by
  have hv:=val_lt ds
  have hv0:=val_nonneg ds
  have hp:(128:Int)^ds.length≤128^9:=pow_mono h9
  have hl:0<ds.length:=List.length_pos_iff.2 h1
  rw[sval_val ds h1]
  by_cases h:lastB ds%128<64
  ·rw[if_pos h,if_pos h,wrap_i64 (by omega) (by omega)]
  ·rw[if_neg h,if_neg h,sign_ext hv0 hv (val_high ds h1 h) hl h9]
   have hq:=val_high ds h1 h
   exact wrap_i64_hi (by omega) (by omega)
 cases w with
 |false=>
  have hr:=read_ev fu n l hb x 32 4 hf (by omega) (by omega) (by decide) hx hl
  simp only[Bool.false_eq_true,if_false]
  rw[evF.eq_2,evX.eq_def,Gext,exts_no _ (f:=152) (by decide),GP,Tryz.func152];simp only[Tryz.f152,evB]
  cases hs:scan (4+1) (l.drop x) with
  |error e=>
   have he:=scan_err hs
   have he0: ¬e=0:=by omega
   rw[hs] at hr
   have hs':scan 5 (l.drop x)= .error e:=hs
   simp only[readR] at hr
   simp only[go_sem,seval, -Nat.reduceSubDiff,↓reduceIte,reduceCtorEq,hr,he0,hs',rdSR]
  |ok ds=>
   obtain⟨h1,h2,h3,h4,h5⟩:=scan_ok hs
   have hbd:Bs ds:=by rw[h3];exact(hb.drop x).take _
   have hv2:val ds<128^5:=Int.lt_of_lt_of_le (val_lt ds) (pow_mono (by omega))
   have hvm:val ds%18446744073709551616=val ds:=Int.emod_eq_of_lt (val_nonneg ds) (by omega)
   have hlb:=lastB_byte h1 hbd
   have hf:=fin ds h1 hbd (by omega)
   have ha:=and64' hlb.1 hlb.2
   rw[hs] at hr
   have hs':scan 5 (l.drop x)= .ok ds:=hs
   simp only[readR,hvm] at hr
   have hlt:7*(ds.length:Int)<64:=by omega
   by_cases h6:ds.length=5
   ·have e2:shr .u8 (lastB ds) 3=lastB ds / 8:=shr_u8 3 (by decide)
    have e3:shr .u8 127 3=15:=by decide
    rw[h6] at hr hf
    by_cases h7:lastB ds / 8=0
    ·have e4: ¬7<lastB ds:=by omega
     have h:lastB ds%128<64:=by omega
     rw[if_pos h] at ha hf
     simp only[go_sem,seval, -Nat.reduceSubDiff,↓reduceIte,reduceCtorEq,hr,hs',h6,e2,e3,e4,h7,rdSR,ha,hf,show((5:Nat):Int)=5 from rfl,show IntKind.wrap .i64 3=3 from rfl,show IntKind.wrap .i64 4=4 from rfl]
    ·by_cases h8:lastB ds / 8=15
     ·have e4: ¬lastB ds<120:=by omega
      have h: ¬lastB ds%128<64:=by omega
      rw[if_neg h] at ha hf
      simp only[show((5:Nat):Int)=5 from rfl,Int.reduceMul] at hf
      simp only[go_sem,seval, -Nat.reduceSubDiff,↓reduceIte,reduceCtorEq,hr,hs',h6,e2,e3,e4,h8,rdSR,ha,hf,show((5:Nat):Int)=5 from rfl,show IntKind.wrap .i64 3=3 from rfl,show IntKind.wrap .i64 4=4 from rfl]
     ·have e4:7<lastB ds:=by omega
      have e5:lastB ds<120:=by omega
      simp only[go_sem,seval, -Nat.reduceSubDiff,↓reduceIte,reduceCtorEq,hr,hs',h6,e2,e3,e4,e5,h7,h8,rdSR,show((5:Nat):Int)=5 from rfl,show IntKind.wrap .i64 3=3 from rfl,show IntKind.wrap .i64 4=4 from rfl]
   ·have e1: ¬32<7*(ds.length:Int):=by omega
    have s0: ¬7*(ds.length:Int)<0:=by omega
    by_cases h:lastB ds%128<64
    ·rw[if_pos h] at ha hf
     simp only[go_sem,seval, -Nat.reduceSubDiff,↓reduceIte,reduceCtorEq,hr,hs',h6,e1,s0,rdSR,hlt,ha,hf]
    ·rw[if_neg h] at ha hf
     simp only[go_sem,seval, -Nat.reduceSubDiff,↓reduceIte,reduceCtorEq,hr,hs',h6,e1,s0,rdSR,hlt,ha,hf]
 |true=>
  have hr:=read_ev fu n l hb x 64 9 hf (by omega) (by omega) (by decide) hx hl
  simp only[if_true]
  rw[evF.eq_2,evX.eq_def,Gext,exts_no _ (f:=152) (by decide),GP,Tryz.func152];simp only[Tryz.f152,evB]
  cases hs:scan (9+1) (l.drop x) with
  |error e=>
   have he:=scan_err hs
   have he0: ¬e=0:=by omega
   rw[hs] at hr
   have hs':scan 10 (l.drop x)= .error e:=hs
   simp only[readR] at hr
   simp only[go_sem,seval, -Nat.reduceSubDiff,↓reduceIte,reduceCtorEq,hr,he0,hs',rdSR]
  |ok ds=>
   obtain⟨h1,h2,h3,h4,h5⟩:=scan_ok hs
   have hbd:Bs ds:=by rw[h3];exact(hb.drop x).take _
   have hlb:=lastB_byte h1 hbd
   have ha:=and64' hlb.1 hlb.2
   rw[hs] at hr
   have hs':scan 10 (l.drop x)= .ok ds:=hs
   simp only[readR] at hr
   by_cases h6:ds.length=10
   ·have e2:shr .u8 (lastB ds) 0=lastB ds:=by
     have:=shr_u8 (x:=lastB ds) 0 (by decide)
     simpa using this
    have e3:shr .u8 127 0=127:=by decide
    rw[h6] at hr
    have hend:lastB ds=0∨lastB ds=127→IntKind.wrap .i64 (val ds%18446744073709551616)=sval ds:=by
     intro h
     rw[sval_val ds h1,h6]
     clear hs hs' hr fin h3 h4 h2 e2 e3 ha
     rcases h with h|h
     ·rw[if_pos (by rw[h];decide)]
      match ds,h6,h with
      |[a0,a1,a2,a3,a4,a5,a6,a7,a8,a9],_,h=>
       simp only[lastB] at h
       simp only[val]
       rw[Int.emod_eq_of_lt (by omega) (by omega),wrap_i64 (by omega) (by omega)]
     ·rw[if_neg (by rw[h];decide)]
      match ds,h6,h with
      |[a0,a1,a2,a3,a4,a5,a6,a7,a8,a9],_,h=>
       simp only[lastB] at h
       have hv:val [a0,a1,a2,a3,a4,a5,a6,a7,a8,a9]%18446744073709551616=(val [a0,a1,a2,a3,a4,a5,a6,a7,a8,a9]-128^10)+18446744073709551616:=by simp only[val];omega
       rw[hv,wrap_i64_hi (by simp only[val];omega) (by simp only[val];omega)]
    by_cases h7:lastB ds=0
    ·have hf:=hend (.inl h7)
     simp only[go_sem,seval, -Nat.reduceSubDiff,↓reduceIte,reduceCtorEq,hr,hs',h6,e2,e3,h7,rdSR,hf,show((10:Nat):Int)=10 from rfl,show IntKind.wrap .i64 6=6 from rfl,show IntKind.wrap .i64 1=1 from rfl,show IntKind.wrap .i64 0=0 from rfl,show shr .u8 0 0=0 from rfl]
    ·by_cases h8:lastB ds=127
     ·have hf:=hend (.inr h8)
      simp only[go_sem,seval, -Nat.reduceSubDiff,↓reduceIte,reduceCtorEq,hr,hs',h6,e3,h8,rdSR,hf,show((10:Nat):Int)=10 from rfl,show IntKind.wrap .i64 6=6 from rfl,show IntKind.wrap .i64 1=1 from rfl,show IntKind.wrap .i64 0=0 from rfl]
     ·have e4:0<lastB ds:=by omega
      have e5:lastB ds<127:=by omega
      simp only[go_sem,seval, -Nat.reduceSubDiff,↓reduceIte,reduceCtorEq,hr,hs',h6,e2,e3,e4,e5,h7,h8,rdSR,show((10:Nat):Int)=10 from rfl,show IntKind.wrap .i64 6=6 from rfl,show IntKind.wrap .i64 1=1 from rfl,show IntKind.wrap .i64 0=0 from rfl]
   ·have hv2:val ds<128^9:=Int.lt_of_lt_of_le (val_lt ds) (pow_mono (by omega))
    have hvm:val ds%18446744073709551616=val ds:=Int.emod_eq_of_lt (val_nonneg ds) (by omega)
    have hf:=fin ds h1 hbd (by omega)
    have e1: ¬64<7*(ds.length:Int):=by omega
    have s0: ¬7*(ds.length:Int)<0:=by omega
    have hlt:7*(ds.length:Int)<64:=by omega
    by_cases h:lastB ds%128<64
    ·rw[if_pos h] at ha hf
     simp only[go_sem,seval, -Nat.reduceSubDiff,↓reduceIte,reduceCtorEq,hr,hs',h6,e1,s0,rdSR,hlt,ha,hvm,hf]
    ·rw[if_neg h] at ha hf
     simp only[go_sem,seval, -Nat.reduceSubDiff,↓reduceIte,reduceCtorEq,hr,hs',h6,e1,s0,rdSR,hlt,ha,hvm,hf]
end Go.Proofs.YtfpioigggjnffaaGreatDoor.E
set_option autoImplicit false
namespace Go.Proofs.YtfpioigggjnffaaGreatDoor.E
open Go.Ev
theorem kd_out (x:Int) (h:x<0∨173<x):kindF x=0:=by
 have:spanL.find? (inSpan x)=none:=by
  rw[List.find?_eq_none]
  intro s hs
  have:0≤s.1∧s.2.1≤173:=by
   have:=List.all_eq_true.1 (show spanL.all (fun s=>decide (0≤s.1∧s.2.1≤173))=true by kernel_rfl) s hs
   simpa using this
  simp only[inSpan,Bool.and_eq_true,decide_eq_true_eq]
  omega
 unfold kindF
 rw[this]
theorem kd_in (x:Int):kindF x=0∨kindF x=1∨kindF x=2∨kindF x=3∨kindF x=4∨kindF x=5∨kindF x=6∨kindF x=7∨kindF x=8∨kindF x=9:=by
 by_cases h:x<0∨173<x
 ·exact .inl (kd_out x h)
 ·have hp:(List.range 256).all (fun n=>(fun c=>decide (kindF c=0∨kindF c=1∨kindF c=2∨kindF c=3∨kindF c=4∨kindF c=5∨kindF c=6∨kindF c=7∨kindF c=8∨kindF c=9)) (n:Int))=true:=by kernel_rfl
  have:=all256 (p:=fun c=>decide (kindF c=0∨kindF c=1∨kindF c=2∨kindF c=3∨kindF c=4∨kindF c=5∨kindF c=6∨kindF c=7∨kindF c=8∨kindF c=9)) hp (c:=x) (by omega) (by omega)
  simpa using this
theorem kd_byte {x:Int} (h:kindF x≠0):0≤x∧x<256:=by
 by_cases h1:x<0∨173<x
 ·exact absurd (kd_out x h1) h
 ·omega
def Num (x:Int):Prop:=0≤x∧x≤4294967295
instance (x:Int):Decidable (Num x):=inferInstanceAs (Decidable (_∧_))
instance (x:Int):Decidable (Num x):=inferInstanceAs (Decidable (_∧_))
def San (i:TInstr):Prop:=kindF i.op≠0∧Num i.a∧Num i.b∧(kindF i.op≠4→i.labels=[])∧
 (kindF i.op=1∨kindF i.op=7→i.a=0∧i.b=0∧i.k=0)∧(kindF i.op=2→i.b=0∧i.k=0∧(i.a=0∨i.a=127∨i.a=126))∧(kindF i.op=3∨kindF i.op=5→i.b=0∧i.k=0)∧
 (kindF i.op=4→i.b=0∧i.k=0∧i.labels.length≤64∧∀x∈i.labels,Num x)∧(kindF i.op=6→i.k=0)∧(kindF i.op=8→i.a=0∧i.b=0∧i.k≤4294967295)∧(kindF i.op=9→i.a=0∧i.b=0)
theorem numB_iff (x:Int):numB x=true↔Num x:=by simp[numB,Num]
theorem saneF_iff (i:TInstr):saneF i=true↔San i:=by
 unfold saneF San
 have e:=kd_in i.op
 have hall:i.labels.all numB=true↔∀x∈i.labels,Num x:=by
  rw[List.all_eq_true]
  exact⟨fun h x hx=>(numB_iff x).1 (h x hx),fun h x hx=>(numB_iff x).2 (h x hx)⟩
 rcases e with e|e|e|e|e|e|e|e|e|e<;>simp[e,numB_iff,hall]<;>grind
def s32 (c:Int):Int:=if c<2147483648 then c else c-4294967296
def s64 (c:Int):Int:=if c<9223372036854775808 then c else c-18446744073709551616
def tl (i:TInstr):List Int:=
 if kindF i.op=2 then[if i.a=0 then 64 else i.a]
 else if kindF i.op=3 then uleb i.a
 else if kindF i.op=4 then uleb (i.labels.length:Int)++(i.labels.flatMap uleb++uleb i.a)
 else if kindF i.op=5 then uleb i.a++[0]
 else if kindF i.op=6 then uleb i.a++uleb i.b
 else if kindF i.op=7 then[0]
 else if kindF i.op=8 then sleb (s32 i.k)
 else if kindF i.op=9 then sleb (s64 i.k) else[]
def enc (i:TInstr):List Int:=i.op::tl i
def Cok (i:TInstr):Prop:=0≤i.k∧i.k<18446744073709551616
theorem flat_len (l:List Int):(l.flatMap uleb).length≤10*l.length:=by
 induction l with
 |nil=>simp
 |cons c l ih=>
  rw[List.flatMap_cons,List.length_append,List.length_cons]
  have:=ulebF_len 10 c
  unfold uleb at*
  omega
theorem enc_len (i:TInstr) (h:San i):(enc i).length≤1000:=by
 have hu: ∀v,(uleb v).length≤10:=ulebF_len 10
 have hs: ∀v,(sleb v).length≤10:=slebF_len 10
 have hf:=flat_len i.labels
 have h1:=hu i.a
 have h2:=hu i.b
 have h3:=hu i.labels.length
 have h4:=hs (s32 i.k)
 have h5:=hs (s64 i.k)
 obtain⟨_,_,_,_,_,_,_,h6,_⟩:=h
 unfold enc tl
 rw[List.length_cons]
 split
 ·simp
 ·split
  ·omega
  ·split
   ·rename_i h7
    have:=(h6 h7).2.2.1
    simp only[List.length_append]
    omega
   ·split
    ·simp;omega
    ·split
     ·simp;omega
     ·split
      ·simp
      ·split
       ·omega
       ·split
        ·omega
        ·simp
def rdL:Nat→List Int→Except Int (List Int×Nat)
 |0,_=> .ok ([],0)
 |n+1,m=>match rdU m with
  | .error e=> .error e
  | .ok ds=>match rdL n (m.drop ds.length) with
    | .error e=> .error e
    | .ok (ls,c)=> .ok (val ds::ls,ds.length+c)
def decT (op:Int) (m:List Int):Except Int (TInstr×Nat):=
 if kindF op=0 then .error 3
 else if kindF op=2 then match m with
  |[]=> .error 2
  |c::_=>if c=64 then .ok (⟨op,0,0,0,[]⟩,1) else if c=127∨c=126 then .ok (⟨op,c,0,0,[]⟩,1) else .error 3
 else if kindF op=3 then match rdU m with
  | .error e=> .error e
  | .ok ds=> .ok (⟨op,val ds,0,0,[]⟩,ds.length)
 else if kindF op=4 then match rdU m with
  | .error e=> .error e
  | .ok ds=>if val ds≤64 then match rdL (val ds).toNat (m.drop ds.length) with
      | .error e=> .error e
      | .ok (ls,n)=>match rdU ((m.drop ds.length).drop n) with
        | .error e=> .error e
        | .ok d2=> .ok (⟨op,val d2,0,0,ls⟩,ds.length+n+d2.length)
    else .error 4
 else if kindF op=5 then match rdU m with
  | .error e=> .error e
  | .ok ds=>match m.drop ds.length with
    |[]=> .error 2
    |c::_=>if c=0 then .ok (⟨op,val ds,0,0,[]⟩,ds.length+1) else .error 3
 else if kindF op=6 then match rdU m with
  | .error e=> .error e
  | .ok ds=>match rdU (m.drop ds.length) with
    | .error e=> .error e
    | .ok d2=> .ok (⟨op,val ds,val d2,0,[]⟩,ds.length+d2.length)
 else if kindF op=7 then match m with
  |[]=> .error 2
  |c::_=>if c=0 then .ok (⟨op,0,0,0,[]⟩,1) else .error 3
 else if kindF op=8 then match rdS false m with
  | .error e=> .error e
  | .ok ds=> .ok (⟨op,0,0,sval ds%4294967296,[]⟩,ds.length)
 else if kindF op=9 then match rdS true m with
  | .error e=> .error e
  | .ok ds=> .ok (⟨op,0,0,sval ds%18446744073709551616,[]⟩,ds.length)
 else .ok (⟨op,0,0,0,[]⟩,0)
def dec:List Int→Except Int (TInstr×Nat)
 |[]=> .error 2
 |op::m=>match decT op m with
  | .error e=> .error e
  | .ok (i,n)=> .ok (i,n+1)
theorem rdU_err {l:List Int} {e:Int} (h:rdU l= .error e):e≠0:=by
 unfold rdU at h
 split at h
 ·rename_i e' h'
  injection h with h
  have:=scan_err h'
  omega
 ·split at h
  ·injection h with h
   omega
  ·cases h
theorem rdS_err {w:Bool} {l:List Int} {e:Int} (h:rdS w l= .error e):e≠0:=by
 unfold rdS at h
 cases hs:scan (if w then 10 else 5) l with
 |error e'=>
  rw[hs] at h
  injection h with h
  have:=scan_err hs
  omega
 |ok d=>
  rw[hs] at h
  dsimp only at h
  by_cases hc:d.length=(if w then 10 else 5)∧(if w then 0 else 7)<lastB d∧lastB d<(if w then 127 else 120)
  ·rw[if_pos hc] at h
   injection h with h
   omega
  ·rw[if_neg hc] at h
   cases h
theorem rdU_len {l ds:List Int} (h:rdU l= .ok ds):ds.length≤l.length:=(scan_ok (rdU_scan h)).2.2.2.1
theorem rdL_err {n:Nat}: ∀{m:List Int} {e:Int},rdL n m= .error e→e≠0:=by
 induction n with
 |zero=>intro m e h;simp[rdL] at h
 |succ n ih=>
  intro m e h
  simp only[rdL] at h
  split at h
  ·rename_i h'
   injection h with h
   subst h
   exact rdU_err h'
  ·split at h
   ·rename_i h'
    injection h with h
    subst h
    exact ih h'
   ·cases h
end Go.Proofs.YtfpioigggjnffaaGreatDoor.E
