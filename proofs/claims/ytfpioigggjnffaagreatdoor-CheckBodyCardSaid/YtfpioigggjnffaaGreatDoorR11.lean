/- R11. -/
import Derived.Test.YtfpioigggjnffaaGreatDoorR9
import Derived.Test.YtfpioigggjnffaaGreatDoorM7
import Derived.Test.YtfpioigggjnffaaGreatDoorQ13
set_option linter.unnecessarySimpa false
set_option linter.unusedSimpArgs false
set_option linter.unusedVariables false
set_option autoImplicit false
set_option maxRecDepth 100000
set_option maxHeartbeats 4000000
set_option pp.maxSteps 20000
namespace Go.Proofs.YtfpioigggjnffaaGreatDoor.E
open Go.Ev
theorem shape2_is (op:Int):shape2F op=match shapeF op with
 |some (p,r)=>(p,r,true)
 |none=>([],0,false):=by
 unfold shape2F shapeF
 rcases(by omega:op≤68∨op=69∨(70≤op∧op≤79)∨op=80∨(81≤op∧op≤90)∨(91≤op∧op≤102)∨(103≤op∧op≤105)∨(106≤op∧op≤120)∨(121≤op∧op≤123)∨(124≤op∧op≤138)∨(139≤op∧op≤166)∨op=167∨(168≤op∧op≤171)∨(172≤op∧op≤173)∨174≤op) with h|h|h|h|h|h|h|h|h|h|h|h|h|h|h
 all_goals (repeat (first|rw[if_pos (by omega)]|rw[if_neg (by omega)]))
theorem shape_short {op:Int} {p:List Int} {r:Int} (hs:shapeF op=some (p,r)):p.length≤2:=by
 unfold shapeF at hs
 repeat' (first|split at hs|(cases hs;simp)|cases hs)
theorem rstep_ev (fu n b:Nat) (e:TEnv) (he:ESm e) (s:Stk) (hb:b+100<fu) (hm:b+100<1000000) (h:Rm b s) (i:TInstr) (hl:i.labels.length<fu) (hl2:i.labels.length<1000000):
 evF (G fu) (n+8) 17 [.d e.dd, .d s.dd, .d i.d] []=stkR (stepS saneF accE shapeF e s i):=by
 have S:=r9sane_ev fu (n+5) s (by have:=h.1;omega) (by have:=h.2;omega) (by have:=h.1;omega) (by have:=h.2;omega)
 have I:=rSane_ev fu (n+3) i (by omega) (by omega)
 simp only[Stk.dd,TInstr.d] at S I
 unfold stepS
 rw[evF.eq_2,evX.eq_def,Gext,exts_no _ (f:=17) (by decide),GP,Tryz.func17];simp only[Tryz.f17,evB]
 cases hsn:saneS s with
 |false=>
  rw[hsn] at S
  simp only[go_sem,Nat.reduceAdd,Nat.reduceMul,Nat.reduceSub,Nat.reduceLT,Nat.reduceLeDiff,Nat.reduceEqDiff,Nat.reduceBEq,Nat.reduceBeqDiff,Int.reduceEq,Int.reduceLT,Int.reduceLE,Int.reduceToNat,Int.reduceNeg,Int.reduceAdd,Int.reduceSub,Int.reduceMul,reduceIte,reduceCtorEq,Nat.reducePow,Nat.reduceDiv,Nat.reduceMod,Int.reduceBEq,Stk.dd,TEnv.dd,TInstr.d,S,stkR,stk0,List.map_nil,Bool.not_false,Bool.true_or,if_true]
 |true=>
  rw[hsn] at S
  cases hsi:saneF i with
  |false=>
   rw[hsi] at I
   simp only[go_sem,Nat.reduceAdd,Nat.reduceMul,Nat.reduceSub,Nat.reduceLT,Nat.reduceLeDiff,Nat.reduceEqDiff,Nat.reduceBEq,Nat.reduceBeqDiff,Int.reduceEq,Int.reduceLT,Int.reduceLE,Int.reduceToNat,Int.reduceNeg,Int.reduceAdd,Int.reduceSub,Int.reduceMul,reduceIte,reduceCtorEq,Nat.reducePow,Nat.reduceDiv,Nat.reduceMod,Int.reduceBEq,Stk.dd,TEnv.dd,TInstr.d,S,I,stkR,stk0,List.map_nil,Bool.not_false,Bool.not_true,Bool.or_true,if_true]
  |true=>
   rw[hsi] at I
   obtain⟨ha,hlb,hl4,hk0⟩:=sane_parts hsi
   have ha0:0≤i.a∧i.a≤4294967295:=by unfold numB at ha;simpa only[Bool.and_eq_true,decide_eq_true_eq] using ha
   have hR:Rm b (⟨s,0⟩:WkS).s:=h
   have SH:=shape2_ev fu (n+5) i.op
   rw[shape2_is] at SH
   simp only[Bool.not_true,Bool.or_self,Bool.false_eq_true,if_false]
   obtain⟨c1,c2,c3,c4,c5,c6,c7,c8,c9⟩:=kind_ops i.op
   have hops:(i.op=0∨i.op=1∨(2≤i.op∧i.op≤5)∨i.op=11∨(12≤i.op∧i.op≤14)∨i.op=15∨i.op=16∨i.op=17∨i.op=26∨i.op=27∨(32≤i.op∧i.op≤36)∨(40≤i.op∧i.op≤64)∨i.op=65∨i.op=66∨67≤i.op)∧(67≤i.op→∃p r,shapeF i.op=some (p,r)):=by
    refine⟨?_,fun h67=>shape_some ?_⟩
    ·rcases kind_range i.op with hk|hk|hk|hk|hk|hk|hk|hk|hk|hk
     ·exact absurd hk hk0
     ·have:=c1 hk;clear c1 c2 c3 c4 c5 c6 c7 c8 c9;omega
     ·have:=c2 hk;clear c1 c2 c3 c4 c5 c6 c7 c8 c9;omega
     ·have:=c3 hk;clear c1 c2 c3 c4 c5 c6 c7 c8 c9;omega
     ·have:=c4 hk;clear c1 c2 c3 c4 c5 c6 c7 c8 c9;omega
     ·have:=c5 hk;clear c1 c2 c3 c4 c5 c6 c7 c8 c9;omega
     ·have:=c6 hk;clear c1 c2 c3 c4 c5 c6 c7 c8 c9;omega
     ·have:=c7 hk;clear c1 c2 c3 c4 c5 c6 c7 c8 c9;omega
     ·have:=c8 hk;clear c1 c2 c3 c4 c5 c6 c7 c8 c9;omega
     ·have:=c9 hk;clear c1 c2 c3 c4 c5 c6 c7 c8 c9;omega
    ·rcases kind_range i.op with hk|hk|hk|hk|hk|hk|hk|hk|hk|hk
     ·exact absurd hk hk0
     ·have:=c1 hk;clear c1 c2 c3 c4 c5 c6 c7 c8 c9;omega
     ·have:=c2 hk;clear c1 c2 c3 c4 c5 c6 c7 c8 c9;omega
     ·have:=c3 hk;clear c1 c2 c3 c4 c5 c6 c7 c8 c9;omega
     ·have:=c4 hk;clear c1 c2 c3 c4 c5 c6 c7 c8 c9;omega
     ·have:=c5 hk;clear c1 c2 c3 c4 c5 c6 c7 c8 c9;omega
     ·have:=c6 hk;clear c1 c2 c3 c4 c5 c6 c7 c8 c9;omega
     ·have:=c7 hk;clear c1 c2 c3 c4 c5 c6 c7 c8 c9;omega
     ·have:=c8 hk;clear c1 c2 c3 c4 c5 c6 c7 c8 c9;omega
     ·have:=c9 hk;clear c1 c2 c3 c4 c5 c6 c7 c8 c9;omega
   have hls: ∀x∈i.labels, -9223372036854775808≤x∧x≤9223372036854775807:=by
    intro x hx
    by_cases hk:kindF i.op=4
    ·have:=List.all_eq_true.1 (hl4 hk).2 x hx
     unfold numB at this
     simp only[Bool.and_eq_true,decide_eq_true_eq] at this
     omega
    ·rw[hlb hk] at hx;cases hx
   clear c1 c2 c3 c4 c5 c6 c7 c8 c9 hl4 hlb hk0 ha
   obtain⟨hops,hsh⟩:=hops
   unfold goS
   simp only
   have I32:=i32_ev fu (n+6)
   simp only[byt1] at I32
   have SH:=SH
   rw[shape2R] at SH
   obtain⟨sx,hsx⟩: ∃sx,(match shapeF i.op with|some (p,r)=>(p,r,true)|none=>(([]:List Int),(0:Int),false))=sx:=⟨_,rfl⟩
   rw[hsx] at SH
   have h9:=h
   rcases hops with h|h|h|h|h|h|h|h|h|h|h|h|h|h|h
   ·obtain⟨sp,sr,sb⟩:=sx
    simp only at SH
    have op0:i.op=0:=by omega
    rw[if_pos (show i.op=0 by omega)]
    have P:=wkill_ev fu (n+1) ⟨s,0⟩ (hR.ok (by omega) (by omega))
    generalize(⟨s,0⟩:WkS).kill=w at*
    simp only[wk,TEnv.dd,TInstr.d,byt1] at P
    simp only[op0] at I SH
    try simp only[op0] at P
    simp only[go_sem,Nat.reduceAdd,Nat.reduceMul,Nat.reduceSub,Nat.reduceLT,Nat.reduceLeDiff,Nat.reduceEqDiff,Nat.reduceBEq,Nat.reduceBeqDiff,Int.reduceEq,Int.reduceLT,Int.reduceLE,Int.reduceToNat,Int.reduceNeg,Int.reduceAdd,Int.reduceSub,Int.reduceMul,reduceIte,reduceCtorEq,Nat.reducePow,Nat.reduceDiv,Nat.reduceMod,Int.reduceBEq,Stk.dd,TEnv.dd,TInstr.d,S,I,SH,op0,P]
    by_cases h0:w.e=0
    ·simp only[go_sem,Nat.reduceAdd,Nat.reduceMul,Nat.reduceSub,Nat.reduceLT,Nat.reduceLeDiff,Nat.reduceEqDiff,Nat.reduceBEq,Nat.reduceBeqDiff,Int.reduceEq,Int.reduceLT,Int.reduceLE,Int.reduceToNat,Int.reduceNeg,Int.reduceAdd,Int.reduceSub,Int.reduceMul,reduceIte,reduceCtorEq,Nat.reducePow,Nat.reduceDiv,Nat.reduceMod,Int.reduceBEq,h0,ne_eq,stkR,Stk.dd,not_true_eq_false,if_false]
    ·simp only[go_sem,Nat.reduceAdd,Nat.reduceMul,Nat.reduceSub,Nat.reduceLT,Nat.reduceLeDiff,Nat.reduceEqDiff,Nat.reduceBEq,Nat.reduceBeqDiff,Int.reduceEq,Int.reduceLT,Int.reduceLE,Int.reduceToNat,Int.reduceNeg,Int.reduceAdd,Int.reduceSub,Int.reduceMul,reduceIte,reduceCtorEq,Nat.reducePow,Nat.reduceDiv,Nat.reduceMod,Int.reduceBEq,h0,ne_eq]
     (rw[cond_free];rotate_left;·rfl)
     simp only[go_sem,Nat.reduceAdd,Nat.reduceMul,Nat.reduceSub,Nat.reduceLT,Nat.reduceLeDiff,Nat.reduceEqDiff,Nat.reduceBEq,Nat.reduceBeqDiff,Int.reduceEq,Int.reduceLT,Int.reduceLE,Int.reduceToNat,Int.reduceNeg,Int.reduceAdd,Int.reduceSub,Int.reduceMul,reduceIte,reduceCtorEq,Nat.reducePow,Nat.reduceDiv,Nat.reduceMod,Int.reduceBEq,h0,ne_eq,stkR,stk0,Stk.dd,List.map_nil,not_false_eq_true,if_true]
   ·have op0: ¬i.op=0:=by omega
    have op1:i.op=1:=by omega
    rw[if_neg (show ¬(i.op=0) by omega),if_pos (show i.op=1 by omega)]
    have C:=r9copied_ev fu (n+6) s (by have:=h9.1;omega) (by have:=h9.2;omega)
    simp only[Stk.dd,r9copy] at C
    obtain⟨sp,sr,sb⟩:=sx
    simp only at SH
    simp only[op1] at I SH
    simp only[go_sem,Nat.reduceAdd,Nat.reduceMul,Nat.reduceSub,Nat.reduceLT,Nat.reduceLeDiff,Nat.reduceEqDiff,Nat.reduceBEq,Nat.reduceBeqDiff,Int.reduceEq,Int.reduceLT,Int.reduceLE,Int.reduceToNat,Int.reduceNeg,Int.reduceAdd,Int.reduceSub,Int.reduceMul,reduceIte,reduceCtorEq,Nat.reducePow,Nat.reduceDiv,Nat.reduceMod,Int.reduceBEq,Stk.dd,TEnv.dd,TInstr.d,S,I,SH,op0,op1,C,byt_takeL,ctlds_takeL,byt_len,ctlds_len,ne_eq,stkR,not_true_eq_false,if_false]
   ·obtain⟨sp,sr,sb⟩:=sx
    simp only at SH
    have op0: ¬i.op=0:=by omega
    have op1: ¬i.op=1:=by omega
    have le5:i.op≤5:=by omega
    rw[if_neg (show ¬(i.op=0) by omega),if_neg (show ¬(i.op=1) by omega),if_pos (show i.op≤5∨i.op=11 by omega)]
    have P:=rnested_ev fu n b ⟨s,0⟩ hb hm hR i
    generalize nestedS ⟨s,0⟩ i=w at*
    simp only[wk,TEnv.dd,TInstr.d,byt1] at P
    simp only[go_sem,Nat.reduceAdd,Nat.reduceMul,Nat.reduceSub,Nat.reduceLT,Nat.reduceLeDiff,Nat.reduceEqDiff,Nat.reduceBEq,Nat.reduceBeqDiff,Int.reduceEq,Int.reduceLT,Int.reduceLE,Int.reduceToNat,Int.reduceNeg,Int.reduceAdd,Int.reduceSub,Int.reduceMul,reduceIte,reduceCtorEq,Nat.reducePow,Nat.reduceDiv,Nat.reduceMod,Int.reduceBEq,Stk.dd,TEnv.dd,TInstr.d,S,I,SH,op0,op1,le5,P]
    by_cases h0:w.e=0
    ·simp only[go_sem,Nat.reduceAdd,Nat.reduceMul,Nat.reduceSub,Nat.reduceLT,Nat.reduceLeDiff,Nat.reduceEqDiff,Nat.reduceBEq,Nat.reduceBeqDiff,Int.reduceEq,Int.reduceLT,Int.reduceLE,Int.reduceToNat,Int.reduceNeg,Int.reduceAdd,Int.reduceSub,Int.reduceMul,reduceIte,reduceCtorEq,Nat.reducePow,Nat.reduceDiv,Nat.reduceMod,Int.reduceBEq,h0,ne_eq,stkR,Stk.dd,not_true_eq_false,if_false]
    ·simp only[go_sem,Nat.reduceAdd,Nat.reduceMul,Nat.reduceSub,Nat.reduceLT,Nat.reduceLeDiff,Nat.reduceEqDiff,Nat.reduceBEq,Nat.reduceBeqDiff,Int.reduceEq,Int.reduceLT,Int.reduceLE,Int.reduceToNat,Int.reduceNeg,Int.reduceAdd,Int.reduceSub,Int.reduceMul,reduceIte,reduceCtorEq,Nat.reducePow,Nat.reduceDiv,Nat.reduceMod,Int.reduceBEq,h0,ne_eq]
     (rw[cond_free];rotate_left;·rfl)
     simp only[go_sem,Nat.reduceAdd,Nat.reduceMul,Nat.reduceSub,Nat.reduceLT,Nat.reduceLeDiff,Nat.reduceEqDiff,Nat.reduceBEq,Nat.reduceBeqDiff,Int.reduceEq,Int.reduceLT,Int.reduceLE,Int.reduceToNat,Int.reduceNeg,Int.reduceAdd,Int.reduceSub,Int.reduceMul,reduceIte,reduceCtorEq,Nat.reducePow,Nat.reduceDiv,Nat.reduceMod,Int.reduceBEq,h0,ne_eq,stkR,stk0,Stk.dd,List.map_nil,not_false_eq_true,if_true]
   ·obtain⟨sp,sr,sb⟩:=sx
    simp only at SH
    have op0: ¬i.op=0:=by omega
    have op1: ¬i.op=1:=by omega
    have le5: ¬i.op≤5:=by omega
    have op11:i.op=11:=by omega
    rw[if_neg (show ¬(i.op=0) by omega),if_neg (show ¬(i.op=1) by omega),if_pos (show i.op≤5∨i.op=11 by omega)]
    have P:=rnested_ev fu n b ⟨s,0⟩ hb hm hR i
    generalize nestedS ⟨s,0⟩ i=w at*
    simp only[wk,TEnv.dd,TInstr.d,byt1] at P
    simp only[op11] at I SH
    try simp only[op11] at P
    simp only[go_sem,Nat.reduceAdd,Nat.reduceMul,Nat.reduceSub,Nat.reduceLT,Nat.reduceLeDiff,Nat.reduceEqDiff,Nat.reduceBEq,Nat.reduceBeqDiff,Int.reduceEq,Int.reduceLT,Int.reduceLE,Int.reduceToNat,Int.reduceNeg,Int.reduceAdd,Int.reduceSub,Int.reduceMul,reduceIte,reduceCtorEq,Nat.reducePow,Nat.reduceDiv,Nat.reduceMod,Int.reduceBEq,Stk.dd,TEnv.dd,TInstr.d,S,I,SH,op0,op1,le5,op11,P]
    by_cases h0:w.e=0
    ·simp only[go_sem,Nat.reduceAdd,Nat.reduceMul,Nat.reduceSub,Nat.reduceLT,Nat.reduceLeDiff,Nat.reduceEqDiff,Nat.reduceBEq,Nat.reduceBeqDiff,Int.reduceEq,Int.reduceLT,Int.reduceLE,Int.reduceToNat,Int.reduceNeg,Int.reduceAdd,Int.reduceSub,Int.reduceMul,reduceIte,reduceCtorEq,Nat.reducePow,Nat.reduceDiv,Nat.reduceMod,Int.reduceBEq,h0,ne_eq,stkR,Stk.dd,not_true_eq_false,if_false]
    ·simp only[go_sem,Nat.reduceAdd,Nat.reduceMul,Nat.reduceSub,Nat.reduceLT,Nat.reduceLeDiff,Nat.reduceEqDiff,Nat.reduceBEq,Nat.reduceBeqDiff,Int.reduceEq,Int.reduceLT,Int.reduceLE,Int.reduceToNat,Int.reduceNeg,Int.reduceAdd,Int.reduceSub,Int.reduceMul,reduceIte,reduceCtorEq,Nat.reducePow,Nat.reduceDiv,Nat.reduceMod,Int.reduceBEq,h0,ne_eq]
     (rw[cond_free];rotate_left;·rfl)
     simp only[go_sem,Nat.reduceAdd,Nat.reduceMul,Nat.reduceSub,Nat.reduceLT,Nat.reduceLeDiff,Nat.reduceEqDiff,Nat.reduceBEq,Nat.reduceBeqDiff,Int.reduceEq,Int.reduceLT,Int.reduceLE,Int.reduceToNat,Int.reduceNeg,Int.reduceAdd,Int.reduceSub,Int.reduceMul,reduceIte,reduceCtorEq,Nat.reducePow,Nat.reduceDiv,Nat.reduceMod,Int.reduceBEq,h0,ne_eq,stkR,stk0,Stk.dd,List.map_nil,not_false_eq_true,if_true]
   ·obtain⟨sp,sr,sb⟩:=sx
    simp only at SH
    have op0: ¬i.op=0:=by omega
    have op1: ¬i.op=1:=by omega
    have le5: ¬i.op≤5:=by omega
    have op11: ¬i.op=11:=by omega
    have le15:i.op≤15:=by omega
    rw[if_neg (show ¬(i.op=0) by omega),if_neg (show ¬(i.op=1) by omega),if_neg (show ¬(i.op≤5∨i.op=11) by omega),if_pos (show i.op≤15 by omega)]
    have P:=rbranch_ev fu n b e he ⟨s,0⟩ hb hm hR i (by omega) (by omega) hl hl2 hls
    generalize branchS e ⟨s,0⟩ i=w at*
    simp only[wk,TEnv.dd,TInstr.d,byt1] at P
    simp only[go_sem,Nat.reduceAdd,Nat.reduceMul,Nat.reduceSub,Nat.reduceLT,Nat.reduceLeDiff,Nat.reduceEqDiff,Nat.reduceBEq,Nat.reduceBeqDiff,Int.reduceEq,Int.reduceLT,Int.reduceLE,Int.reduceToNat,Int.reduceNeg,Int.reduceAdd,Int.reduceSub,Int.reduceMul,reduceIte,reduceCtorEq,Nat.reducePow,Nat.reduceDiv,Nat.reduceMod,Int.reduceBEq,Stk.dd,TEnv.dd,TInstr.d,S,I,SH,op0,op1,le5,op11,le15,P]
    by_cases h0:w.e=0
    ·simp only[go_sem,Nat.reduceAdd,Nat.reduceMul,Nat.reduceSub,Nat.reduceLT,Nat.reduceLeDiff,Nat.reduceEqDiff,Nat.reduceBEq,Nat.reduceBeqDiff,Int.reduceEq,Int.reduceLT,Int.reduceLE,Int.reduceToNat,Int.reduceNeg,Int.reduceAdd,Int.reduceSub,Int.reduceMul,reduceIte,reduceCtorEq,Nat.reducePow,Nat.reduceDiv,Nat.reduceMod,Int.reduceBEq,h0,ne_eq,stkR,Stk.dd,not_true_eq_false,if_false]
    ·simp only[go_sem,Nat.reduceAdd,Nat.reduceMul,Nat.reduceSub,Nat.reduceLT,Nat.reduceLeDiff,Nat.reduceEqDiff,Nat.reduceBEq,Nat.reduceBeqDiff,Int.reduceEq,Int.reduceLT,Int.reduceLE,Int.reduceToNat,Int.reduceNeg,Int.reduceAdd,Int.reduceSub,Int.reduceMul,reduceIte,reduceCtorEq,Nat.reducePow,Nat.reduceDiv,Nat.reduceMod,Int.reduceBEq,h0,ne_eq]
     (rw[cond_free];rotate_left;·rfl)
     simp only[go_sem,Nat.reduceAdd,Nat.reduceMul,Nat.reduceSub,Nat.reduceLT,Nat.reduceLeDiff,Nat.reduceEqDiff,Nat.reduceBEq,Nat.reduceBeqDiff,Int.reduceEq,Int.reduceLT,Int.reduceLE,Int.reduceToNat,Int.reduceNeg,Int.reduceAdd,Int.reduceSub,Int.reduceMul,reduceIte,reduceCtorEq,Nat.reducePow,Nat.reduceDiv,Nat.reduceMod,Int.reduceBEq,h0,ne_eq,stkR,stk0,Stk.dd,List.map_nil,not_false_eq_true,if_true]
   ·obtain⟨sp,sr,sb⟩:=sx
    simp only at SH
    have op0: ¬i.op=0:=by omega
    have op1: ¬i.op=1:=by omega
    have le5: ¬i.op≤5:=by omega
    have op11: ¬i.op=11:=by omega
    have le15:i.op≤15:=by omega
    rw[if_neg (show ¬(i.op=0) by omega),if_neg (show ¬(i.op=1) by omega),if_neg (show ¬(i.op≤5∨i.op=11) by omega),if_pos (show i.op≤15 by omega)]
    have P:=rret_ev fu n b e he ⟨s,0⟩ hb hm hR i h
    generalize branchS e ⟨s,0⟩ i=w at*
    simp only[wk,TEnv.dd,TInstr.d,byt1] at P
    simp only[go_sem,Nat.reduceAdd,Nat.reduceMul,Nat.reduceSub,Nat.reduceLT,Nat.reduceLeDiff,Nat.reduceEqDiff,Nat.reduceBEq,Nat.reduceBeqDiff,Int.reduceEq,Int.reduceLT,Int.reduceLE,Int.reduceToNat,Int.reduceNeg,Int.reduceAdd,Int.reduceSub,Int.reduceMul,reduceIte,reduceCtorEq,Nat.reducePow,Nat.reduceDiv,Nat.reduceMod,Int.reduceBEq,Stk.dd,TEnv.dd,TInstr.d,S,I,SH,op0,op1,le5,op11,le15,P]
    by_cases h0:w.e=0
    ·simp only[go_sem,Nat.reduceAdd,Nat.reduceMul,Nat.reduceSub,Nat.reduceLT,Nat.reduceLeDiff,Nat.reduceEqDiff,Nat.reduceBEq,Nat.reduceBeqDiff,Int.reduceEq,Int.reduceLT,Int.reduceLE,Int.reduceToNat,Int.reduceNeg,Int.reduceAdd,Int.reduceSub,Int.reduceMul,reduceIte,reduceCtorEq,Nat.reducePow,Nat.reduceDiv,Nat.reduceMod,Int.reduceBEq,h0,ne_eq,stkR,Stk.dd,not_true_eq_false,if_false]
    ·simp only[go_sem,Nat.reduceAdd,Nat.reduceMul,Nat.reduceSub,Nat.reduceLT,Nat.reduceLeDiff,Nat.reduceEqDiff,Nat.reduceBEq,Nat.reduceBeqDiff,Int.reduceEq,Int.reduceLT,Int.reduceLE,Int.reduceToNat,Int.reduceNeg,Int.reduceAdd,Int.reduceSub,Int.reduceMul,reduceIte,reduceCtorEq,Nat.reducePow,Nat.reduceDiv,Nat.reduceMod,Int.reduceBEq,h0,ne_eq]
     (rw[cond_free];rotate_left;·rfl)
     simp only[go_sem,Nat.reduceAdd,Nat.reduceMul,Nat.reduceSub,Nat.reduceLT,Nat.reduceLeDiff,Nat.reduceEqDiff,Nat.reduceBEq,Nat.reduceBeqDiff,Int.reduceEq,Int.reduceLT,Int.reduceLE,Int.reduceToNat,Int.reduceNeg,Int.reduceAdd,Int.reduceSub,Int.reduceMul,reduceIte,reduceCtorEq,Nat.reducePow,Nat.reduceDiv,Nat.reduceMod,Int.reduceBEq,h0,ne_eq,stkR,stk0,Stk.dd,List.map_nil,not_false_eq_true,if_true]
   ·obtain⟨sp,sr,sb⟩:=sx
    simp only at SH
    have op0: ¬i.op=0:=by omega
    have op1: ¬i.op=1:=by omega
    have le5: ¬i.op≤5:=by omega
    have op11: ¬i.op=11:=by omega
    have le15: ¬i.op≤15:=by omega
    have le17:i.op≤17:=by omega
    rw[if_neg (show ¬(i.op=0) by omega),if_neg (show ¬(i.op=1) by omega),if_neg (show ¬(i.op≤5∨i.op=11) by omega),if_neg (show ¬(i.op≤15) by omega),if_pos (show i.op≤17 by omega)]
    have P:=rcall_ev fu n b e he ⟨s,0⟩ hb hm hR i ha0.1 (.inl h)
    generalize callS e ⟨s,0⟩ i=w at*
    simp only[wk,TEnv.dd,TInstr.d,byt1] at P
    simp only[go_sem,Nat.reduceAdd,Nat.reduceMul,Nat.reduceSub,Nat.reduceLT,Nat.reduceLeDiff,Nat.reduceEqDiff,Nat.reduceBEq,Nat.reduceBeqDiff,Int.reduceEq,Int.reduceLT,Int.reduceLE,Int.reduceToNat,Int.reduceNeg,Int.reduceAdd,Int.reduceSub,Int.reduceMul,reduceIte,reduceCtorEq,Nat.reducePow,Nat.reduceDiv,Nat.reduceMod,Int.reduceBEq,Stk.dd,TEnv.dd,TInstr.d,S,I,SH,op0,op1,le5,op11,le15,le17,P]
    by_cases h0:w.e=0
    ·simp only[go_sem,Nat.reduceAdd,Nat.reduceMul,Nat.reduceSub,Nat.reduceLT,Nat.reduceLeDiff,Nat.reduceEqDiff,Nat.reduceBEq,Nat.reduceBeqDiff,Int.reduceEq,Int.reduceLT,Int.reduceLE,Int.reduceToNat,Int.reduceNeg,Int.reduceAdd,Int.reduceSub,Int.reduceMul,reduceIte,reduceCtorEq,Nat.reducePow,Nat.reduceDiv,Nat.reduceMod,Int.reduceBEq,h0,ne_eq,stkR,Stk.dd,not_true_eq_false,if_false]
    ·simp only[go_sem,Nat.reduceAdd,Nat.reduceMul,Nat.reduceSub,Nat.reduceLT,Nat.reduceLeDiff,Nat.reduceEqDiff,Nat.reduceBEq,Nat.reduceBeqDiff,Int.reduceEq,Int.reduceLT,Int.reduceLE,Int.reduceToNat,Int.reduceNeg,Int.reduceAdd,Int.reduceSub,Int.reduceMul,reduceIte,reduceCtorEq,Nat.reducePow,Nat.reduceDiv,Nat.reduceMod,Int.reduceBEq,h0,ne_eq]
     (rw[cond_free];rotate_left;·rfl)
     simp only[go_sem,Nat.reduceAdd,Nat.reduceMul,Nat.reduceSub,Nat.reduceLT,Nat.reduceLeDiff,Nat.reduceEqDiff,Nat.reduceBEq,Nat.reduceBeqDiff,Int.reduceEq,Int.reduceLT,Int.reduceLE,Int.reduceToNat,Int.reduceNeg,Int.reduceAdd,Int.reduceSub,Int.reduceMul,reduceIte,reduceCtorEq,Nat.reducePow,Nat.reduceDiv,Nat.reduceMod,Int.reduceBEq,h0,ne_eq,stkR,stk0,Stk.dd,List.map_nil,not_false_eq_true,if_true]
   ·obtain⟨sp,sr,sb⟩:=sx
    simp only at SH
    have op0: ¬i.op=0:=by omega
    have op1: ¬i.op=1:=by omega
    have le5: ¬i.op≤5:=by omega
    have op11: ¬i.op=11:=by omega
    have le15: ¬i.op≤15:=by omega
    have le17:i.op≤17:=by omega
    rw[if_neg (show ¬(i.op=0) by omega),if_neg (show ¬(i.op=1) by omega),if_neg (show ¬(i.op≤5∨i.op=11) by omega),if_neg (show ¬(i.op≤15) by omega),if_pos (show i.op≤17 by omega)]
    have P:=rcall_ev fu n b e he ⟨s,0⟩ hb hm hR i ha0.1 (.inr h)
    generalize callS e ⟨s,0⟩ i=w at*
    simp only[wk,TEnv.dd,TInstr.d,byt1] at P
    simp only[go_sem,Nat.reduceAdd,Nat.reduceMul,Nat.reduceSub,Nat.reduceLT,Nat.reduceLeDiff,Nat.reduceEqDiff,Nat.reduceBEq,Nat.reduceBeqDiff,Int.reduceEq,Int.reduceLT,Int.reduceLE,Int.reduceToNat,Int.reduceNeg,Int.reduceAdd,Int.reduceSub,Int.reduceMul,reduceIte,reduceCtorEq,Nat.reducePow,Nat.reduceDiv,Nat.reduceMod,Int.reduceBEq,Stk.dd,TEnv.dd,TInstr.d,S,I,SH,op0,op1,le5,op11,le15,le17,P]
    by_cases h0:w.e=0
    ·simp only[go_sem,Nat.reduceAdd,Nat.reduceMul,Nat.reduceSub,Nat.reduceLT,Nat.reduceLeDiff,Nat.reduceEqDiff,Nat.reduceBEq,Nat.reduceBeqDiff,Int.reduceEq,Int.reduceLT,Int.reduceLE,Int.reduceToNat,Int.reduceNeg,Int.reduceAdd,Int.reduceSub,Int.reduceMul,reduceIte,reduceCtorEq,Nat.reducePow,Nat.reduceDiv,Nat.reduceMod,Int.reduceBEq,h0,ne_eq,stkR,Stk.dd,not_true_eq_false,if_false]
    ·simp only[go_sem,Nat.reduceAdd,Nat.reduceMul,Nat.reduceSub,Nat.reduceLT,Nat.reduceLeDiff,Nat.reduceEqDiff,Nat.reduceBEq,Nat.reduceBeqDiff,Int.reduceEq,Int.reduceLT,Int.reduceLE,Int.reduceToNat,Int.reduceNeg,Int.reduceAdd,Int.reduceSub,Int.reduceMul,reduceIte,reduceCtorEq,Nat.reducePow,Nat.reduceDiv,Nat.reduceMod,Int.reduceBEq,h0,ne_eq]
     (rw[cond_free];rotate_left;·rfl)
     simp only[go_sem,Nat.reduceAdd,Nat.reduceMul,Nat.reduceSub,Nat.reduceLT,Nat.reduceLeDiff,Nat.reduceEqDiff,Nat.reduceBEq,Nat.reduceBeqDiff,Int.reduceEq,Int.reduceLT,Int.reduceLE,Int.reduceToNat,Int.reduceNeg,Int.reduceAdd,Int.reduceSub,Int.reduceMul,reduceIte,reduceCtorEq,Nat.reducePow,Nat.reduceDiv,Nat.reduceMod,Int.reduceBEq,h0,ne_eq,stkR,stk0,Stk.dd,List.map_nil,not_false_eq_true,if_true]
   ·obtain⟨sp,sr,sb⟩:=sx
    simp only at SH
    have op0: ¬i.op=0:=by omega
    have op1: ¬i.op=1:=by omega
    have le5: ¬i.op≤5:=by omega
    have op11: ¬i.op=11:=by omega
    have le15: ¬i.op≤15:=by omega
    have le17: ¬i.op≤17:=by omega
    have le27:i.op≤27:=by omega
    rw[if_neg (show ¬(i.op=0) by omega),if_neg (show ¬(i.op=1) by omega),if_neg (show ¬(i.op≤5∨i.op=11) by omega),if_neg (show ¬(i.op≤15) by omega),if_neg (show ¬(i.op≤17) by omega),if_pos (show i.op≤27 by omega)]
    have P:=rchosen_ev fu n b ⟨s,0⟩ hb hm hR i
    generalize chosenS ⟨s,0⟩ i=w at*
    simp only[wk,TEnv.dd,TInstr.d,byt1] at P
    simp only[go_sem,Nat.reduceAdd,Nat.reduceMul,Nat.reduceSub,Nat.reduceLT,Nat.reduceLeDiff,Nat.reduceEqDiff,Nat.reduceBEq,Nat.reduceBeqDiff,Int.reduceEq,Int.reduceLT,Int.reduceLE,Int.reduceToNat,Int.reduceNeg,Int.reduceAdd,Int.reduceSub,Int.reduceMul,reduceIte,reduceCtorEq,Nat.reducePow,Nat.reduceDiv,Nat.reduceMod,Int.reduceBEq,Stk.dd,TEnv.dd,TInstr.d,S,I,SH,op0,op1,le5,op11,le15,le17,le27,P]
    by_cases h0:w.e=0
    ·simp only[go_sem,Nat.reduceAdd,Nat.reduceMul,Nat.reduceSub,Nat.reduceLT,Nat.reduceLeDiff,Nat.reduceEqDiff,Nat.reduceBEq,Nat.reduceBeqDiff,Int.reduceEq,Int.reduceLT,Int.reduceLE,Int.reduceToNat,Int.reduceNeg,Int.reduceAdd,Int.reduceSub,Int.reduceMul,reduceIte,reduceCtorEq,Nat.reducePow,Nat.reduceDiv,Nat.reduceMod,Int.reduceBEq,h0,ne_eq,stkR,Stk.dd,not_true_eq_false,if_false]
    ·simp only[go_sem,Nat.reduceAdd,Nat.reduceMul,Nat.reduceSub,Nat.reduceLT,Nat.reduceLeDiff,Nat.reduceEqDiff,Nat.reduceBEq,Nat.reduceBeqDiff,Int.reduceEq,Int.reduceLT,Int.reduceLE,Int.reduceToNat,Int.reduceNeg,Int.reduceAdd,Int.reduceSub,Int.reduceMul,reduceIte,reduceCtorEq,Nat.reducePow,Nat.reduceDiv,Nat.reduceMod,Int.reduceBEq,h0,ne_eq]
     (rw[cond_free];rotate_left;·rfl)
     simp only[go_sem,Nat.reduceAdd,Nat.reduceMul,Nat.reduceSub,Nat.reduceLT,Nat.reduceLeDiff,Nat.reduceEqDiff,Nat.reduceBEq,Nat.reduceBeqDiff,Int.reduceEq,Int.reduceLT,Int.reduceLE,Int.reduceToNat,Int.reduceNeg,Int.reduceAdd,Int.reduceSub,Int.reduceMul,reduceIte,reduceCtorEq,Nat.reducePow,Nat.reduceDiv,Nat.reduceMod,Int.reduceBEq,h0,ne_eq,stkR,stk0,Stk.dd,List.map_nil,not_false_eq_true,if_true]
   ·obtain⟨sp,sr,sb⟩:=sx
    simp only at SH
    have op0: ¬i.op=0:=by omega
    have op1: ¬i.op=1:=by omega
    have le5: ¬i.op≤5:=by omega
    have op11: ¬i.op=11:=by omega
    have le15: ¬i.op≤15:=by omega
    have le17: ¬i.op≤17:=by omega
    have le27:i.op≤27:=by omega
    rw[if_neg (show ¬(i.op=0) by omega),if_neg (show ¬(i.op=1) by omega),if_neg (show ¬(i.op≤5∨i.op=11) by omega),if_neg (show ¬(i.op≤15) by omega),if_neg (show ¬(i.op≤17) by omega),if_pos (show i.op≤27 by omega)]
    have P:=rchosen_ev fu n b ⟨s,0⟩ hb hm hR i
    generalize chosenS ⟨s,0⟩ i=w at*
    simp only[wk,TEnv.dd,TInstr.d,byt1] at P
    simp only[go_sem,Nat.reduceAdd,Nat.reduceMul,Nat.reduceSub,Nat.reduceLT,Nat.reduceLeDiff,Nat.reduceEqDiff,Nat.reduceBEq,Nat.reduceBeqDiff,Int.reduceEq,Int.reduceLT,Int.reduceLE,Int.reduceToNat,Int.reduceNeg,Int.reduceAdd,Int.reduceSub,Int.reduceMul,reduceIte,reduceCtorEq,Nat.reducePow,Nat.reduceDiv,Nat.reduceMod,Int.reduceBEq,Stk.dd,TEnv.dd,TInstr.d,S,I,SH,op0,op1,le5,op11,le15,le17,le27,P]
    by_cases h0:w.e=0
    ·simp only[go_sem,Nat.reduceAdd,Nat.reduceMul,Nat.reduceSub,Nat.reduceLT,Nat.reduceLeDiff,Nat.reduceEqDiff,Nat.reduceBEq,Nat.reduceBeqDiff,Int.reduceEq,Int.reduceLT,Int.reduceLE,Int.reduceToNat,Int.reduceNeg,Int.reduceAdd,Int.reduceSub,Int.reduceMul,reduceIte,reduceCtorEq,Nat.reducePow,Nat.reduceDiv,Nat.reduceMod,Int.reduceBEq,h0,ne_eq,stkR,Stk.dd,not_true_eq_false,if_false]
    ·simp only[go_sem,Nat.reduceAdd,Nat.reduceMul,Nat.reduceSub,Nat.reduceLT,Nat.reduceLeDiff,Nat.reduceEqDiff,Nat.reduceBEq,Nat.reduceBeqDiff,Int.reduceEq,Int.reduceLT,Int.reduceLE,Int.reduceToNat,Int.reduceNeg,Int.reduceAdd,Int.reduceSub,Int.reduceMul,reduceIte,reduceCtorEq,Nat.reducePow,Nat.reduceDiv,Nat.reduceMod,Int.reduceBEq,h0,ne_eq]
     (rw[cond_free];rotate_left;·rfl)
     simp only[go_sem,Nat.reduceAdd,Nat.reduceMul,Nat.reduceSub,Nat.reduceLT,Nat.reduceLeDiff,Nat.reduceEqDiff,Nat.reduceBEq,Nat.reduceBeqDiff,Int.reduceEq,Int.reduceLT,Int.reduceLE,Int.reduceToNat,Int.reduceNeg,Int.reduceAdd,Int.reduceSub,Int.reduceMul,reduceIte,reduceCtorEq,Nat.reducePow,Nat.reduceDiv,Nat.reduceMod,Int.reduceBEq,h0,ne_eq,stkR,stk0,Stk.dd,List.map_nil,not_false_eq_true,if_true]
   ·obtain⟨sp,sr,sb⟩:=sx
    simp only at SH
    have op0: ¬i.op=0:=by omega
    have op1: ¬i.op=1:=by omega
    have le5: ¬i.op≤5:=by omega
    have op11: ¬i.op=11:=by omega
    have le15: ¬i.op≤15:=by omega
    have le17: ¬i.op≤17:=by omega
    have le27: ¬i.op≤27:=by omega
    have le36:i.op≤36:=by omega
    rw[if_neg (show ¬(i.op=0) by omega),if_neg (show ¬(i.op=1) by omega),if_neg (show ¬(i.op≤5∨i.op=11) by omega),if_neg (show ¬(i.op≤15) by omega),if_neg (show ¬(i.op≤17) by omega),if_neg (show ¬(i.op≤27) by omega),if_pos (show i.op≤36 by omega)]
    have P:=rvars_ev fu n b e ⟨s,0⟩ hb hm hR i ha0.1 h
    generalize variableS e ⟨s,0⟩ i=w at*
    simp only[wk,TEnv.dd,TInstr.d,byt1] at P
    simp only[go_sem,Nat.reduceAdd,Nat.reduceMul,Nat.reduceSub,Nat.reduceLT,Nat.reduceLeDiff,Nat.reduceEqDiff,Nat.reduceBEq,Nat.reduceBeqDiff,Int.reduceEq,Int.reduceLT,Int.reduceLE,Int.reduceToNat,Int.reduceNeg,Int.reduceAdd,Int.reduceSub,Int.reduceMul,reduceIte,reduceCtorEq,Nat.reducePow,Nat.reduceDiv,Nat.reduceMod,Int.reduceBEq,Stk.dd,TEnv.dd,TInstr.d,S,I,SH,op0,op1,le5,op11,le15,le17,le27,le36,P]
    by_cases h0:w.e=0
    ·simp only[go_sem,Nat.reduceAdd,Nat.reduceMul,Nat.reduceSub,Nat.reduceLT,Nat.reduceLeDiff,Nat.reduceEqDiff,Nat.reduceBEq,Nat.reduceBeqDiff,Int.reduceEq,Int.reduceLT,Int.reduceLE,Int.reduceToNat,Int.reduceNeg,Int.reduceAdd,Int.reduceSub,Int.reduceMul,reduceIte,reduceCtorEq,Nat.reducePow,Nat.reduceDiv,Nat.reduceMod,Int.reduceBEq,h0,ne_eq,stkR,Stk.dd,not_true_eq_false,if_false]
    ·simp only[go_sem,Nat.reduceAdd,Nat.reduceMul,Nat.reduceSub,Nat.reduceLT,Nat.reduceLeDiff,Nat.reduceEqDiff,Nat.reduceBEq,Nat.reduceBeqDiff,Int.reduceEq,Int.reduceLT,Int.reduceLE,Int.reduceToNat,Int.reduceNeg,Int.reduceAdd,Int.reduceSub,Int.reduceMul,reduceIte,reduceCtorEq,Nat.reducePow,Nat.reduceDiv,Nat.reduceMod,Int.reduceBEq,h0,ne_eq]
     (rw[cond_free];rotate_left;·rfl)
     simp only[go_sem,Nat.reduceAdd,Nat.reduceMul,Nat.reduceSub,Nat.reduceLT,Nat.reduceLeDiff,Nat.reduceEqDiff,Nat.reduceBEq,Nat.reduceBeqDiff,Int.reduceEq,Int.reduceLT,Int.reduceLE,Int.reduceToNat,Int.reduceNeg,Int.reduceAdd,Int.reduceSub,Int.reduceMul,reduceIte,reduceCtorEq,Nat.reducePow,Nat.reduceDiv,Nat.reduceMod,Int.reduceBEq,h0,ne_eq,stkR,stk0,Stk.dd,List.map_nil,not_false_eq_true,if_true]
   ·obtain⟨sp,sr,sb⟩:=sx
    simp only at SH
    have op0: ¬i.op=0:=by omega
    have op1: ¬i.op=1:=by omega
    have le5: ¬i.op≤5:=by omega
    have op11: ¬i.op=11:=by omega
    have le15: ¬i.op≤15:=by omega
    have le17: ¬i.op≤17:=by omega
    have le27: ¬i.op≤27:=by omega
    have le36: ¬i.op≤36:=by omega
    have le64:i.op≤64:=by omega
    rw[if_neg (show ¬(i.op=0) by omega),if_neg (show ¬(i.op=1) by omega),if_neg (show ¬(i.op≤5∨i.op=11) by omega),if_neg (show ¬(i.op≤15) by omega),if_neg (show ¬(i.op≤17) by omega),if_neg (show ¬(i.op≤27) by omega),if_neg (show ¬(i.op≤36) by omega),if_pos (show i.op≤64 by omega)]
    have P:=rmemory_ev fu n b e ⟨s,0⟩ hb hm hR i ha0.1
    generalize memoryS accE e ⟨s,0⟩ i=w at*
    simp only[wk,TEnv.dd,TInstr.d,byt1] at P
    simp only[go_sem,Nat.reduceAdd,Nat.reduceMul,Nat.reduceSub,Nat.reduceLT,Nat.reduceLeDiff,Nat.reduceEqDiff,Nat.reduceBEq,Nat.reduceBeqDiff,Int.reduceEq,Int.reduceLT,Int.reduceLE,Int.reduceToNat,Int.reduceNeg,Int.reduceAdd,Int.reduceSub,Int.reduceMul,reduceIte,reduceCtorEq,Nat.reducePow,Nat.reduceDiv,Nat.reduceMod,Int.reduceBEq,Stk.dd,TEnv.dd,TInstr.d,S,I,SH,op0,op1,le5,op11,le15,le17,le27,le36,le64,P]
    by_cases h0:w.e=0
    ·simp only[go_sem,Nat.reduceAdd,Nat.reduceMul,Nat.reduceSub,Nat.reduceLT,Nat.reduceLeDiff,Nat.reduceEqDiff,Nat.reduceBEq,Nat.reduceBeqDiff,Int.reduceEq,Int.reduceLT,Int.reduceLE,Int.reduceToNat,Int.reduceNeg,Int.reduceAdd,Int.reduceSub,Int.reduceMul,reduceIte,reduceCtorEq,Nat.reducePow,Nat.reduceDiv,Nat.reduceMod,Int.reduceBEq,h0,ne_eq,stkR,Stk.dd,not_true_eq_false,if_false]
    ·simp only[go_sem,Nat.reduceAdd,Nat.reduceMul,Nat.reduceSub,Nat.reduceLT,Nat.reduceLeDiff,Nat.reduceEqDiff,Nat.reduceBEq,Nat.reduceBeqDiff,Int.reduceEq,Int.reduceLT,Int.reduceLE,Int.reduceToNat,Int.reduceNeg,Int.reduceAdd,Int.reduceSub,Int.reduceMul,reduceIte,reduceCtorEq,Nat.reducePow,Nat.reduceDiv,Nat.reduceMod,Int.reduceBEq,h0,ne_eq]
     (rw[cond_free];rotate_left;·rfl)
     simp only[go_sem,Nat.reduceAdd,Nat.reduceMul,Nat.reduceSub,Nat.reduceLT,Nat.reduceLeDiff,Nat.reduceEqDiff,Nat.reduceBEq,Nat.reduceBeqDiff,Int.reduceEq,Int.reduceLT,Int.reduceLE,Int.reduceToNat,Int.reduceNeg,Int.reduceAdd,Int.reduceSub,Int.reduceMul,reduceIte,reduceCtorEq,Nat.reducePow,Nat.reduceDiv,Nat.reduceMod,Int.reduceBEq,h0,ne_eq,stkR,stk0,Stk.dd,List.map_nil,not_false_eq_true,if_true]
   ·obtain⟨sp,sr,sb⟩:=sx
    simp only at SH
    have op0: ¬i.op=0:=by omega
    have op1: ¬i.op=1:=by omega
    have le5: ¬i.op≤5:=by omega
    have op11: ¬i.op=11:=by omega
    have le15: ¬i.op≤15:=by omega
    have le17: ¬i.op≤17:=by omega
    have le27: ¬i.op≤27:=by omega
    have le36: ¬i.op≤36:=by omega
    have le64: ¬i.op≤64:=by omega
    have op65:i.op=65:=by omega
    rw[if_neg (show ¬(i.op=0) by omega),if_neg (show ¬(i.op=1) by omega),if_neg (show ¬(i.op≤5∨i.op=11) by omega),if_neg (show ¬(i.op≤15) by omega),if_neg (show ¬(i.op≤17) by omega),if_neg (show ¬(i.op≤27) by omega),if_neg (show ¬(i.op≤36) by omega),if_neg (show ¬(i.op≤64) by omega),if_pos (show i.op=65 by omega)]
    have P:=wpush_ev fu (n+1) ⟨s,0⟩ [127] (hR.ok (by omega) (by omega)) (by simp;omega) (by simp)
    generalize(⟨s,0⟩:WkS).push [127]=w at*
    simp only[wk,TEnv.dd,TInstr.d,byt1] at P
    simp only[op65] at I SH
    try simp only[op65] at P
    simp only[go_sem,Nat.reduceAdd,Nat.reduceMul,Nat.reduceSub,Nat.reduceLT,Nat.reduceLeDiff,Nat.reduceEqDiff,Nat.reduceBEq,Nat.reduceBeqDiff,Int.reduceEq,Int.reduceLT,Int.reduceLE,Int.reduceToNat,Int.reduceNeg,Int.reduceAdd,Int.reduceSub,Int.reduceMul,reduceIte,reduceCtorEq,Nat.reducePow,Nat.reduceDiv,Nat.reduceMod,Int.reduceBEq,Stk.dd,TEnv.dd,TInstr.d,S,I,SH,op0,op1,le5,op11,le15,le17,le27,le36,le64,op65,P,I32]
    by_cases h0:w.e=0
    ·simp only[go_sem,Nat.reduceAdd,Nat.reduceMul,Nat.reduceSub,Nat.reduceLT,Nat.reduceLeDiff,Nat.reduceEqDiff,Nat.reduceBEq,Nat.reduceBeqDiff,Int.reduceEq,Int.reduceLT,Int.reduceLE,Int.reduceToNat,Int.reduceNeg,Int.reduceAdd,Int.reduceSub,Int.reduceMul,reduceIte,reduceCtorEq,Nat.reducePow,Nat.reduceDiv,Nat.reduceMod,Int.reduceBEq,h0,ne_eq,stkR,Stk.dd,not_true_eq_false,if_false]
    ·simp only[go_sem,Nat.reduceAdd,Nat.reduceMul,Nat.reduceSub,Nat.reduceLT,Nat.reduceLeDiff,Nat.reduceEqDiff,Nat.reduceBEq,Nat.reduceBeqDiff,Int.reduceEq,Int.reduceLT,Int.reduceLE,Int.reduceToNat,Int.reduceNeg,Int.reduceAdd,Int.reduceSub,Int.reduceMul,reduceIte,reduceCtorEq,Nat.reducePow,Nat.reduceDiv,Nat.reduceMod,Int.reduceBEq,h0,ne_eq]
     (rw[cond_free];rotate_left;·rfl)
     simp only[go_sem,Nat.reduceAdd,Nat.reduceMul,Nat.reduceSub,Nat.reduceLT,Nat.reduceLeDiff,Nat.reduceEqDiff,Nat.reduceBEq,Nat.reduceBeqDiff,Int.reduceEq,Int.reduceLT,Int.reduceLE,Int.reduceToNat,Int.reduceNeg,Int.reduceAdd,Int.reduceSub,Int.reduceMul,reduceIte,reduceCtorEq,Nat.reducePow,Nat.reduceDiv,Nat.reduceMod,Int.reduceBEq,h0,ne_eq,stkR,stk0,Stk.dd,List.map_nil,not_false_eq_true,if_true]
   ·obtain⟨sp,sr,sb⟩:=sx
    simp only at SH
    have op0: ¬i.op=0:=by omega
    have op1: ¬i.op=1:=by omega
    have le5: ¬i.op≤5:=by omega
    have op11: ¬i.op=11:=by omega
    have le15: ¬i.op≤15:=by omega
    have le17: ¬i.op≤17:=by omega
    have le27: ¬i.op≤27:=by omega
    have le36: ¬i.op≤36:=by omega
    have le64: ¬i.op≤64:=by omega
    have op65: ¬i.op=65:=by omega
    have op66:i.op=66:=by omega
    rw[if_neg (show ¬(i.op=0) by omega),if_neg (show ¬(i.op=1) by omega),if_neg (show ¬(i.op≤5∨i.op=11) by omega),if_neg (show ¬(i.op≤15) by omega),if_neg (show ¬(i.op≤17) by omega),if_neg (show ¬(i.op≤27) by omega),if_neg (show ¬(i.op≤36) by omega),if_neg (show ¬(i.op≤64) by omega),if_neg (show ¬(i.op=65) by omega),if_pos (show i.op=66 by omega)]
    have P:=wpush_ev fu (n+1) ⟨s,0⟩ [126] (hR.ok (by omega) (by omega)) (by simp;omega) (by simp)
    generalize(⟨s,0⟩:WkS).push [126]=w at*
    simp only[wk,TEnv.dd,TInstr.d,byt1] at P
    simp only[op66] at I SH
    try simp only[op66] at P
    simp only[go_sem,Nat.reduceAdd,Nat.reduceMul,Nat.reduceSub,Nat.reduceLT,Nat.reduceLeDiff,Nat.reduceEqDiff,Nat.reduceBEq,Nat.reduceBeqDiff,Int.reduceEq,Int.reduceLT,Int.reduceLE,Int.reduceToNat,Int.reduceNeg,Int.reduceAdd,Int.reduceSub,Int.reduceMul,reduceIte,reduceCtorEq,Nat.reducePow,Nat.reduceDiv,Nat.reduceMod,Int.reduceBEq,Stk.dd,TEnv.dd,TInstr.d,S,I,SH,op0,op1,le5,op11,le15,le17,le27,le36,le64,op65,op66,P]
    by_cases h0:w.e=0
    ·simp only[go_sem,Nat.reduceAdd,Nat.reduceMul,Nat.reduceSub,Nat.reduceLT,Nat.reduceLeDiff,Nat.reduceEqDiff,Nat.reduceBEq,Nat.reduceBeqDiff,Int.reduceEq,Int.reduceLT,Int.reduceLE,Int.reduceToNat,Int.reduceNeg,Int.reduceAdd,Int.reduceSub,Int.reduceMul,reduceIte,reduceCtorEq,Nat.reducePow,Nat.reduceDiv,Nat.reduceMod,Int.reduceBEq,h0,ne_eq,stkR,Stk.dd,not_true_eq_false,if_false]
    ·simp only[go_sem,Nat.reduceAdd,Nat.reduceMul,Nat.reduceSub,Nat.reduceLT,Nat.reduceLeDiff,Nat.reduceEqDiff,Nat.reduceBEq,Nat.reduceBeqDiff,Int.reduceEq,Int.reduceLT,Int.reduceLE,Int.reduceToNat,Int.reduceNeg,Int.reduceAdd,Int.reduceSub,Int.reduceMul,reduceIte,reduceCtorEq,Nat.reducePow,Nat.reduceDiv,Nat.reduceMod,Int.reduceBEq,h0,ne_eq]
     (rw[cond_free];rotate_left;·rfl)
     simp only[go_sem,Nat.reduceAdd,Nat.reduceMul,Nat.reduceSub,Nat.reduceLT,Nat.reduceLeDiff,Nat.reduceEqDiff,Nat.reduceBEq,Nat.reduceBeqDiff,Int.reduceEq,Int.reduceLT,Int.reduceLE,Int.reduceToNat,Int.reduceNeg,Int.reduceAdd,Int.reduceSub,Int.reduceMul,reduceIte,reduceCtorEq,Nat.reducePow,Nat.reduceDiv,Nat.reduceMod,Int.reduceBEq,h0,ne_eq,stkR,stk0,Stk.dd,List.map_nil,not_false_eq_true,if_true]
   ·obtain⟨p,r,hpr⟩:=hsh h
    have hp:=shape_short hpr
    rw[hpr] at hsx
    simp only at hsx
    subst hsx
    simp only at SH
    have op0: ¬i.op=0:=by omega
    have op1: ¬i.op=1:=by omega
    have le5: ¬i.op≤5:=by omega
    have op11: ¬i.op=11:=by omega
    have le15: ¬i.op≤15:=by omega
    have le17: ¬i.op≤17:=by omega
    have le27: ¬i.op≤27:=by omega
    have le36: ¬i.op≤36:=by omega
    have le64: ¬i.op≤64:=by omega
    have op65: ¬i.op=65:=by omega
    have op66: ¬i.op=66:=by omega
    rw[if_neg (show ¬(i.op=0) by omega),if_neg (show ¬(i.op=1) by omega),if_neg (show ¬(i.op≤5∨i.op=11) by omega),if_neg (show ¬(i.op≤15) by omega),if_neg (show ¬(i.op≤17) by omega),if_neg (show ¬(i.op≤27) by omega),if_neg (show ¬(i.op≤36) by omega),if_neg (show ¬(i.op≤64) by omega),if_neg (show ¬(i.op=65) by omega),if_neg (show ¬(i.op=66) by omega)]
    rw[hpr]
    simp only
    have P1:=wwant_ev fu (n+2) ⟨s,0⟩ p (hR.ok (by omega) (by omega)) (by omega) (by omega)
    have P2:=wpush_ev fu (n+1) ((⟨s,0⟩:WkS).want p) [r] ((hR.want p).ok (by omega) (by omega)) (by simp;omega) (by simp)
    generalize(⟨s,0⟩:WkS).want p=w1 at*
    generalize w1.push [r]=w at*
    simp only[wk,byt1] at P1 P2
    simp only[go_sem,Nat.reduceAdd,Nat.reduceMul,Nat.reduceSub,Nat.reduceLT,Nat.reduceLeDiff,Nat.reduceEqDiff,Nat.reduceBEq,Nat.reduceBeqDiff,Int.reduceEq,Int.reduceLT,Int.reduceLE,Int.reduceToNat,Int.reduceNeg,Int.reduceAdd,Int.reduceSub,Int.reduceMul,reduceIte,reduceCtorEq,Nat.reducePow,Nat.reduceDiv,Nat.reduceMod,Int.reduceBEq,Stk.dd,TEnv.dd,TInstr.d,S,I,SH,byt_takeL,op0,op1,le5,op11,le15,le17,le27,le36,le64,op65,op66,P1,P2]
    by_cases h0:w.e=0
    ·simp only[go_sem,Nat.reduceAdd,Nat.reduceMul,Nat.reduceSub,Nat.reduceLT,Nat.reduceLeDiff,Nat.reduceEqDiff,Nat.reduceBEq,Nat.reduceBeqDiff,Int.reduceEq,Int.reduceLT,Int.reduceLE,Int.reduceToNat,Int.reduceNeg,Int.reduceAdd,Int.reduceSub,Int.reduceMul,reduceIte,reduceCtorEq,Nat.reducePow,Nat.reduceDiv,Nat.reduceMod,Int.reduceBEq,h0,ne_eq,stkR,Stk.dd,not_true_eq_false,if_false]
    ·simp only[go_sem,Nat.reduceAdd,Nat.reduceMul,Nat.reduceSub,Nat.reduceLT,Nat.reduceLeDiff,Nat.reduceEqDiff,Nat.reduceBEq,Nat.reduceBeqDiff,Int.reduceEq,Int.reduceLT,Int.reduceLE,Int.reduceToNat,Int.reduceNeg,Int.reduceAdd,Int.reduceSub,Int.reduceMul,reduceIte,reduceCtorEq,Nat.reducePow,Nat.reduceDiv,Nat.reduceMod,Int.reduceBEq,h0,ne_eq]
     (rw[cond_free];rotate_left;·rfl)
     simp only[go_sem,Nat.reduceAdd,Nat.reduceMul,Nat.reduceSub,Nat.reduceLT,Nat.reduceLeDiff,Nat.reduceEqDiff,Nat.reduceBEq,Nat.reduceBeqDiff,Int.reduceEq,Int.reduceLT,Int.reduceLE,Int.reduceToNat,Int.reduceNeg,Int.reduceAdd,Int.reduceSub,Int.reduceMul,reduceIte,reduceCtorEq,Nat.reducePow,Nat.reduceDiv,Nat.reduceMod,Int.reduceBEq,h0,ne_eq,stkR,stk0,Stk.dd,List.map_nil,not_false_eq_true,if_true]
end Go.Proofs.YtfpioigggjnffaaGreatDoor.E
