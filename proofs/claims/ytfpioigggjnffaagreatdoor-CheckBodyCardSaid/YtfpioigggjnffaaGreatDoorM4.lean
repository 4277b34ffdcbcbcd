/- M4, L6. -/
import Derived.Test.YtfpioigggjnffaaGreatDoorR9
import Derived.Test.YtfpioigggjnffaaGreatDoorEvD
set_option linter.unnecessarySimpa false
set_option linter.unusedSimpArgs false
set_option linter.unusedVariables false
set_option autoImplicit false
set_option maxRecDepth 100000
set_option maxHeartbeats 4000000
set_option pp.maxSteps 20000
namespace Go.Proofs.YtfpioigggjnffaaGreatDoor.E
open Go.Ev
def k2F (op:Int):Int×Int:=if 69≤op∧op≤79 then(op-69,32) else if 80≤op∧op≤90 then(op-80,64) else if 103≤op∧op≤120 then(op-92,32) else if 121≤op∧op≤138 then(op-110,64) else(-1,0)
theorem k2_ev (fu n:Nat) (op:Int):evF (G fu) (n+1) 110 [.d (.int .i64 op)] []=some (.tup [.d (.int .i64 (k2F op).1), .d (.int .i64 (k2F op).2)],[]):=by
 rw[evF.eq_2,evX.eq_def,Gext,exts_no _ (f:=110) (by decide),GP,Tryz.func110];simp only[Tryz.f110,evB]
 rcases(by omega:op≤68∨(69≤op∧op≤79)∨(80≤op∧op≤90)∨(91≤op∧op≤102)∨(103≤op∧op≤120)∨(121≤op∧op≤138)∨139≤op) with h|h|h|h|h|h|h
 ·have e:k2F op=(-1,0):=by unfold k2F;repeat (first|rw[if_pos (by omega)]|rw[if_neg (by omega)])
  rw[e]
  simp only[go_sem,Nat.reduceAdd,Nat.reduceMul,Nat.reduceSub,Nat.reduceLT,Nat.reduceLeDiff,Nat.reduceEqDiff,Nat.reduceBEq,Nat.reduceBeqDiff,Int.reduceEq,Int.reduceLT,Int.reduceLE,Int.reduceToNat,Int.reduceNeg,Int.reduceAdd,Int.reduceSub,Int.reduceMul,reduceIte,reduceCtorEq,Nat.reducePow,Nat.reduceDiv,Nat.reduceMod,Int.reduceBEq,show ¬(69:Int)≤op by omega,show op≤(79:Int) by omega,show ¬(80:Int)≤op by omega,show op≤(90:Int) by omega,show ¬(103:Int)≤op by omega,show op≤(120:Int) by omega,show ¬(121:Int)≤op by omega,show op≤(138:Int) by omega]
 ·have e:k2F op=(op-69,32):=by unfold k2F;repeat (first|rw[if_pos (by omega)]|rw[if_neg (by omega)])
  rw[e]
  simp only[go_sem,Nat.reduceAdd,Nat.reduceMul,Nat.reduceSub,Nat.reduceLT,Nat.reduceLeDiff,Nat.reduceEqDiff,Nat.reduceBEq,Nat.reduceBeqDiff,Int.reduceEq,Int.reduceLT,Int.reduceLE,Int.reduceToNat,Int.reduceNeg,Int.reduceAdd,Int.reduceSub,Int.reduceMul,reduceIte,reduceCtorEq,Nat.reducePow,Nat.reduceDiv,Nat.reduceMod,Int.reduceBEq,show(69:Int)≤op by omega,show op≤(79:Int) by omega,show ¬(80:Int)≤op by omega,show op≤(90:Int) by omega,show ¬(103:Int)≤op by omega,show op≤(120:Int) by omega,show ¬(121:Int)≤op by omega,show op≤(138:Int) by omega,wrap_i64 (show-9223372036854775808≤op-69 by omega) (by omega)]
 ·have e:k2F op=(op-80,64):=by unfold k2F;repeat (first|rw[if_pos (by omega)]|rw[if_neg (by omega)])
  rw[e]
  simp only[go_sem,Nat.reduceAdd,Nat.reduceMul,Nat.reduceSub,Nat.reduceLT,Nat.reduceLeDiff,Nat.reduceEqDiff,Nat.reduceBEq,Nat.reduceBeqDiff,Int.reduceEq,Int.reduceLT,Int.reduceLE,Int.reduceToNat,Int.reduceNeg,Int.reduceAdd,Int.reduceSub,Int.reduceMul,reduceIte,reduceCtorEq,Nat.reducePow,Nat.reduceDiv,Nat.reduceMod,Int.reduceBEq,show(69:Int)≤op by omega,show ¬op≤(79:Int) by omega,show(80:Int)≤op by omega,show op≤(90:Int) by omega,show ¬(103:Int)≤op by omega,show op≤(120:Int) by omega,show ¬(121:Int)≤op by omega,show op≤(138:Int) by omega,wrap_i64 (show-9223372036854775808≤op-80 by omega) (by omega)]
 ·have e:k2F op=(-1,0):=by unfold k2F;repeat (first|rw[if_pos (by omega)]|rw[if_neg (by omega)])
  rw[e]
  simp only[go_sem,Nat.reduceAdd,Nat.reduceMul,Nat.reduceSub,Nat.reduceLT,Nat.reduceLeDiff,Nat.reduceEqDiff,Nat.reduceBEq,Nat.reduceBeqDiff,Int.reduceEq,Int.reduceLT,Int.reduceLE,Int.reduceToNat,Int.reduceNeg,Int.reduceAdd,Int.reduceSub,Int.reduceMul,reduceIte,reduceCtorEq,Nat.reducePow,Nat.reduceDiv,Nat.reduceMod,Int.reduceBEq,show(69:Int)≤op by omega,show ¬op≤(79:Int) by omega,show(80:Int)≤op by omega,show ¬op≤(90:Int) by omega,show ¬(103:Int)≤op by omega,show op≤(120:Int) by omega,show ¬(121:Int)≤op by omega,show op≤(138:Int) by omega]
 ·have e:k2F op=(op-92,32):=by unfold k2F;repeat (first|rw[if_pos (by omega)]|rw[if_neg (by omega)])
  rw[e]
  simp only[go_sem,Nat.reduceAdd,Nat.reduceMul,Nat.reduceSub,Nat.reduceLT,Nat.reduceLeDiff,Nat.reduceEqDiff,Nat.reduceBEq,Nat.reduceBeqDiff,Int.reduceEq,Int.reduceLT,Int.reduceLE,Int.reduceToNat,Int.reduceNeg,Int.reduceAdd,Int.reduceSub,Int.reduceMul,reduceIte,reduceCtorEq,Nat.reducePow,Nat.reduceDiv,Nat.reduceMod,Int.reduceBEq,show(69:Int)≤op by omega,show ¬op≤(79:Int) by omega,show(80:Int)≤op by omega,show ¬op≤(90:Int) by omega,show(103:Int)≤op by omega,show op≤(120:Int) by omega,show ¬(121:Int)≤op by omega,show op≤(138:Int) by omega,wrap_i64 (show-9223372036854775808≤op-92 by omega) (by omega)]
 ·have e:k2F op=(op-110,64):=by unfold k2F;repeat (first|rw[if_pos (by omega)]|rw[if_neg (by omega)])
  rw[e]
  simp only[go_sem,Nat.reduceAdd,Nat.reduceMul,Nat.reduceSub,Nat.reduceLT,Nat.reduceLeDiff,Nat.reduceEqDiff,Nat.reduceBEq,Nat.reduceBeqDiff,Int.reduceEq,Int.reduceLT,Int.reduceLE,Int.reduceToNat,Int.reduceNeg,Int.reduceAdd,Int.reduceSub,Int.reduceMul,reduceIte,reduceCtorEq,Nat.reducePow,Nat.reduceDiv,Nat.reduceMod,Int.reduceBEq,show(69:Int)≤op by omega,show ¬op≤(79:Int) by omega,show(80:Int)≤op by omega,show ¬op≤(90:Int) by omega,show(103:Int)≤op by omega,show ¬op≤(120:Int) by omega,show(121:Int)≤op by omega,show op≤(138:Int) by omega,wrap_i64 (show-9223372036854775808≤op-110 by omega) (by omega)]
 ·have e:k2F op=(-1,0):=by unfold k2F;repeat (first|rw[if_pos (by omega)]|rw[if_neg (by omega)])
  rw[e]
  simp only[go_sem,Nat.reduceAdd,Nat.reduceMul,Nat.reduceSub,Nat.reduceLT,Nat.reduceLeDiff,Nat.reduceEqDiff,Nat.reduceBEq,Nat.reduceBeqDiff,Int.reduceEq,Int.reduceLT,Int.reduceLE,Int.reduceToNat,Int.reduceNeg,Int.reduceAdd,Int.reduceSub,Int.reduceMul,reduceIte,reduceCtorEq,Nat.reducePow,Nat.reduceDiv,Nat.reduceMod,Int.reduceBEq,show(69:Int)≤op by omega,show ¬op≤(79:Int) by omega,show(80:Int)≤op by omega,show ¬op≤(90:Int) by omega,show(103:Int)≤op by omega,show ¬op≤(120:Int) by omega,show(121:Int)≤op by omega,show ¬op≤(138:Int) by omega]
theorem of32_ev (fu n:Nat):evF (G fu) (n+1) 111 [.d (.int .i64 32)] []=some (.d (.int .u8 127),[]):=by
 rw[evF.eq_2,evX.eq_def,Gext,exts_no _ (f:=111) (by decide),GP,Tryz.func111];simp only[Tryz.f111,evB]
 simp only[go_sem,Nat.reduceAdd,Nat.reduceMul,Nat.reduceSub,Nat.reduceLT,Nat.reduceLeDiff,Nat.reduceEqDiff,Nat.reduceBEq,Nat.reduceBeqDiff,Int.reduceEq,Int.reduceLT,Int.reduceLE,Int.reduceToNat,Int.reduceNeg,Int.reduceAdd,Int.reduceSub,Int.reduceMul,reduceIte,reduceCtorEq,Nat.reducePow,Nat.reduceDiv,Nat.reduceMod,Int.reduceBEq]
theorem of64_ev (fu n:Nat):evF (G fu) (n+1) 111 [.d (.int .i64 64)] []=some (.d (.int .u8 126),[]):=by
 rw[evF.eq_2,evX.eq_def,Gext,exts_no _ (f:=111) (by decide),GP,Tryz.func111];simp only[Tryz.f111,evB]
 simp only[go_sem,Nat.reduceAdd,Nat.reduceMul,Nat.reduceSub,Nat.reduceLT,Nat.reduceLeDiff,Nat.reduceEqDiff,Nat.reduceBEq,Nat.reduceBeqDiff,Int.reduceEq,Int.reduceLT,Int.reduceLE,Int.reduceToNat,Int.reduceNeg,Int.reduceAdd,Int.reduceSub,Int.reduceMul,reduceIte,reduceCtorEq,Nat.reducePow,Nat.reduceDiv,Nat.reduceMod,Int.reduceBEq]
def shape2F (op:Int):List Int×Int×Bool:=
 if op=167 then([126],127,true) else if op=172∨op=173 then([127],126,true) else if op=69 then([127],127,true) else if 70≤op∧op≤79 then([127,127],127,true)
 else if op=80 then([126],127,true) else if 81≤op∧op≤90 then([126,126],127,true) else if 103≤op∧op≤105 then([127],127,true) else if 106≤op∧op≤120 then([127,127],127,true)
 else if 121≤op∧op≤123 then([126],126,true) else if 124≤op∧op≤138 then([126,126],126,true) else([],0,false)
def shape2R (s:List Int×Int×Bool):Option Res:=some (.tup [.row 0 0 0 s.1.length, .d (.int .u8 s.2.1), .d (.bool s.2.2)],[.row 1 (byt s.1) 0 false false])
theorem shape2_ev (fu n:Nat) (op:Int):evF (G fu) (n+2) 50 [.d (.int .i64 op)] []=shape2R (shape2F op):=by
 have hk:=k2_ev fu n op
 have o32:=of32_ev fu n
 have o64:=of64_ev fu n
 rw[evF.eq_2,evX.eq_def,Gext,exts_no _ (f:=50) (by decide),GP,Tryz.func50];simp only[Tryz.f50,evB]
 rcases(by omega:op≤68∨op=69∨(70≤op∧op≤79)∨op=80∨(81≤op∧op≤90)∨(91≤op∧op≤102)∨(103≤op∧op≤105)∨(106≤op∧op≤120)∨(121≤op∧op≤123)∨(124≤op∧op≤138)∨(139≤op∧op≤166)∨op=167∨(168≤op∧op≤171)∨(172≤op∧op≤173)∨174≤op) with h|h|h|h|h|h|h|h|h|h|h|h|h|h|h
 ·have e:k2F op=(-1,0):=by unfold k2F;repeat (first|rw[if_pos (by omega)]|rw[if_neg (by omega)])
  have e2:shape2F op=([],0,false):=by unfold shape2F;repeat (first|rw[if_pos (by omega)]|rw[if_neg (by omega)])
  rw[e2]
  rw[e] at hk
  simp only[go_sem,Nat.reduceAdd,Nat.reduceMul,Nat.reduceSub,Nat.reduceLT,Nat.reduceLeDiff,Nat.reduceEqDiff,Nat.reduceBEq,Nat.reduceBeqDiff,Int.reduceEq,Int.reduceLT,Int.reduceLE,Int.reduceToNat,Int.reduceNeg,Int.reduceAdd,Int.reduceSub,Int.reduceMul,reduceIte,reduceCtorEq,Nat.reducePow,Nat.reduceDiv,Nat.reduceMod,Int.reduceBEq,hk,o32,o64,shape2R,show ¬op=(167:Int) by omega,show ¬op=(172:Int) by omega,show ¬op=(173:Int) by omega]
  try rfl
 ·have e:k2F op=(op-69,32):=by unfold k2F;repeat (first|rw[if_pos (by omega)]|rw[if_neg (by omega)])
  have e2:shape2F op=([127],127,true):=by unfold shape2F;repeat (first|rw[if_pos (by omega)]|rw[if_neg (by omega)])
  rw[e2]
  rw[e] at hk
  subst h
  simp only[go_sem,Nat.reduceAdd,Nat.reduceMul,Nat.reduceSub,Nat.reduceLT,Nat.reduceLeDiff,Nat.reduceEqDiff,Nat.reduceBEq,Nat.reduceBeqDiff,Int.reduceEq,Int.reduceLT,Int.reduceLE,Int.reduceToNat,Int.reduceNeg,Int.reduceAdd,Int.reduceSub,Int.reduceMul,reduceIte,reduceCtorEq,Nat.reducePow,Nat.reduceDiv,Nat.reduceMod,Int.reduceBEq,hk,o32,o64,shape2R]
  try rfl
 ·have e:k2F op=(op-69,32):=by unfold k2F;repeat (first|rw[if_pos (by omega)]|rw[if_neg (by omega)])
  have e2:shape2F op=([127,127],127,true):=by unfold shape2F;repeat (first|rw[if_pos (by omega)]|rw[if_neg (by omega)])
  rw[e2]
  rw[e] at hk
  simp only[go_sem,Nat.reduceAdd,Nat.reduceMul,Nat.reduceSub,Nat.reduceLT,Nat.reduceLeDiff,Nat.reduceEqDiff,Nat.reduceBEq,Nat.reduceBeqDiff,Int.reduceEq,Int.reduceLT,Int.reduceLE,Int.reduceToNat,Int.reduceNeg,Int.reduceAdd,Int.reduceSub,Int.reduceMul,reduceIte,reduceCtorEq,Nat.reducePow,Nat.reduceDiv,Nat.reduceMod,Int.reduceBEq,hk,o32,o64,shape2R,show ¬op=(167:Int) by omega,show ¬op=(172:Int) by omega,show ¬op=(173:Int) by omega,show ¬op-69<(0:Int) by omega,show ¬op-69=(0:Int) by omega,show op-69≤(10:Int) by omega,show op-69≤(13:Int) by omega]
  try rfl
 ·have e:k2F op=(op-80,64):=by unfold k2F;repeat (first|rw[if_pos (by omega)]|rw[if_neg (by omega)])
  have e2:shape2F op=([126],127,true):=by unfold shape2F;repeat (first|rw[if_pos (by omega)]|rw[if_neg (by omega)])
  rw[e2]
  rw[e] at hk
  subst h
  simp only[go_sem,Nat.reduceAdd,Nat.reduceMul,Nat.reduceSub,Nat.reduceLT,Nat.reduceLeDiff,Nat.reduceEqDiff,Nat.reduceBEq,Nat.reduceBeqDiff,Int.reduceEq,Int.reduceLT,Int.reduceLE,Int.reduceToNat,Int.reduceNeg,Int.reduceAdd,Int.reduceSub,Int.reduceMul,reduceIte,reduceCtorEq,Nat.reducePow,Nat.reduceDiv,Nat.reduceMod,Int.reduceBEq,hk,o32,o64,shape2R]
  try rfl
 ·have e:k2F op=(op-80,64):=by unfold k2F;repeat (first|rw[if_pos (by omega)]|rw[if_neg (by omega)])
  have e2:shape2F op=([126,126],127,true):=by unfold shape2F;repeat (first|rw[if_pos (by omega)]|rw[if_neg (by omega)])
  rw[e2]
  rw[e] at hk
  simp only[go_sem,Nat.reduceAdd,Nat.reduceMul,Nat.reduceSub,Nat.reduceLT,Nat.reduceLeDiff,Nat.reduceEqDiff,Nat.reduceBEq,Nat.reduceBeqDiff,Int.reduceEq,Int.reduceLT,Int.reduceLE,Int.reduceToNat,Int.reduceNeg,Int.reduceAdd,Int.reduceSub,Int.reduceMul,reduceIte,reduceCtorEq,Nat.reducePow,Nat.reduceDiv,Nat.reduceMod,Int.reduceBEq,hk,o32,o64,shape2R,show ¬op=(167:Int) by omega,show ¬op=(172:Int) by omega,show ¬op=(173:Int) by omega,show ¬op-80<(0:Int) by omega,show ¬op-80=(0:Int) by omega,show op-80≤(10:Int) by omega,show op-80≤(13:Int) by omega]
  try rfl
 ·have e:k2F op=(-1,0):=by unfold k2F;repeat (first|rw[if_pos (by omega)]|rw[if_neg (by omega)])
  have e2:shape2F op=([],0,false):=by unfold shape2F;repeat (first|rw[if_pos (by omega)]|rw[if_neg (by omega)])
  rw[e2]
  rw[e] at hk
  simp only[go_sem,Nat.reduceAdd,Nat.reduceMul,Nat.reduceSub,Nat.reduceLT,Nat.reduceLeDiff,Nat.reduceEqDiff,Nat.reduceBEq,Nat.reduceBeqDiff,Int.reduceEq,Int.reduceLT,Int.reduceLE,Int.reduceToNat,Int.reduceNeg,Int.reduceAdd,Int.reduceSub,Int.reduceMul,reduceIte,reduceCtorEq,Nat.reducePow,Nat.reduceDiv,Nat.reduceMod,Int.reduceBEq,hk,o32,o64,shape2R,show ¬op=(167:Int) by omega,show ¬op=(172:Int) by omega,show ¬op=(173:Int) by omega]
  try rfl
 ·have e:k2F op=(op-92,32):=by unfold k2F;repeat (first|rw[if_pos (by omega)]|rw[if_neg (by omega)])
  have e2:shape2F op=([127],127,true):=by unfold shape2F;repeat (first|rw[if_pos (by omega)]|rw[if_neg (by omega)])
  rw[e2]
  rw[e] at hk
  simp only[go_sem,Nat.reduceAdd,Nat.reduceMul,Nat.reduceSub,Nat.reduceLT,Nat.reduceLeDiff,Nat.reduceEqDiff,Nat.reduceBEq,Nat.reduceBeqDiff,Int.reduceEq,Int.reduceLT,Int.reduceLE,Int.reduceToNat,Int.reduceNeg,Int.reduceAdd,Int.reduceSub,Int.reduceMul,reduceIte,reduceCtorEq,Nat.reducePow,Nat.reduceDiv,Nat.reduceMod,Int.reduceBEq,hk,o32,o64,shape2R,show ¬op=(167:Int) by omega,show ¬op=(172:Int) by omega,show ¬op=(173:Int) by omega,show ¬op-92<(0:Int) by omega,show ¬op-92=(0:Int) by omega,show ¬op-92≤(10:Int) by omega,show op-92≤(13:Int) by omega]
  try rfl
 ·have e:k2F op=(op-92,32):=by unfold k2F;repeat (first|rw[if_pos (by omega)]|rw[if_neg (by omega)])
  have e2:shape2F op=([127,127],127,true):=by unfold shape2F;repeat (first|rw[if_pos (by omega)]|rw[if_neg (by omega)])
  rw[e2]
  rw[e] at hk
  simp only[go_sem,Nat.reduceAdd,Nat.reduceMul,Nat.reduceSub,Nat.reduceLT,Nat.reduceLeDiff,Nat.reduceEqDiff,Nat.reduceBEq,Nat.reduceBeqDiff,Int.reduceEq,Int.reduceLT,Int.reduceLE,Int.reduceToNat,Int.reduceNeg,Int.reduceAdd,Int.reduceSub,Int.reduceMul,reduceIte,reduceCtorEq,Nat.reducePow,Nat.reduceDiv,Nat.reduceMod,Int.reduceBEq,hk,o32,o64,shape2R,show ¬op=(167:Int) by omega,show ¬op=(172:Int) by omega,show ¬op=(173:Int) by omega,show ¬op-92<(0:Int) by omega,show ¬op-92=(0:Int) by omega,show ¬op-92≤(10:Int) by omega,show ¬op-92≤(13:Int) by omega]
  try rfl
 ·have e:k2F op=(op-110,64):=by unfold k2F;repeat (first|rw[if_pos (by omega)]|rw[if_neg (by omega)])
  have e2:shape2F op=([126],126,true):=by unfold shape2F;repeat (first|rw[if_pos (by omega)]|rw[if_neg (by omega)])
  rw[e2]
  rw[e] at hk
  simp only[go_sem,Nat.reduceAdd,Nat.reduceMul,Nat.reduceSub,Nat.reduceLT,Nat.reduceLeDiff,Nat.reduceEqDiff,Nat.reduceBEq,Nat.reduceBeqDiff,Int.reduceEq,Int.reduceLT,Int.reduceLE,Int.reduceToNat,Int.reduceNeg,Int.reduceAdd,Int.reduceSub,Int.reduceMul,reduceIte,reduceCtorEq,Nat.reducePow,Nat.reduceDiv,Nat.reduceMod,Int.reduceBEq,hk,o32,o64,shape2R,show ¬op=(167:Int) by omega,show ¬op=(172:Int) by omega,show ¬op=(173:Int) by omega,show ¬op-110<(0:Int) by omega,show ¬op-110=(0:Int) by omega,show ¬op-110≤(10:Int) by omega,show op-110≤(13:Int) by omega]
  try rfl
 ·have e:k2F op=(op-110,64):=by unfold k2F;repeat (first|rw[if_pos (by omega)]|rw[if_neg (by omega)])
  have e2:shape2F op=([126,126],126,true):=by unfold shape2F;repeat (first|rw[if_pos (by omega)]|rw[if_neg (by omega)])
  rw[e2]
  rw[e] at hk
  simp only[go_sem,Nat.reduceAdd,Nat.reduceMul,Nat.reduceSub,Nat.reduceLT,Nat.reduceLeDiff,Nat.reduceEqDiff,Nat.reduceBEq,Nat.reduceBeqDiff,Int.reduceEq,Int.reduceLT,Int.reduceLE,Int.reduceToNat,Int.reduceNeg,Int.reduceAdd,Int.reduceSub,Int.reduceMul,reduceIte,reduceCtorEq,Nat.reducePow,Nat.reduceDiv,Nat.reduceMod,Int.reduceBEq,hk,o32,o64,shape2R,show ¬op=(167:Int) by omega,show ¬op=(172:Int) by omega,show ¬op=(173:Int) by omega,show ¬op-110<(0:Int) by omega,show ¬op-110=(0:Int) by omega,show ¬op-110≤(10:Int) by omega,show ¬op-110≤(13:Int) by omega]
  try rfl
 ·have e:k2F op=(-1,0):=by unfold k2F;repeat (first|rw[if_pos (by omega)]|rw[if_neg (by omega)])
  have e2:shape2F op=([],0,false):=by unfold shape2F;repeat (first|rw[if_pos (by omega)]|rw[if_neg (by omega)])
  rw[e2]
  rw[e] at hk
  simp only[go_sem,Nat.reduceAdd,Nat.reduceMul,Nat.reduceSub,Nat.reduceLT,Nat.reduceLeDiff,Nat.reduceEqDiff,Nat.reduceBEq,Nat.reduceBeqDiff,Int.reduceEq,Int.reduceLT,Int.reduceLE,Int.reduceToNat,Int.reduceNeg,Int.reduceAdd,Int.reduceSub,Int.reduceMul,reduceIte,reduceCtorEq,Nat.reducePow,Nat.reduceDiv,Nat.reduceMod,Int.reduceBEq,hk,o32,o64,shape2R,show ¬op=(167:Int) by omega,show ¬op=(172:Int) by omega,show ¬op=(173:Int) by omega]
  try rfl
 ·have e:k2F op=(-1,0):=by unfold k2F;repeat (first|rw[if_pos (by omega)]|rw[if_neg (by omega)])
  have e2:shape2F op=([126],127,true):=by unfold shape2F;repeat (first|rw[if_pos (by omega)]|rw[if_neg (by omega)])
  rw[e2]
  rw[e] at hk
  subst h
  simp only[go_sem,Nat.reduceAdd,Nat.reduceMul,Nat.reduceSub,Nat.reduceLT,Nat.reduceLeDiff,Nat.reduceEqDiff,Nat.reduceBEq,Nat.reduceBeqDiff,Int.reduceEq,Int.reduceLT,Int.reduceLE,Int.reduceToNat,Int.reduceNeg,Int.reduceAdd,Int.reduceSub,Int.reduceMul,reduceIte,reduceCtorEq,Nat.reducePow,Nat.reduceDiv,Nat.reduceMod,Int.reduceBEq,hk,o32,o64,shape2R]
  try rfl
 ·have e:k2F op=(-1,0):=by unfold k2F;repeat (first|rw[if_pos (by omega)]|rw[if_neg (by omega)])
  have e2:shape2F op=([],0,false):=by unfold shape2F;repeat (first|rw[if_pos (by omega)]|rw[if_neg (by omega)])
  rw[e2]
  rw[e] at hk
  simp only[go_sem,Nat.reduceAdd,Nat.reduceMul,Nat.reduceSub,Nat.reduceLT,Nat.reduceLeDiff,Nat.reduceEqDiff,Nat.reduceBEq,Nat.reduceBeqDiff,Int.reduceEq,Int.reduceLT,Int.reduceLE,Int.reduceToNat,Int.reduceNeg,Int.reduceAdd,Int.reduceSub,Int.reduceMul,reduceIte,reduceCtorEq,Nat.reducePow,Nat.reduceDiv,Nat.reduceMod,Int.reduceBEq,hk,o32,o64,shape2R,show ¬op=(167:Int) by omega,show ¬op=(172:Int) by omega,show ¬op=(173:Int) by omega]
  try rfl
 ·have e:k2F op=(-1,0):=by unfold k2F;repeat (first|rw[if_pos (by omega)]|rw[if_neg (by omega)])
  have e2:shape2F op=([127],126,true):=by unfold shape2F;repeat (first|rw[if_pos (by omega)]|rw[if_neg (by omega)])
  rw[e2]
  rw[e] at hk
  rcases(by omega:op=172∨op=173) with rfl|rfl
  ·simp only[go_sem,Nat.reduceAdd,Nat.reduceMul,Nat.reduceSub,Nat.reduceLT,Nat.reduceLeDiff,Nat.reduceEqDiff,Nat.reduceBEq,Nat.reduceBeqDiff,Int.reduceEq,Int.reduceLT,Int.reduceLE,Int.reduceToNat,Int.reduceNeg,Int.reduceAdd,Int.reduceSub,Int.reduceMul,reduceIte,reduceCtorEq,Nat.reducePow,Nat.reduceDiv,Nat.reduceMod,Int.reduceBEq,hk,shape2R]
   try rfl
  ·simp only[go_sem,Nat.reduceAdd,Nat.reduceMul,Nat.reduceSub,Nat.reduceLT,Nat.reduceLeDiff,Nat.reduceEqDiff,Nat.reduceBEq,Nat.reduceBeqDiff,Int.reduceEq,Int.reduceLT,Int.reduceLE,Int.reduceToNat,Int.reduceNeg,Int.reduceAdd,Int.reduceSub,Int.reduceMul,reduceIte,reduceCtorEq,Nat.reducePow,Nat.reduceDiv,Nat.reduceMod,Int.reduceBEq,hk,shape2R]
   try rfl
 ·have e:k2F op=(-1,0):=by unfold k2F;repeat (first|rw[if_pos (by omega)]|rw[if_neg (by omega)])
  have e2:shape2F op=([],0,false):=by unfold shape2F;repeat (first|rw[if_pos (by omega)]|rw[if_neg (by omega)])
  rw[e2]
  rw[e] at hk
  simp only[go_sem,Nat.reduceAdd,Nat.reduceMul,Nat.reduceSub,Nat.reduceLT,Nat.reduceLeDiff,Nat.reduceEqDiff,Nat.reduceBEq,Nat.reduceBeqDiff,Int.reduceEq,Int.reduceLT,Int.reduceLE,Int.reduceToNat,Int.reduceNeg,Int.reduceAdd,Int.reduceSub,Int.reduceMul,reduceIte,reduceCtorEq,Nat.reducePow,Nat.reduceDiv,Nat.reduceMod,Int.reduceBEq,hk,o32,o64,shape2R,show ¬op=(167:Int) by omega,show ¬op=(172:Int) by omega,show ¬op=(173:Int) by omega]
  try rfl
theorem rKind_at (fu n:Nat): ∀k:Nat,k<174→evF (G fu) (n+3) 109 [.d (.int .i64 (k:Nat))] []=some (.d (.int .i64 (kindF (k:Nat))),[]):=fun k h=>match k,h with
 |0,_=>by kernel_rfl
 |1,_=>by kernel_rfl
 |2,_=>by kernel_rfl
 |3,_=>by kernel_rfl
 |4,_=>by kernel_rfl
 |5,_=>by kernel_rfl
 |6,_=>by kernel_rfl
 |7,_=>by kernel_rfl
 |8,_=>by kernel_rfl
 |9,_=>by kernel_rfl
 |10,_=>by kernel_rfl
 |11,_=>by kernel_rfl
 |12,_=>by kernel_rfl
 |13,_=>by kernel_rfl
 |14,_=>by kernel_rfl
 |15,_=>by kernel_rfl
 |16,_=>by kernel_rfl
 |17,_=>by kernel_rfl
 |18,_=>by kernel_rfl
 |19,_=>by kernel_rfl
 |20,_=>by kernel_rfl
 |21,_=>by kernel_rfl
 |22,_=>by kernel_rfl
 |23,_=>by kernel_rfl
 |24,_=>by kernel_rfl
 |25,_=>by kernel_rfl
 |26,_=>by kernel_rfl
 |27,_=>by kernel_rfl
 |28,_=>by kernel_rfl
 |29,_=>by kernel_rfl
 |30,_=>by kernel_rfl
 |31,_=>by kernel_rfl
 |32,_=>by kernel_rfl
 |33,_=>by kernel_rfl
 |34,_=>by kernel_rfl
 |35,_=>by kernel_rfl
 |36,_=>by kernel_rfl
 |37,_=>by kernel_rfl
 |38,_=>by kernel_rfl
 |39,_=>by kernel_rfl
 |40,_=>by kernel_rfl
 |41,_=>by kernel_rfl
 |42,_=>by kernel_rfl
 |43,_=>by kernel_rfl
 |44,_=>by kernel_rfl
 |45,_=>by kernel_rfl
 |46,_=>by kernel_rfl
 |47,_=>by kernel_rfl
 |48,_=>by kernel_rfl
 |49,_=>by kernel_rfl
 |50,_=>by kernel_rfl
 |51,_=>by kernel_rfl
 |52,_=>by kernel_rfl
 |53,_=>by kernel_rfl
 |54,_=>by kernel_rfl
 |55,_=>by kernel_rfl
 |56,_=>by kernel_rfl
 |57,_=>by kernel_rfl
 |58,_=>by kernel_rfl
 |59,_=>by kernel_rfl
 |60,_=>by kernel_rfl
 |61,_=>by kernel_rfl
 |62,_=>by kernel_rfl
 |63,_=>by kernel_rfl
 |64,_=>by kernel_rfl
 |65,_=>by kernel_rfl
 |66,_=>by kernel_rfl
 |67,_=>by kernel_rfl
 |68,_=>by kernel_rfl
 |69,_=>by kernel_rfl
 |70,_=>by kernel_rfl
 |71,_=>by kernel_rfl
 |72,_=>by kernel_rfl
 |73,_=>by kernel_rfl
 |74,_=>by kernel_rfl
 |75,_=>by kernel_rfl
 |76,_=>by kernel_rfl
 |77,_=>by kernel_rfl
 |78,_=>by kernel_rfl
 |79,_=>by kernel_rfl
 |80,_=>by kernel_rfl
 |81,_=>by kernel_rfl
 |82,_=>by kernel_rfl
 |83,_=>by kernel_rfl
 |84,_=>by kernel_rfl
 |85,_=>by kernel_rfl
 |86,_=>by kernel_rfl
 |87,_=>by kernel_rfl
 |88,_=>by kernel_rfl
 |89,_=>by kernel_rfl
 |90,_=>by kernel_rfl
 |91,_=>by kernel_rfl
 |92,_=>by kernel_rfl
 |93,_=>by kernel_rfl
 |94,_=>by kernel_rfl
 |95,_=>by kernel_rfl
 |96,_=>by kernel_rfl
 |97,_=>by kernel_rfl
 |98,_=>by kernel_rfl
 |99,_=>by kernel_rfl
 |100,_=>by kernel_rfl
 |101,_=>by kernel_rfl
 |102,_=>by kernel_rfl
 |103,_=>by kernel_rfl
 |104,_=>by kernel_rfl
 |105,_=>by kernel_rfl
 |106,_=>by kernel_rfl
 |107,_=>by kernel_rfl
 |108,_=>by kernel_rfl
 |109,_=>by kernel_rfl
 |110,_=>by kernel_rfl
 |111,_=>by kernel_rfl
 |112,_=>by kernel_rfl
 |113,_=>by kernel_rfl
 |114,_=>by kernel_rfl
 |115,_=>by kernel_rfl
 |116,_=>by kernel_rfl
 |117,_=>by kernel_rfl
 |118,_=>by kernel_rfl
 |119,_=>by kernel_rfl
 |120,_=>by kernel_rfl
 |121,_=>by kernel_rfl
 |122,_=>by kernel_rfl
 |123,_=>by kernel_rfl
 |124,_=>by kernel_rfl
 |125,_=>by kernel_rfl
 |126,_=>by kernel_rfl
 |127,_=>by kernel_rfl
 |128,_=>by kernel_rfl
 |129,_=>by kernel_rfl
 |130,_=>by kernel_rfl
 |131,_=>by kernel_rfl
 |132,_=>by kernel_rfl
 |133,_=>by kernel_rfl
 |134,_=>by kernel_rfl
 |135,_=>by kernel_rfl
 |136,_=>by kernel_rfl
 |137,_=>by kernel_rfl
 |138,_=>by kernel_rfl
 |139,_=>by kernel_rfl
 |140,_=>by kernel_rfl
 |141,_=>by kernel_rfl
 |142,_=>by kernel_rfl
 |143,_=>by kernel_rfl
 |144,_=>by kernel_rfl
 |145,_=>by kernel_rfl
 |146,_=>by kernel_rfl
 |147,_=>by kernel_rfl
 |148,_=>by kernel_rfl
 |149,_=>by kernel_rfl
 |150,_=>by kernel_rfl
 |151,_=>by kernel_rfl
 |152,_=>by kernel_rfl
 |153,_=>by kernel_rfl
 |154,_=>by kernel_rfl
 |155,_=>by kernel_rfl
 |156,_=>by kernel_rfl
 |157,_=>by kernel_rfl
 |158,_=>by kernel_rfl
 |159,_=>by kernel_rfl
 |160,_=>by kernel_rfl
 |161,_=>by kernel_rfl
 |162,_=>by kernel_rfl
 |163,_=>by kernel_rfl
 |164,_=>by kernel_rfl
 |165,_=>by kernel_rfl
 |166,_=>by kernel_rfl
 |167,_=>by kernel_rfl
 |168,_=>by kernel_rfl
 |169,_=>by kernel_rfl
 |170,_=>by kernel_rfl
 |171,_=>by kernel_rfl
 |172,_=>by kernel_rfl
 |173,_=>by kernel_rfl
 |_+174,h=>absurd h (by omega)
theorem rKind_ev (fu n:Nat) (op:Int):evF (G fu) (n+3) 109 [.d (.int .i64 op)] []=some (.d (.int .i64 (kindF op)),[]):=by
 rcases(by omega:op<0∨(0≤op∧op<174)∨173<op) with h|h|h
 ·have hs:=shape2_ev fu n op
  have e:kindF op=0:=kd_out op (by omega)
  have e2:shape2F op=([],0,false):=by unfold shape2F;repeat (first|rw[if_pos (by omega)]|rw[if_neg (by omega)])
  unfold shape2R at hs
  rw[e2] at hs
  rw[e]
  rw[evF.eq_2,evX.eq_def,Gext,exts_no _ (f:=109) (by decide),GP,Tryz.func109];simp only[Tryz.f109,evB]
  simp(maxSteps:=1000000) only[go_sem,Nat.reduceAdd,Nat.reduceMul,Nat.reduceSub,Nat.reduceLT,Nat.reduceLeDiff,Nat.reduceEqDiff,Nat.reduceBEq,Nat.reduceBeqDiff,Int.reduceEq,Int.reduceLT,Int.reduceLE,Int.reduceToNat,Int.reduceNeg,Int.reduceAdd,Int.reduceSub,Int.reduceMul,reduceIte,reduceCtorEq,Nat.reducePow,Nat.reduceDiv,Nat.reduceMod,Int.reduceBEq,hs,show ¬(2:Int)≤op by omega,show op≤(4:Int) by omega,show ¬op=(12:Int) by omega,show ¬op=(13:Int) by omega,show ¬op=(16:Int) by omega,show ¬(32:Int)≤op by omega,show op≤(36:Int) by omega,show ¬op=(14:Int) by omega,show ¬op=(17:Int) by omega,show ¬op=(40:Int) by omega,show ¬op=(41:Int) by omega,show ¬(44:Int)≤op by omega,show op≤(55:Int) by omega,show ¬(58:Int)≤op by omega,show op≤(62:Int) by omega,show ¬op=(63:Int) by omega,show ¬op=(64:Int) by omega,show ¬op=(65:Int) by omega,show ¬op=(66:Int) by omega,show ¬op=(0:Int) by omega,show ¬op=(1:Int) by omega,show ¬op=(5:Int) by omega,show ¬op=(11:Int) by omega,show ¬op=(15:Int) by omega,show ¬op=(26:Int) by omega,show ¬op=(27:Int) by omega]
 ·have:=rKind_at fu n op.toNat (by omega)
  rwa [show((op.toNat:Nat):Int)=op by omega] at this
 ·have hs:=shape2_ev fu n op
  have e:kindF op=0:=kd_out op (by omega)
  have e2:shape2F op=([],0,false):=by unfold shape2F;repeat (first|rw[if_pos (by omega)]|rw[if_neg (by omega)])
  unfold shape2R at hs
  rw[e2] at hs
  rw[e]
  rw[evF.eq_2,evX.eq_def,Gext,exts_no _ (f:=109) (by decide),GP,Tryz.func109];simp only[Tryz.f109,evB]
  simp(maxSteps:=1000000) only[go_sem,Nat.reduceAdd,Nat.reduceMul,Nat.reduceSub,Nat.reduceLT,Nat.reduceLeDiff,Nat.reduceEqDiff,Nat.reduceBEq,Nat.reduceBeqDiff,Int.reduceEq,Int.reduceLT,Int.reduceLE,Int.reduceToNat,Int.reduceNeg,Int.reduceAdd,Int.reduceSub,Int.reduceMul,reduceIte,reduceCtorEq,Nat.reducePow,Nat.reduceDiv,Nat.reduceMod,Int.reduceBEq,hs,show(2:Int)≤op by omega,show ¬op≤(4:Int) by omega,show ¬op=(12:Int) by omega,show ¬op=(13:Int) by omega,show ¬op=(16:Int) by omega,show(32:Int)≤op by omega,show ¬op≤(36:Int) by omega,show ¬op=(14:Int) by omega,show ¬op=(17:Int) by omega,show ¬op=(40:Int) by omega,show ¬op=(41:Int) by omega,show(44:Int)≤op by omega,show ¬op≤(55:Int) by omega,show(58:Int)≤op by omega,show ¬op≤(62:Int) by omega,show ¬op=(63:Int) by omega,show ¬op=(64:Int) by omega,show ¬op=(65:Int) by omega,show ¬op=(66:Int) by omega,show ¬op=(0:Int) by omega,show ¬op=(1:Int) by omega,show ¬op=(5:Int) by omega,show ¬op=(11:Int) by omega,show ¬op=(15:Int) by omega,show ¬op=(26:Int) by omega,show ¬op=(27:Int) by omega]
end Go.Proofs.YtfpioigggjnffaaGreatDoor.E
set_option autoImplicit false
set_option maxRecDepth 100000
set_option maxHeartbeats 4000000
set_option pp.maxSteps 20000
namespace Go.Proofs.YtfpioigggjnffaaGreatDoor.E
open Go.Ev
theorem map_take (ls:List Int):(ls.map (D.int .i64)).take ls.length=ls.map (D.int .i64):=List.take_of_length_le (by simp)
end Go.Proofs.YtfpioigggjnffaaGreatDoor.E
