/- Q6. -/
import Derived.Test.YtfpioigggjnffaaGreatDoorC1
import Derived.Test.YtfpioigggjnffaaGreatDoorQ5
import Derived.Test.YtfpioigggjnffaaGreatDoorF8
set_option linter.unnecessarySimpa false
set_option linter.unusedSimpArgs false
set_option linter.unusedVariables false
set_option autoImplicit false
set_option maxRecDepth 100000
set_option maxHeartbeats 4000000
set_option pp.maxSteps 20000
namespace Go.Proofs.YtfpioigggjnffaaGreatDoor.E
open Go.Ev
theorem within_ev (fu n:Nat) (op a b:Int):evF (G fu) (n+1) 210 [.d (.int .i64 op), .d (.int .i64 a), .d (.int .i64 b)] []=some (.d (.bool (decide (a≤op)&&decide (op≤b))),[]):=by
 rw[evF.eq_2,evX.eq_def,Gext,exts_no _ (f:=210) (by decide),GP,Tryz.func210];simp only[Tryz.f210,evB]
 by_cases h:a≤op
 ·simp only[go_sem,Nat.reduceAdd,Nat.reduceMul,Nat.reduceSub,Nat.reduceLT,Nat.reduceLeDiff,Nat.reduceEqDiff,Nat.reduceBEq,Nat.reduceBeqDiff,Int.reduceEq,Int.reduceLT,Int.reduceLE,Int.reduceToNat,Int.reduceNeg,Int.reduceAdd,Int.reduceSub,Int.reduceMul,reduceIte,reduceCtorEq,Nat.reducePow,Nat.reduceDiv,Nat.reduceMod,Int.reduceBEq,h]
 ·simp only[go_sem,Nat.reduceAdd,Nat.reduceMul,Nat.reduceSub,Nat.reduceLT,Nat.reduceLeDiff,Nat.reduceEqDiff,Nat.reduceBEq,Nat.reduceBeqDiff,Int.reduceEq,Int.reduceLT,Int.reduceLE,Int.reduceToNat,Int.reduceNeg,Int.reduceAdd,Int.reduceSub,Int.reduceMul,reduceIte,reduceCtorEq,Nat.reducePow,Nat.reduceDiv,Nat.reduceMod,Int.reduceBEq,h]
def shapeF (op:Int):Option (List Int×Int):=
 if op=69 then some ([127],127) else if op=80 then some ([126],127) else if 70≤op∧op≤79 then some ([127,127],127) else if 81≤op∧op≤90 then some ([126,126],127) else
 if 103≤op∧op≤105 then some ([127],127) else if 106≤op∧op≤120 then some ([127,127],127) else if 121≤op∧op≤123 then some ([126],126) else if 124≤op∧op≤138 then some ([126,126],126) else
 if op=167 then some ([126],127) else if op=172∨op=173 then some ([127],126) else none
def shapeR:Option (List Int×Int)→Option Res
 |some (p,r)=>some (.tup [.row 0 0 0 p.length, .d (.int .u8 r), .d (.bool true)],[.row 1 (byt p) 0 false false])
 |none=>some (.tup [.row 0 0 0 0, .d (.int .u8 0), .d (.bool false)],[.row 1 [] 0 false false])
theorem shape_ev (fu n:Nat) (op:Int):evF (G fu) (n+2) 170 [.d (.int .i64 op)] []=shapeR (shapeF op):=by
 have Wi:=within_ev fu n op
 rw[evF.eq_2,evX.eq_def,Gext,exts_no _ (f:=170) (by decide),GP,Tryz.func170];simp only[Tryz.f170,evB]
 unfold shapeF
 by_cases c1:op=69
 ·subst c1;simp only[go_sem,Nat.reduceAdd,Nat.reduceMul,Nat.reduceSub,Nat.reduceLT,Nat.reduceLeDiff,Nat.reduceEqDiff,Nat.reduceBEq,Nat.reduceBeqDiff,Int.reduceEq,Int.reduceLT,Int.reduceLE,Int.reduceToNat,Int.reduceNeg,Int.reduceAdd,Int.reduceSub,Int.reduceMul,reduceIte,reduceCtorEq,Nat.reducePow,Nat.reduceDiv,Nat.reduceMod,Int.reduceBEq,shapeR,List.map_nil]
 by_cases c2:op=80
 ·subst c2;simp only[go_sem,Nat.reduceAdd,Nat.reduceMul,Nat.reduceSub,Nat.reduceLT,Nat.reduceLeDiff,Nat.reduceEqDiff,Nat.reduceBEq,Nat.reduceBeqDiff,Int.reduceEq,Int.reduceLT,Int.reduceLE,Int.reduceToNat,Int.reduceNeg,Int.reduceAdd,Int.reduceSub,Int.reduceMul,reduceIte,reduceCtorEq,Nat.reducePow,Nat.reduceDiv,Nat.reduceMod,Int.reduceBEq,shapeR,List.map_nil]
 have dd: ∀a b:Int,(decide (a≤op)&&decide (op≤b))=decide (a≤op∧op≤b):=fun a b=>by simp
 simp only[dd] at Wi
 by_cases c3:70≤op∧op≤79
 ·simp only[go_sem,Nat.reduceAdd,Nat.reduceMul,Nat.reduceSub,Nat.reduceLT,Nat.reduceLeDiff,Nat.reduceEqDiff,Nat.reduceBEq,Nat.reduceBeqDiff,Int.reduceEq,Int.reduceLT,Int.reduceLE,Int.reduceToNat,Int.reduceNeg,Int.reduceAdd,Int.reduceSub,Int.reduceMul,reduceIte,reduceCtorEq,Nat.reducePow,Nat.reduceDiv,Nat.reduceMod,Int.reduceBEq,c1,c2,Wi,c3,shapeR,List.map_nil]
 by_cases c4:81≤op∧op≤90
 ·simp only[go_sem,Nat.reduceAdd,Nat.reduceMul,Nat.reduceSub,Nat.reduceLT,Nat.reduceLeDiff,Nat.reduceEqDiff,Nat.reduceBEq,Nat.reduceBeqDiff,Int.reduceEq,Int.reduceLT,Int.reduceLE,Int.reduceToNat,Int.reduceNeg,Int.reduceAdd,Int.reduceSub,Int.reduceMul,reduceIte,reduceCtorEq,Nat.reducePow,Nat.reduceDiv,Nat.reduceMod,Int.reduceBEq,c1,c2,Wi,c3,c4,shapeR,List.map_nil]
 by_cases c5:103≤op∧op≤105
 ·simp only[go_sem,Nat.reduceAdd,Nat.reduceMul,Nat.reduceSub,Nat.reduceLT,Nat.reduceLeDiff,Nat.reduceEqDiff,Nat.reduceBEq,Nat.reduceBeqDiff,Int.reduceEq,Int.reduceLT,Int.reduceLE,Int.reduceToNat,Int.reduceNeg,Int.reduceAdd,Int.reduceSub,Int.reduceMul,reduceIte,reduceCtorEq,Nat.reducePow,Nat.reduceDiv,Nat.reduceMod,Int.reduceBEq,c1,c2,Wi,c3,c4,c5,shapeR,List.map_nil]
 by_cases c6:106≤op∧op≤120
 ·simp only[go_sem,Nat.reduceAdd,Nat.reduceMul,Nat.reduceSub,Nat.reduceLT,Nat.reduceLeDiff,Nat.reduceEqDiff,Nat.reduceBEq,Nat.reduceBeqDiff,Int.reduceEq,Int.reduceLT,Int.reduceLE,Int.reduceToNat,Int.reduceNeg,Int.reduceAdd,Int.reduceSub,Int.reduceMul,reduceIte,reduceCtorEq,Nat.reducePow,Nat.reduceDiv,Nat.reduceMod,Int.reduceBEq,c1,c2,Wi,c3,c4,c5,c6,shapeR,List.map_nil]
 by_cases c7:121≤op∧op≤123
 ·simp only[go_sem,Nat.reduceAdd,Nat.reduceMul,Nat.reduceSub,Nat.reduceLT,Nat.reduceLeDiff,Nat.reduceEqDiff,Nat.reduceBEq,Nat.reduceBeqDiff,Int.reduceEq,Int.reduceLT,Int.reduceLE,Int.reduceToNat,Int.reduceNeg,Int.reduceAdd,Int.reduceSub,Int.reduceMul,reduceIte,reduceCtorEq,Nat.reducePow,Nat.reduceDiv,Nat.reduceMod,Int.reduceBEq,c1,c2,Wi,c3,c4,c5,c6,c7,shapeR,List.map_nil]
 by_cases c8:124≤op∧op≤138
 ·simp only[go_sem,Nat.reduceAdd,Nat.reduceMul,Nat.reduceSub,Nat.reduceLT,Nat.reduceLeDiff,Nat.reduceEqDiff,Nat.reduceBEq,Nat.reduceBeqDiff,Int.reduceEq,Int.reduceLT,Int.reduceLE,Int.reduceToNat,Int.reduceNeg,Int.reduceAdd,Int.reduceSub,Int.reduceMul,reduceIte,reduceCtorEq,Nat.reducePow,Nat.reduceDiv,Nat.reduceMod,Int.reduceBEq,c1,c2,Wi,c3,c4,c5,c6,c7,c8,shapeR,List.map_nil]
 by_cases c9:op=167
 ·subst c9;simp only[go_sem,Nat.reduceAdd,Nat.reduceMul,Nat.reduceSub,Nat.reduceLT,Nat.reduceLeDiff,Nat.reduceEqDiff,Nat.reduceBEq,Nat.reduceBeqDiff,Int.reduceEq,Int.reduceLT,Int.reduceLE,Int.reduceToNat,Int.reduceNeg,Int.reduceAdd,Int.reduceSub,Int.reduceMul,reduceIte,reduceCtorEq,Nat.reducePow,Nat.reduceDiv,Nat.reduceMod,Int.reduceBEq,Wi,shapeR,List.map_nil]
 by_cases c10:op=172
 ·subst c10;simp only[go_sem,Nat.reduceAdd,Nat.reduceMul,Nat.reduceSub,Nat.reduceLT,Nat.reduceLeDiff,Nat.reduceEqDiff,Nat.reduceBEq,Nat.reduceBeqDiff,Int.reduceEq,Int.reduceLT,Int.reduceLE,Int.reduceToNat,Int.reduceNeg,Int.reduceAdd,Int.reduceSub,Int.reduceMul,reduceIte,reduceCtorEq,Nat.reducePow,Nat.reduceDiv,Nat.reduceMod,Int.reduceBEq,Wi,shapeR,List.map_nil]
 by_cases c11:op=173
 ·subst c11;simp only[go_sem,Nat.reduceAdd,Nat.reduceMul,Nat.reduceSub,Nat.reduceLT,Nat.reduceLeDiff,Nat.reduceEqDiff,Nat.reduceBEq,Nat.reduceBeqDiff,Int.reduceEq,Int.reduceLT,Int.reduceLE,Int.reduceToNat,Int.reduceNeg,Int.reduceAdd,Int.reduceSub,Int.reduceMul,reduceIte,reduceCtorEq,Nat.reducePow,Nat.reduceDiv,Nat.reduceMod,Int.reduceBEq,Wi,shapeR,List.map_nil]
 simp only[go_sem,Nat.reduceAdd,Nat.reduceMul,Nat.reduceSub,Nat.reduceLT,Nat.reduceLeDiff,Nat.reduceEqDiff,Nat.reduceBEq,Nat.reduceBeqDiff,Int.reduceEq,Int.reduceLT,Int.reduceLE,Int.reduceToNat,Int.reduceNeg,Int.reduceAdd,Int.reduceSub,Int.reduceMul,reduceIte,reduceCtorEq,Nat.reducePow,Nat.reduceDiv,Nat.reduceMod,Int.reduceBEq,c1,c2,Wi,c3,c4,c5,c6,c7,c8,c9,c10,c11,shapeR,List.map_nil]
def Byt (l:List Int):Prop:=∀x∈l,0≤x∧x<256
theorem u8_inj {a b:Int} (ha:0≤a∧a<256) (hb:0≤b∧b<256) (h:UInt8.ofNat a.toNat=UInt8.ofNat b.toNat):a=b:=by
 have:=congrArg UInt8.toNat h
 simp only[UInt8.toNat_ofNat'] at this
 omega
theorem u8s_inj: ∀{a b:List Int},Byt a→Byt b→a.map (fun n=>UInt8.ofNat n.toNat)=b.map (fun n=>UInt8.ofNat n.toNat)→a=b
 |[],[],_,_,_=>rfl
 |[],_::_,_,_,h=>by simp at h
 |_::_,[],_,_,h=>by simp at h
 |x::a,y::b,ha,hb,h=>by
  simp only[List.map_cons,List.cons.injEq] at h
  rw[u8_inj (ha x (by simp)) (hb y (by simp)) h.1,u8s_inj (fun z hz=>ha z (by simp[hz])) (fun z hz=>hb z (by simp[hz])) h.2]
theorem equal_ev (fu n:Nat) (a b:List Int) (ha:Byt a) (hb:Byt b):evF (G fu) (n+1) 165 [.d (.list (byt a)), .d (.list (byt b))] []=some (.d (.bool (decide (a=b))),[]):=by
 rw[evF.eq_2,evX.eq_def,Gext,exts_no _ (f:=165) (by decide),GP,Tryz.func165];simp only[Tryz.f165,evB]
 have e:(a.map (fun n=>UInt8.ofNat n.toNat)=b.map (fun n=>UInt8.ofNat n.toNat))↔a=b:=⟨u8s_inj ha hb,fun e=>by rw[e]⟩
 simp only[go_sem,Nat.reduceAdd,Nat.reduceMul,Nat.reduceSub,Nat.reduceLT,Nat.reduceLeDiff,Nat.reduceEqDiff,Nat.reduceBEq,Nat.reduceBeqDiff,Int.reduceEq,Int.reduceLT,Int.reduceLE,Int.reduceToNat,Int.reduceNeg,Int.reduceAdd,Int.reduceSub,Int.reduceMul,reduceIte,reduceCtorEq,Nat.reducePow,Nat.reduceDiv,Nat.reduceMod,Int.reduceBEq,strOf_byt,e]
theorem tval_ev (fu n:Nat) (c:Int):evF (G fu) (n+1) 176 [.d (.int .u8 c)] []=some (.d (.bool (valB c)),[]):=by
 rw[evF.eq_2,evX.eq_def,Gext,exts_no _ (f:=176) (by decide),GP,Tryz.func176];simp only[Tryz.f176,evB]
 unfold valB
 by_cases h1:c=127
 ·subst h1;simp only[go_sem,Nat.reduceAdd,Nat.reduceMul,Nat.reduceSub,Nat.reduceLT,Nat.reduceLeDiff,Nat.reduceEqDiff,Nat.reduceBEq,Nat.reduceBeqDiff,Int.reduceEq,Int.reduceLT,Int.reduceLE,Int.reduceToNat,Int.reduceNeg,Int.reduceAdd,Int.reduceSub,Int.reduceMul,reduceIte,reduceCtorEq,Nat.reducePow,Nat.reduceDiv,Nat.reduceMod,Int.reduceBEq]
 ·by_cases h2:c=126
  ·subst h2;simp only[go_sem,Nat.reduceAdd,Nat.reduceMul,Nat.reduceSub,Nat.reduceLT,Nat.reduceLeDiff,Nat.reduceEqDiff,Nat.reduceBEq,Nat.reduceBeqDiff,Int.reduceEq,Int.reduceLT,Int.reduceLE,Int.reduceToNat,Int.reduceNeg,Int.reduceAdd,Int.reduceSub,Int.reduceMul,reduceIte,reduceCtorEq,Nat.reducePow,Nat.reduceDiv,Nat.reduceMod,Int.reduceBEq]
  ·have e1:(c==126)=false:=by simpa using h2
   have e2:(c==127)=false:=by simpa using h1
   simp only[go_sem,Nat.reduceAdd,Nat.reduceMul,Nat.reduceSub,Nat.reduceLT,Nat.reduceLeDiff,Nat.reduceEqDiff,Nat.reduceBEq,Nat.reduceBeqDiff,Int.reduceEq,Int.reduceLT,Int.reduceLE,Int.reduceToNat,Int.reduceNeg,Int.reduceAdd,Int.reduceSub,Int.reduceMul,reduceIte,reduceCtorEq,Nat.reducePow,Nat.reduceDiv,Nat.reduceMod,Int.reduceBEq,h1,h2,e1,e2]
theorem tsane1_ev (fu n:Nat) (c:Int):evF (G fu) (n+2) 175 [.d (.int .u8 c)] []=some (.d (.bool (!valB c)),[]):=by
 have hv:=tval_ev fu n c
 rw[evF.eq_2,evX.eq_def,Gext,exts_no _ (f:=175) (by decide),GP,Tryz.func175];simp only[Tryz.f175,evB]
 simp only[go_sem,Nat.reduceAdd,Nat.reduceMul,Nat.reduceSub,Nat.reduceLT,Nat.reduceLeDiff,Nat.reduceEqDiff,Nat.reduceBEq,Nat.reduceBeqDiff,Int.reduceEq,Int.reduceLT,Int.reduceLE,Int.reduceToNat,Int.reduceNeg,Int.reduceAdd,Int.reduceSub,Int.reduceMul,reduceIte,reduceCtorEq,Nat.reducePow,Nat.reduceDiv,Nat.reduceMod,Int.reduceBEq,hv]
def typeSane (t:List Int×List Int):Bool:=decide ((t.1.length:Int)≤16)&&decide ((t.2.length:Int)≤1)&&t.1.all valB&&t.2.all valB
def tyD (t:List Int×List Int):D:= .agg [.list (byt t.1), .list (byt t.2)]
theorem typeSane_ev (fu n:Nat) (t:List Int×List Int) (hf:t.1.length<fu) (hf2:t.2.length<fu) (h1:t.1.length<1000000) (h2:t.2.length<1000000):evF (G fu) (n+5) 125 [.d (tyD t)] []=some (.d (.bool (typeSane t)),[]):=by
 have A:=containsB_ev fu n 175 (fun c=> !valB c) t.1 (tsane1_ev fu n) rfl hf h1
 have B:=containsB_ev fu n 175 (fun c=> !valB c) t.2 (tsane1_ev fu n) rfl hf2 h2
 rw[any_not] at A B
 unfold typeSane
 rw[evF.eq_2,evX.eq_def,Gext,exts_no _ (f:=125) (by decide),GP,Tryz.func125];simp only[Tryz.f125,evB]
 by_cases c1:(t.1.length:Int)≤16
 ·by_cases c2:(t.2.length:Int)≤1
  ·cases ha:t.1.all valB with
   |false=>rw[ha] at A;simp only[go_sem,Nat.reduceAdd,Nat.reduceMul,Nat.reduceSub,Nat.reduceLT,Nat.reduceLeDiff,Nat.reduceEqDiff,Nat.reduceBEq,Nat.reduceBeqDiff,Int.reduceEq,Int.reduceLT,Int.reduceLE,Int.reduceToNat,Int.reduceNeg,Int.reduceAdd,Int.reduceSub,Int.reduceMul,reduceIte,reduceCtorEq,Nat.reducePow,Nat.reduceDiv,Nat.reduceMod,Int.reduceBEq,tyD,byt_len,c1,c2,A,ha]
   |true=>rw[ha] at A;simp only[go_sem,Nat.reduceAdd,Nat.reduceMul,Nat.reduceSub,Nat.reduceLT,Nat.reduceLeDiff,Nat.reduceEqDiff,Nat.reduceBEq,Nat.reduceBeqDiff,Int.reduceEq,Int.reduceLT,Int.reduceLE,Int.reduceToNat,Int.reduceNeg,Int.reduceAdd,Int.reduceSub,Int.reduceMul,reduceIte,reduceCtorEq,Nat.reducePow,Nat.reduceDiv,Nat.reduceMod,Int.reduceBEq,tyD,byt_len,c1,c2,A,B,ha,Bool.not_not]
  ·simp only[go_sem,Nat.reduceAdd,Nat.reduceMul,Nat.reduceSub,Nat.reduceLT,Nat.reduceLeDiff,Nat.reduceEqDiff,Nat.reduceBEq,Nat.reduceBeqDiff,Int.reduceEq,Int.reduceLT,Int.reduceLE,Int.reduceToNat,Int.reduceNeg,Int.reduceAdd,Int.reduceSub,Int.reduceMul,reduceIte,reduceCtorEq,Nat.reducePow,Nat.reduceDiv,Nat.reduceMod,Int.reduceBEq,tyD,byt_len,c1,c2]
 ·simp only[go_sem,Nat.reduceAdd,Nat.reduceMul,Nat.reduceSub,Nat.reduceLT,Nat.reduceLeDiff,Nat.reduceEqDiff,Nat.reduceBEq,Nat.reduceBeqDiff,Int.reduceEq,Int.reduceLT,Int.reduceLE,Int.reduceToNat,Int.reduceNeg,Int.reduceAdd,Int.reduceSub,Int.reduceMul,reduceIte,reduceCtorEq,Nat.reducePow,Nat.reduceDiv,Nat.reduceMod,Int.reduceBEq,tyD,byt_len,c1]
end Go.Proofs.YtfpioigggjnffaaGreatDoor.E
