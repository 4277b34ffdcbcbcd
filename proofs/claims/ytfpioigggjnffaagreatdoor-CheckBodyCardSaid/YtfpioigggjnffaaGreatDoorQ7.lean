/- Q7, R5. -/
import Derived.Test.YtfpioigggjnffaaGreatDoorQ5
import Derived.Test.YtfpioigggjnffaaGreatDoorQ6
import Derived.Test.YtfpioigggjnffaaGreatDoorR3
set_option linter.unnecessarySimpa false
set_option linter.unusedSimpArgs false
set_option linter.unusedVariables false
set_option autoImplicit false
set_option maxRecDepth 100000
set_option maxHeartbeats 4000000
set_option pp.maxSteps 20000
namespace Go.Proofs.YtfpioigggjnffaaGreatDoor.E
open Go.Ev
def glD (g:Int×Bool):D:= .agg [.int .u8 g.1, .bool g.2]
def TEnv.dd (e:TEnv):D:= .agg [.list (e.types.map tyD), .list (e.funcs.map (D.int .i64)), .int .i64 e.tables, .int .i64 e.mems, .list (e.globals.map glD), .list (byt e.locs), .list (byt e.results)]
def ck (e:TEnv) (w:WkS):List V:=[.d (.list (e.types.map tyD)), .d (.list (e.funcs.map (D.int .i64))), .d (.int .i64 e.tables), .d (.int .i64 e.mems), .d (.list (e.globals.map glD)), .d (.list (byt e.locs)), .d (.list (byt e.results)), .d (.list (byt w.s.vals)), .d (.list (ctlds w.s.ctrls)), .d (.int .i64 w.e)]
theorem must_ev (fu n:Nat) (e:TEnv) (w:WkS) (ok:Bool) (x:Int):evF (G fu) (n+1) 162 [.ptr 0 0, .d (.bool ok), .d (.int .i64 x)] [.cells (ck e w)]=some (.tup [],[.cells (ck e (w.must ok x))]):=by
 rw[evF.eq_2,evX.eq_def,Gext,exts_no _ (f:=162) (by decide),GP,Tryz.func162];simp only[Tryz.f162,evB]
 unfold WkS.must
 by_cases h:w.e=0
 ·have h2:(w.e==0)=true:=by simpa using h
  cases ok with
  |true=>simp only[go_sem,Nat.reduceAdd,Nat.reduceMul,Nat.reduceSub,Nat.reduceLT,Nat.reduceLeDiff,Nat.reduceEqDiff,Nat.reduceBEq,Nat.reduceBeqDiff,Int.reduceEq,Int.reduceLT,Int.reduceLE,Int.reduceToNat,Int.reduceNeg,Int.reduceAdd,Int.reduceSub,Int.reduceMul,reduceIte,reduceCtorEq,Nat.reducePow,Nat.reduceDiv,Nat.reduceMod,Int.reduceBEq,ck,h,h2]
  |false=>simp only[go_sem,Nat.reduceAdd,Nat.reduceMul,Nat.reduceSub,Nat.reduceLT,Nat.reduceLeDiff,Nat.reduceEqDiff,Nat.reduceBEq,Nat.reduceBeqDiff,Int.reduceEq,Int.reduceLT,Int.reduceLE,Int.reduceToNat,Int.reduceNeg,Int.reduceAdd,Int.reduceSub,Int.reduceMul,reduceIte,reduceCtorEq,Nat.reducePow,Nat.reduceDiv,Nat.reduceMod,Int.reduceBEq,ck,h,h2]
 ·have h2:(w.e==0)=false:=by simpa using h
  cases ok with
  |true=>simp only[go_sem,Nat.reduceAdd,Nat.reduceMul,Nat.reduceSub,Nat.reduceLT,Nat.reduceLeDiff,Nat.reduceEqDiff,Nat.reduceBEq,Nat.reduceBeqDiff,Int.reduceEq,Int.reduceLT,Int.reduceLE,Int.reduceToNat,Int.reduceNeg,Int.reduceAdd,Int.reduceSub,Int.reduceMul,reduceIte,reduceCtorEq,Nat.reducePow,Nat.reduceDiv,Nat.reduceMod,Int.reduceBEq,ck,h,h2]
  |false=>simp only[go_sem,Nat.reduceAdd,Nat.reduceMul,Nat.reduceSub,Nat.reduceLT,Nat.reduceLeDiff,Nat.reduceEqDiff,Nat.reduceBEq,Nat.reduceBeqDiff,Int.reduceEq,Int.reduceLT,Int.reduceLE,Int.reduceToNat,Int.reduceNeg,Int.reduceAdd,Int.reduceSub,Int.reduceMul,reduceIte,reduceCtorEq,Nat.reducePow,Nat.reduceDiv,Nat.reduceMod,Int.reduceBEq,ck,h,h2]
def takeS (w:WkS) (s:Stk) (x:Int):WkS:=if w.e≠0 then w else if x=0 then⟨s,0⟩ else⟨w.s,x⟩
theorem take_ev (fu n:Nat) (e:TEnv) (w:WkS) (s:Stk) (x:Int):evF (G fu) (n+2) 202 [.ptr 0 0, .d s.dd, .d (.int .i64 x)] [.cells (ck e w)]=some (.tup [],[.cells (ck e (takeS w s x))]):=by
 have M:=must_ev fu n e w (decide (x=0)) x
 rw[evF.eq_2,evX.eq_def,Gext,exts_no _ (f:=202) (by decide),GP,Tryz.func202];simp only[Tryz.f202,evB]
 unfold takeS
 unfold WkS.must at M
 by_cases h:w.e=0
 ·have h2:(w.e==0)=true:=by simpa using h
  by_cases hx:x=0
  ·subst hx
   simp only[ck,h,h2,decide_true,Bool.not_true,Bool.false_and,Bool.false_eq_true,if_false] at M
   simp only[go_sem,Nat.reduceAdd,Nat.reduceMul,Nat.reduceSub,Nat.reduceLT,Nat.reduceLeDiff,Nat.reduceEqDiff,Nat.reduceBEq,Nat.reduceBeqDiff,Int.reduceEq,Int.reduceLT,Int.reduceLE,Int.reduceToNat,Int.reduceNeg,Int.reduceAdd,Int.reduceSub,Int.reduceMul,reduceIte,reduceCtorEq,Nat.reducePow,Nat.reduceDiv,Nat.reduceMod,Int.reduceBEq,ck,Stk.dd,h,ne_eq,M]
  ·simp only[ck,h,h2,hx,decide_false,Bool.not_false,Bool.true_and,if_true] at M
   simp only[go_sem,Nat.reduceAdd,Nat.reduceMul,Nat.reduceSub,Nat.reduceLT,Nat.reduceLeDiff,Nat.reduceEqDiff,Nat.reduceBEq,Nat.reduceBeqDiff,Int.reduceEq,Int.reduceLT,Int.reduceLE,Int.reduceToNat,Int.reduceNeg,Int.reduceAdd,Int.reduceSub,Int.reduceMul,reduceIte,reduceCtorEq,Nat.reducePow,Nat.reduceDiv,Nat.reduceMod,Int.reduceBEq,ck,Stk.dd,h,ne_eq,hx,M]
 ·have h2:(w.e==0)=false:=by simpa using h
  simp only[ck,h2,Bool.and_false,Bool.false_eq_true,if_false] at M
  simp only[go_sem,Nat.reduceAdd,Nat.reduceMul,Nat.reduceSub,Nat.reduceLT,Nat.reduceLeDiff,Nat.reduceEqDiff,Nat.reduceBEq,Nat.reduceBeqDiff,Int.reduceEq,Int.reduceLT,Int.reduceLE,Int.reduceToNat,Int.reduceNeg,Int.reduceAdd,Int.reduceSub,Int.reduceMul,reduceIte,reduceCtorEq,Nat.reducePow,Nat.reduceDiv,Nat.reduceMod,Int.reduceBEq,ck,Stk.dd,h,ne_eq,M]
def takeR (w:WkS):Except Int Stk→WkS
 | .ok s=>takeS w s 0
 | .error x=>takeS w stk0 x
theorem takeS_put (w:WkS) (r:Except Int Stk) (he: ∀x,r= .error x→x≠0):w.put r=takeR w r:=by
 unfold WkS.put takeR takeS
 cases r with
 |ok s=>by_cases h:w.e=0<;>simp[h]
 |error x=>have:=he x rfl;by_cases h:w.e=0<;>simp[h,this]
theorem put_off {w:WkS} {r:Except Int Stk} (h: ¬w.e=0):w.put r=w:=by unfold WkS.put;rw[if_pos h]
theorem ckwant_ev (fu n:Nat) (e:TEnv) (w:WkS) (l:List Int) (hs:SzOk fu w.s) (hl:l.length<1000000):evF (G fu) (n+9) 157 [.ptr 0 0, .d (.list (byt l))] [.cells (ck e w)]=some (.tup [],[.cells (ck e (w.want l))]):=by
 have R:=wantR_ev fu n w.s l hs hl
 rw[evF.eq_2,evX.eq_def,Gext,exts_no _ (f:=157) (by decide),GP,Tryz.func157];simp only[Tryz.f157,evB]
 unfold WkS.want
 by_cases h:w.e=0
 ·rw[takeS_put w _ (fun _ x=>by have:=wantS_err x;omega)]
  cases hr:wantS w.s l with
  |ok s=>
   rw[hr] at R
   have T:=take_ev fu (n+6) e w s 0
   simp only[ck,h] at T
   simp only[stkR,Stk.dd] at R T
   simp only[go_sem,Nat.reduceAdd,Nat.reduceMul,Nat.reduceSub,Nat.reduceLT,Nat.reduceLeDiff,Nat.reduceEqDiff,Nat.reduceBEq,Nat.reduceBeqDiff,Int.reduceEq,Int.reduceLT,Int.reduceLE,Int.reduceToNat,Int.reduceNeg,Int.reduceAdd,Int.reduceSub,Int.reduceMul,reduceIte,reduceCtorEq,Nat.reducePow,Nat.reduceDiv,Nat.reduceMod,Int.reduceBEq,ck,h,R,T,takeR]
  |error x=>
   rw[hr] at R
   have T:=take_ev fu (n+6) e w stk0 x
   simp only[ck,h] at T
   simp only[stkR,Stk.dd] at R T
   simp only[go_sem,Nat.reduceAdd,Nat.reduceMul,Nat.reduceSub,Nat.reduceLT,Nat.reduceLeDiff,Nat.reduceEqDiff,Nat.reduceBEq,Nat.reduceBeqDiff,Int.reduceEq,Int.reduceLT,Int.reduceLE,Int.reduceToNat,Int.reduceNeg,Int.reduceAdd,Int.reduceSub,Int.reduceMul,reduceIte,reduceCtorEq,Nat.reducePow,Nat.reduceDiv,Nat.reduceMod,Int.reduceBEq,ck,h,R,T,takeR]
 ·simp only[go_sem,Nat.reduceAdd,Nat.reduceMul,Nat.reduceSub,Nat.reduceLT,Nat.reduceLeDiff,Nat.reduceEqDiff,Nat.reduceBEq,Nat.reduceBeqDiff,Int.reduceEq,Int.reduceLT,Int.reduceLE,Int.reduceToNat,Int.reduceNeg,Int.reduceAdd,Int.reduceSub,Int.reduceMul,reduceIte,reduceCtorEq,Nat.reducePow,Nat.reduceDiv,Nat.reduceMod,Int.reduceBEq,ck,h,put_off h]
theorem ckpush_ev (fu n:Nat) (e:TEnv) (w:WkS) (l:List Int) (hs:SzOk fu w.s) (hl:l.length<1000000) (hl2:l.length<fu) (hf:3<fu):evF (G fu) (n+9) 161 [.ptr 0 0, .d (.list (byt l))] [.cells (ck e w)]=some (.tup [],[.cells (ck e (w.push l))]):=by
 have R:=push_ev fu (n+1) w.s l hs hl2 hl hf
 rw[evF.eq_2,evX.eq_def,Gext,exts_no _ (f:=161) (by decide),GP,Tryz.func161];simp only[Tryz.f161,evB]
 unfold WkS.push
 by_cases h:w.e=0
 ·rw[takeS_put w _ (fun _ x=>by have:=pushS_err x;omega)]
  cases hr:pushS w.s l with
  |ok s=>
   rw[hr] at R
   have T:=take_ev fu (n+6) e w s 0
   simp only[ck,h] at T
   simp only[stkR,Stk.dd] at R T
   simp only[go_sem,Nat.reduceAdd,Nat.reduceMul,Nat.reduceSub,Nat.reduceLT,Nat.reduceLeDiff,Nat.reduceEqDiff,Nat.reduceBEq,Nat.reduceBeqDiff,Int.reduceEq,Int.reduceLT,Int.reduceLE,Int.reduceToNat,Int.reduceNeg,Int.reduceAdd,Int.reduceSub,Int.reduceMul,reduceIte,reduceCtorEq,Nat.reducePow,Nat.reduceDiv,Nat.reduceMod,Int.reduceBEq,ck,h,R,T,takeR]
  |error x=>
   rw[hr] at R
   have T:=take_ev fu (n+6) e w stk0 x
   simp only[ck,h] at T
   simp only[stkR,Stk.dd] at R T
   simp only[go_sem,Nat.reduceAdd,Nat.reduceMul,Nat.reduceSub,Nat.reduceLT,Nat.reduceLeDiff,Nat.reduceEqDiff,Nat.reduceBEq,Nat.reduceBeqDiff,Int.reduceEq,Int.reduceLT,Int.reduceLE,Int.reduceToNat,Int.reduceNeg,Int.reduceAdd,Int.reduceSub,Int.reduceMul,reduceIte,reduceCtorEq,Nat.reducePow,Nat.reduceDiv,Nat.reduceMod,Int.reduceBEq,ck,h,R,T,takeR]
 ·simp only[go_sem,Nat.reduceAdd,Nat.reduceMul,Nat.reduceSub,Nat.reduceLT,Nat.reduceLeDiff,Nat.reduceEqDiff,Nat.reduceBEq,Nat.reduceBeqDiff,Int.reduceEq,Int.reduceLT,Int.reduceLE,Int.reduceToNat,Int.reduceNeg,Int.reduceAdd,Int.reduceSub,Int.reduceMul,reduceIte,reduceCtorEq,Nat.reducePow,Nat.reduceDiv,Nat.reduceMod,Int.reduceBEq,ck,h,put_off h]
theorem ckkill_ev (fu n:Nat) (e:TEnv) (w:WkS) (hs:SzOk fu w.s):evF (G fu) (n+9) 160 [.ptr 0 0] [.cells (ck e w)]=some (.tup [],[.cells (ck e w.kill)]):=by
 have R:=killR_ev fu n w.s hs
 rw[evF.eq_2,evX.eq_def,Gext,exts_no _ (f:=160) (by decide),GP,Tryz.func160];simp only[Tryz.f160,evB]
 unfold WkS.kill
 by_cases h:w.e=0
 ·rw[takeS_put w _ (fun _ x=>by have:=killS_err x;omega)]
  cases hr:killS w.s with
  |ok s=>
   rw[hr] at R
   have T:=take_ev fu (n+6) e w s 0
   simp only[ck,h] at T
   simp only[stkR,Stk.dd] at R T
   simp only[go_sem,Nat.reduceAdd,Nat.reduceMul,Nat.reduceSub,Nat.reduceLT,Nat.reduceLeDiff,Nat.reduceEqDiff,Nat.reduceBEq,Nat.reduceBeqDiff,Int.reduceEq,Int.reduceLT,Int.reduceLE,Int.reduceToNat,Int.reduceNeg,Int.reduceAdd,Int.reduceSub,Int.reduceMul,reduceIte,reduceCtorEq,Nat.reducePow,Nat.reduceDiv,Nat.reduceMod,Int.reduceBEq,ck,h,R,T,takeR]
  |error x=>
   rw[hr] at R
   have T:=take_ev fu (n+6) e w stk0 x
   simp only[ck,h] at T
   simp only[stkR,Stk.dd] at R T
   simp only[go_sem,Nat.reduceAdd,Nat.reduceMul,Nat.reduceSub,Nat.reduceLT,Nat.reduceLeDiff,Nat.reduceEqDiff,Nat.reduceBEq,Nat.reduceBeqDiff,Int.reduceEq,Int.reduceLT,Int.reduceLE,Int.reduceToNat,Int.reduceNeg,Int.reduceAdd,Int.reduceSub,Int.reduceMul,reduceIte,reduceCtorEq,Nat.reducePow,Nat.reduceDiv,Nat.reduceMod,Int.reduceBEq,ck,h,R,T,takeR]
 ·simp only[go_sem,Nat.reduceAdd,Nat.reduceMul,Nat.reduceSub,Nat.reduceLT,Nat.reduceLeDiff,Nat.reduceEqDiff,Nat.reduceBEq,Nat.reduceBeqDiff,Int.reduceEq,Int.reduceLT,Int.reduceLE,Int.reduceToNat,Int.reduceNeg,Int.reduceAdd,Int.reduceSub,Int.reduceMul,reduceIte,reduceCtorEq,Nat.reducePow,Nat.reduceDiv,Nat.reduceMod,Int.reduceBEq,ck,h,put_off h]
theorem ckopen_ev (fu n:Nat) (e:TEnv) (w:WkS) (op:Int) (l:List Int) (hs:SzOk fu w.s) (hl:l.length<1000000):evF (G fu) (n+9) 158 [.ptr 0 0, .d (.int .i64 op), .d (.list (byt l))] [.cells (ck e w)]=some (.tup [],[.cells (ck e (w.opens op l))]):=by
 have R:=openR_ev fu (n+1) w.s op l hs hl
 rw[evF.eq_2,evX.eq_def,Gext,exts_no _ (f:=158) (by decide),GP,Tryz.func158];simp only[Tryz.f158,evB]
 unfold WkS.opens
 by_cases h:w.e=0
 ·rw[takeS_put w _ (fun _ x=>by have:=openS_err x;omega)]
  cases hr:openS w.s op l with
  |ok s=>
   rw[hr] at R
   have T:=take_ev fu (n+6) e w s 0
   simp only[ck,h] at T
   simp only[stkR,Stk.dd] at R T
   simp only[go_sem,Nat.reduceAdd,Nat.reduceMul,Nat.reduceSub,Nat.reduceLT,Nat.reduceLeDiff,Nat.reduceEqDiff,Nat.reduceBEq,Nat.reduceBeqDiff,Int.reduceEq,Int.reduceLT,Int.reduceLE,Int.reduceToNat,Int.reduceNeg,Int.reduceAdd,Int.reduceSub,Int.reduceMul,reduceIte,reduceCtorEq,Nat.reducePow,Nat.reduceDiv,Nat.reduceMod,Int.reduceBEq,ck,h,R,T,takeR]
  |error x=>
   rw[hr] at R
   have T:=take_ev fu (n+6) e w stk0 x
   simp only[ck,h] at T
   simp only[stkR,Stk.dd] at R T
   simp only[go_sem,Nat.reduceAdd,Nat.reduceMul,Nat.reduceSub,Nat.reduceLT,Nat.reduceLeDiff,Nat.reduceEqDiff,Nat.reduceBEq,Nat.reduceBeqDiff,Int.reduceEq,Int.reduceLT,Int.reduceLE,Int.reduceToNat,Int.reduceNeg,Int.reduceAdd,Int.reduceSub,Int.reduceMul,reduceIte,reduceCtorEq,Nat.reducePow,Nat.reduceDiv,Nat.reduceMod,Int.reduceBEq,ck,h,R,T,takeR]
 ·simp only[go_sem,Nat.reduceAdd,Nat.reduceMul,Nat.reduceSub,Nat.reduceLT,Nat.reduceLeDiff,Nat.reduceEqDiff,Nat.reduceBEq,Nat.reduceBeqDiff,Int.reduceEq,Int.reduceLT,Int.reduceLE,Int.reduceToNat,Int.reduceNeg,Int.reduceAdd,Int.reduceSub,Int.reduceMul,reduceIte,reduceCtorEq,Nat.reducePow,Nat.reduceDiv,Nat.reduceMod,Int.reduceBEq,ck,h,put_off h]
theorem ckpop_ev (fu n:Nat) (e:TEnv) (w:WkS) (hs:SzOk fu w.s):evF (G fu) (n+9) 168 [.ptr 0 0] [.cells (ck e w)]=some (.d (.int .u8 w.pop.1),[.cells (ck e w.pop.2)]):=by
 have R:=popR_ev fu n w.s hs
 rw[evF.eq_2,evX.eq_def,Gext,exts_no _ (f:=168) (by decide),GP,Tryz.func168];simp only[Tryz.f168,evB]
 unfold WkS.pop
 cases hr:popS w.s with
 |ok z=>
  obtain⟨t,s⟩:=z
  rw[hr] at R
  have T:=take_ev fu (n+6) e w s 0
  simp only
  rw[takeS_put w _ (fun _ x=>by cases x)]
  simp only[popR,ck,Stk.dd] at R T
  simp only[go_sem,Nat.reduceAdd,Nat.reduceMul,Nat.reduceSub,Nat.reduceLT,Nat.reduceLeDiff,Nat.reduceEqDiff,Nat.reduceBEq,Nat.reduceBeqDiff,Int.reduceEq,Int.reduceLT,Int.reduceLE,Int.reduceToNat,Int.reduceNeg,Int.reduceAdd,Int.reduceSub,Int.reduceMul,reduceIte,reduceCtorEq,Nat.reducePow,Nat.reduceDiv,Nat.reduceMod,Int.reduceBEq,ck,R,T,takeR]
 |error x=>
  rw[hr] at R
  have T:=take_ev fu (n+6) e w stk0 x
  simp only
  rw[takeS_put w _ (fun y hy=>by cases hy;have:=popS_err hr;omega)]
  simp only[popR,ck,Stk.dd] at R T
  simp only[go_sem,Nat.reduceAdd,Nat.reduceMul,Nat.reduceSub,Nat.reduceLT,Nat.reduceLeDiff,Nat.reduceEqDiff,Nat.reduceBEq,Nat.reduceBeqDiff,Int.reduceEq,Int.reduceLT,Int.reduceLE,Int.reduceToNat,Int.reduceNeg,Int.reduceAdd,Int.reduceSub,Int.reduceMul,reduceIte,reduceCtorEq,Nat.reducePow,Nat.reduceDiv,Nat.reduceMod,Int.reduceBEq,ck,R,T,takeR]
theorem ckshut_ev (fu n:Nat) (e:TEnv) (w:WkS) (hs:SzOk fu w.s):evF (G fu) (n+9) 208 [.ptr 0 0] [.cells (ck e w)]=some (.d w.closed.1.dd,[.cells (ck e w.closed.2)]):=by
 have R:=closeR_ev fu n w.s hs
 rw[evF.eq_2,evX.eq_def,Gext,exts_no _ (f:=208) (by decide),GP,Tryz.func208];simp only[Tryz.f208,evB]
 unfold WkS.closed
 cases hr:closeS w.s with
 |ok z=>
  obtain⟨t,s⟩:=z
  rw[hr] at R
  have T:=take_ev fu (n+6) e w s 0
  simp only
  rw[takeS_put w _ (fun _ x=>by cases x)]
  simp only[closeR,ck,Stk.dd,Ctl.dd] at R T
  simp only[go_sem,Nat.reduceAdd,Nat.reduceMul,Nat.reduceSub,Nat.reduceLT,Nat.reduceLeDiff,Nat.reduceEqDiff,Nat.reduceBEq,Nat.reduceBeqDiff,Int.reduceEq,Int.reduceLT,Int.reduceLE,Int.reduceToNat,Int.reduceNeg,Int.reduceAdd,Int.reduceSub,Int.reduceMul,reduceIte,reduceCtorEq,Nat.reducePow,Nat.reduceDiv,Nat.reduceMod,Int.reduceBEq,ck,Ctl.dd,R,T,takeR]
 |error x=>
  rw[hr] at R
  have T:=take_ev fu (n+6) e w stk0 x
  simp only
  rw[takeS_put w _ (fun y hy=>by cases hy;have:=closeS_err hr;omega)]
  simp only[closeR,ck,Stk.dd,Ctl.dd,ctl0] at R T
  simp only[go_sem,Nat.reduceAdd,Nat.reduceMul,Nat.reduceSub,Nat.reduceLT,Nat.reduceLeDiff,Nat.reduceEqDiff,Nat.reduceBEq,Nat.reduceBeqDiff,Int.reduceEq,Int.reduceLT,Int.reduceLE,Int.reduceToNat,Int.reduceNeg,Int.reduceAdd,Int.reduceSub,Int.reduceMul,reduceIte,reduceCtorEq,Nat.reducePow,Nat.reduceDiv,Nat.reduceMod,Int.reduceBEq,ck,Ctl.dd,R,T,takeR]
theorem cklabel_ev (fu n:Nat) (e:TEnv) (w:WkS) (k:Int) (hs:SzOk fu w.s) (hk: -9223372036854775808≤k∧k≤9223372036854775807):evF (G fu) (n+8) 159 [.ptr 0 0, .d (.int .i64 k)] [.cells (ck e w)]=
 some (.row 1 0 0 (w.label k).1.length,[.cells (ck e (w.label k).2), .row 1 (byt (w.label k).1) 0 false false]):=by
 have R:=labelR_ev fu n w.s k hs hk
 rw[evF.eq_2,evX.eq_def,Gext,exts_no _ (f:=159) (by decide),GP,Tryz.func159];simp only[Tryz.f159,evB]
 unfold WkS.label
 cases hr:labelS w.s k with
 |ok l=>
  rw[hr] at R
  have T:=must_ev fu (n+6) e w true 0
  have hw:w.must true 0=w:=rfl
  rw[hw] at T
  simp only[labR,ck,Stk.dd] at R T
  simp only[go_sem,Nat.reduceAdd,Nat.reduceMul,Nat.reduceSub,Nat.reduceLT,Nat.reduceLeDiff,Nat.reduceEqDiff,Nat.reduceBEq,Nat.reduceBeqDiff,Int.reduceEq,Int.reduceLT,Int.reduceLE,Int.reduceToNat,Int.reduceNeg,Int.reduceAdd,Int.reduceSub,Int.reduceMul,reduceIte,reduceCtorEq,Nat.reducePow,Nat.reduceDiv,Nat.reduceMod,Int.reduceBEq,ck,R,T,takeR]
 |error x=>
  rw[hr] at R
  have T:=must_ev fu (n+6) e w false x
  have he: ¬x=0:=by
   unfold labelS at hr
   split at hr
   ·cases hr;decide
   ·split at hr
    ·cases hr;decide
    ·split at hr
     ·cases hr;decide
     ·cases hr
  simp only[labR,ck,Stk.dd] at R T
  simp only[go_sem,Nat.reduceAdd,Nat.reduceMul,Nat.reduceSub,Nat.reduceLT,Nat.reduceLeDiff,Nat.reduceEqDiff,Nat.reduceBEq,Nat.reduceBeqDiff,Int.reduceEq,Int.reduceLT,Int.reduceLE,Int.reduceToNat,Int.reduceNeg,Int.reduceAdd,Int.reduceSub,Int.reduceMul,reduceIte,reduceCtorEq,Nat.reducePow,Nat.reduceDiv,Nat.reduceMod,Int.reduceBEq,ck,R,T,he,List.map_nil]
end Go.Proofs.YtfpioigggjnffaaGreatDoor.E
set_option autoImplicit false
set_option maxRecDepth 100000
set_option maxHeartbeats 4000000
set_option pp.maxSteps 20000
namespace Go.Proofs.YtfpioigggjnffaaGreatDoor.E
open Go.Ev
def wk (w:WkS):List V:=[.d (.list (byt w.s.vals)), .d (.list (ctlds w.s.ctrls)), .d (.int .i64 w.e)]
theorem wput_ev (fu n:Nat) (w:WkS) (s:Stk) (x:Int):evF (G fu) (n+1) 113 [.ptr 0 0, .d s.dd, .d (.int .i64 x)] [.cells (wk w)]=some (.tup [],[.cells (wk (takeS w s x))]):=by
 rw[evF.eq_2,evX.eq_def,Gext,exts_no _ (f:=113) (by decide),GP,Tryz.func113];simp only[Tryz.f113,evB]
 unfold takeS
 by_cases h:w.e=0
 ·by_cases hx:x=0
  ·subst hx
   simp only[go_sem,Nat.reduceAdd,Nat.reduceMul,Nat.reduceSub,Nat.reduceLT,Nat.reduceLeDiff,Nat.reduceEqDiff,Nat.reduceBEq,Nat.reduceBeqDiff,Int.reduceEq,Int.reduceLT,Int.reduceLE,Int.reduceToNat,Int.reduceNeg,Int.reduceAdd,Int.reduceSub,Int.reduceMul,reduceIte,reduceCtorEq,Nat.reducePow,Nat.reduceDiv,Nat.reduceMod,Int.reduceBEq,wk,Stk.dd,h,ne_eq]
  ·simp only[go_sem,Nat.reduceAdd,Nat.reduceMul,Nat.reduceSub,Nat.reduceLT,Nat.reduceLeDiff,Nat.reduceEqDiff,Nat.reduceBEq,Nat.reduceBeqDiff,Int.reduceEq,Int.reduceLT,Int.reduceLE,Int.reduceToNat,Int.reduceNeg,Int.reduceAdd,Int.reduceSub,Int.reduceMul,reduceIte,reduceCtorEq,Nat.reducePow,Nat.reduceDiv,Nat.reduceMod,Int.reduceBEq,wk,Stk.dd,h,ne_eq,hx]
 ·simp only[go_sem,Nat.reduceAdd,Nat.reduceMul,Nat.reduceSub,Nat.reduceLT,Nat.reduceLeDiff,Nat.reduceEqDiff,Nat.reduceBEq,Nat.reduceBeqDiff,Int.reduceEq,Int.reduceLT,Int.reduceLE,Int.reduceToNat,Int.reduceNeg,Int.reduceAdd,Int.reduceSub,Int.reduceMul,reduceIte,reduceCtorEq,Nat.reducePow,Nat.reduceDiv,Nat.reduceMod,Int.reduceBEq,wk,Stk.dd,h,ne_eq]
theorem wmust_ev (fu n:Nat) (w:WkS) (ok:Bool) (x:Int):evF (G fu) (n+1) 115 [.ptr 0 0, .d (.bool ok), .d (.int .i64 x)] [.cells (wk w)]=some (.tup [],[.cells (wk (w.must ok x))]):=by
 rw[evF.eq_2,evX.eq_def,Gext,exts_no _ (f:=115) (by decide),GP,Tryz.func115];simp only[Tryz.f115,evB]
 unfold WkS.must
 by_cases h:w.e=0
 ·have h2:(w.e==0)=true:=by simpa using h
  cases ok with
  |true=>simp only[go_sem,Nat.reduceAdd,Nat.reduceMul,Nat.reduceSub,Nat.reduceLT,Nat.reduceLeDiff,Nat.reduceEqDiff,Nat.reduceBEq,Nat.reduceBeqDiff,Int.reduceEq,Int.reduceLT,Int.reduceLE,Int.reduceToNat,Int.reduceNeg,Int.reduceAdd,Int.reduceSub,Int.reduceMul,reduceIte,reduceCtorEq,Nat.reducePow,Nat.reduceDiv,Nat.reduceMod,Int.reduceBEq,wk,h,h2]
  |false=>simp only[go_sem,Nat.reduceAdd,Nat.reduceMul,Nat.reduceSub,Nat.reduceLT,Nat.reduceLeDiff,Nat.reduceEqDiff,Nat.reduceBEq,Nat.reduceBeqDiff,Int.reduceEq,Int.reduceLT,Int.reduceLE,Int.reduceToNat,Int.reduceNeg,Int.reduceAdd,Int.reduceSub,Int.reduceMul,reduceIte,reduceCtorEq,Nat.reducePow,Nat.reduceDiv,Nat.reduceMod,Int.reduceBEq,wk,h,h2]
 ·have h2:(w.e==0)=false:=by simpa using h
  cases ok with
  |true=>simp only[go_sem,Nat.reduceAdd,Nat.reduceMul,Nat.reduceSub,Nat.reduceLT,Nat.reduceLeDiff,Nat.reduceEqDiff,Nat.reduceBEq,Nat.reduceBeqDiff,Int.reduceEq,Int.reduceLT,Int.reduceLE,Int.reduceToNat,Int.reduceNeg,Int.reduceAdd,Int.reduceSub,Int.reduceMul,reduceIte,reduceCtorEq,Nat.reducePow,Nat.reduceDiv,Nat.reduceMod,Int.reduceBEq,wk,h,h2]
  |false=>simp only[go_sem,Nat.reduceAdd,Nat.reduceMul,Nat.reduceSub,Nat.reduceLT,Nat.reduceLeDiff,Nat.reduceEqDiff,Nat.reduceBEq,Nat.reduceBeqDiff,Int.reduceEq,Int.reduceLT,Int.reduceLE,Int.reduceToNat,Int.reduceNeg,Int.reduceAdd,Int.reduceSub,Int.reduceMul,reduceIte,reduceCtorEq,Nat.reducePow,Nat.reduceDiv,Nat.reduceMod,Int.reduceBEq,wk,h,h2]
theorem wwant_ev (fu n:Nat) (w:WkS) (l:List Int) (hs:SzOk fu w.s) (hl:l.length<fu) (hl2:l.length<1000000):evF (G fu) (n+5) 61 [.ptr 0 0, .d (.list (byt l))] [.cells (wk w)]=some (.tup [],[.cells (wk (w.want l))]):=by
 have R:=r9want_ev fu n w.s l hs hl hl2
 rw[evF.eq_2,evX.eq_def,Gext,exts_no _ (f:=61) (by decide),GP,Tryz.func61];simp only[Tryz.f61,evB]
 unfold WkS.want
 rw[takeS_put w _ (fun _ x=>by have:=wantS_err x;omega)]
 cases hr:wantS w.s l with
 |ok s=>
  rw[hr] at R
  have T:=wput_ev fu (n+3) w s 0
  simp only[stkR,Stk.dd,wk] at R T
  simp only[go_sem,Nat.reduceAdd,Nat.reduceMul,Nat.reduceSub,Nat.reduceLT,Nat.reduceLeDiff,Nat.reduceEqDiff,Nat.reduceBEq,Nat.reduceBeqDiff,Int.reduceEq,Int.reduceLT,Int.reduceLE,Int.reduceToNat,Int.reduceNeg,Int.reduceAdd,Int.reduceSub,Int.reduceMul,reduceIte,reduceCtorEq,Nat.reducePow,Nat.reduceDiv,Nat.reduceMod,Int.reduceBEq,wk,R,T,takeR]
 |error x=>
  rw[hr] at R
  have T:=wput_ev fu (n+3) w stk0 x
  simp only[stkR,Stk.dd,wk] at R T
  simp only[go_sem,Nat.reduceAdd,Nat.reduceMul,Nat.reduceSub,Nat.reduceLT,Nat.reduceLeDiff,Nat.reduceEqDiff,Nat.reduceBEq,Nat.reduceBeqDiff,Int.reduceEq,Int.reduceLT,Int.reduceLE,Int.reduceToNat,Int.reduceNeg,Int.reduceAdd,Int.reduceSub,Int.reduceMul,reduceIte,reduceCtorEq,Nat.reducePow,Nat.reduceDiv,Nat.reduceMod,Int.reduceBEq,wk,R,T,takeR]
theorem wpush_ev (fu n:Nat) (w:WkS) (l:List Int) (hs:SzOk fu w.s) (hl:l.length<fu) (hl2:l.length<1000000):evF (G fu) (n+6) 59 [.ptr 0 0, .d (.list (byt l))] [.cells (wk w)]=some (.tup [],[.cells (wk (w.push l))]):=by
 have R:=r9push_ev fu (n+2) w.s l hs hl hl2
 rw[evF.eq_2,evX.eq_def,Gext,exts_no _ (f:=59) (by decide),GP,Tryz.func59];simp only[Tryz.f59,evB]
 unfold WkS.push
 rw[takeS_put w _ (fun _ x=>by have:=pushS_err x;omega)]
 cases hr:pushS w.s l with
 |ok s=>
  rw[hr] at R
  have T:=wput_ev fu (n+4) w s 0
  simp only[stkR,Stk.dd,wk] at R T
  simp only[go_sem,Nat.reduceAdd,Nat.reduceMul,Nat.reduceSub,Nat.reduceLT,Nat.reduceLeDiff,Nat.reduceEqDiff,Nat.reduceBEq,Nat.reduceBeqDiff,Int.reduceEq,Int.reduceLT,Int.reduceLE,Int.reduceToNat,Int.reduceNeg,Int.reduceAdd,Int.reduceSub,Int.reduceMul,reduceIte,reduceCtorEq,Nat.reducePow,Nat.reduceDiv,Nat.reduceMod,Int.reduceBEq,wk,R,T,takeR]
 |error x=>
  rw[hr] at R
  have T:=wput_ev fu (n+4) w stk0 x
  simp only[stkR,Stk.dd,wk] at R T
  simp only[go_sem,Nat.reduceAdd,Nat.reduceMul,Nat.reduceSub,Nat.reduceLT,Nat.reduceLeDiff,Nat.reduceEqDiff,Nat.reduceBEq,Nat.reduceBeqDiff,Int.reduceEq,Int.reduceLT,Int.reduceLE,Int.reduceToNat,Int.reduceNeg,Int.reduceAdd,Int.reduceSub,Int.reduceMul,reduceIte,reduceCtorEq,Nat.reducePow,Nat.reduceDiv,Nat.reduceMod,Int.reduceBEq,wk,R,T,takeR]
theorem wkill_ev (fu n:Nat) (w:WkS) (hs:SzOk fu w.s):evF (G fu) (n+6) 51 [.ptr 0 0] [.cells (wk w)]=some (.tup [],[.cells (wk (w.kill))]):=by
 have R:=r9kill_ev fu (n+2) w.s hs
 rw[evF.eq_2,evX.eq_def,Gext,exts_no _ (f:=51) (by decide),GP,Tryz.func51];simp only[Tryz.f51,evB]
 unfold WkS.kill
 rw[takeS_put w _ (fun _ x=>by have:=killS_err x;omega)]
 cases hr:killS w.s with
 |ok s=>
  rw[hr] at R
  have T:=wput_ev fu (n+4) w s 0
  simp only[stkR,Stk.dd,wk] at R T
  simp only[go_sem,Nat.reduceAdd,Nat.reduceMul,Nat.reduceSub,Nat.reduceLT,Nat.reduceLeDiff,Nat.reduceEqDiff,Nat.reduceBEq,Nat.reduceBeqDiff,Int.reduceEq,Int.reduceLT,Int.reduceLE,Int.reduceToNat,Int.reduceNeg,Int.reduceAdd,Int.reduceSub,Int.reduceMul,reduceIte,reduceCtorEq,Nat.reducePow,Nat.reduceDiv,Nat.reduceMod,Int.reduceBEq,wk,R,T,takeR]
 |error x=>
  rw[hr] at R
  have T:=wput_ev fu (n+4) w stk0 x
  simp only[stkR,Stk.dd,wk] at R T
  simp only[go_sem,Nat.reduceAdd,Nat.reduceMul,Nat.reduceSub,Nat.reduceLT,Nat.reduceLeDiff,Nat.reduceEqDiff,Nat.reduceBEq,Nat.reduceBeqDiff,Int.reduceEq,Int.reduceLT,Int.reduceLE,Int.reduceToNat,Int.reduceNeg,Int.reduceAdd,Int.reduceSub,Int.reduceMul,reduceIte,reduceCtorEq,Nat.reducePow,Nat.reduceDiv,Nat.reduceMod,Int.reduceBEq,wk,R,T,takeR]
theorem wopen_ev (fu n:Nat) (w:WkS) (op:Int) (l:List Int) (hs:SzOk fu w.s) (hl2:l.length<1000000):evF (G fu) (n+6) 114 [.ptr 0 0, .d (.int .i64 op), .d (.list (byt l))] [.cells (wk w)]=some (.tup [],[.cells (wk (w.opens op l))]):=by
 have R:=r9open_ev fu (n+2) w.s op l hs hl2
 rw[evF.eq_2,evX.eq_def,Gext,exts_no _ (f:=114) (by decide),GP,Tryz.func114];simp only[Tryz.f114,evB]
 unfold WkS.opens
 rw[takeS_put w _ (fun _ x=>by have:=openS_err x;omega)]
 cases hr:openS w.s op l with
 |ok s=>
  rw[hr] at R
  have T:=wput_ev fu (n+4) w s 0
  simp only[stkR,Stk.dd,wk] at R T
  simp only[go_sem,Nat.reduceAdd,Nat.reduceMul,Nat.reduceSub,Nat.reduceLT,Nat.reduceLeDiff,Nat.reduceEqDiff,Nat.reduceBEq,Nat.reduceBeqDiff,Int.reduceEq,Int.reduceLT,Int.reduceLE,Int.reduceToNat,Int.reduceNeg,Int.reduceAdd,Int.reduceSub,Int.reduceMul,reduceIte,reduceCtorEq,Nat.reducePow,Nat.reduceDiv,Nat.reduceMod,Int.reduceBEq,wk,R,T,takeR]
 |error x=>
  rw[hr] at R
  have T:=wput_ev fu (n+4) w stk0 x
  simp only[stkR,Stk.dd,wk] at R T
  simp only[go_sem,Nat.reduceAdd,Nat.reduceMul,Nat.reduceSub,Nat.reduceLT,Nat.reduceLeDiff,Nat.reduceEqDiff,Nat.reduceBEq,Nat.reduceBeqDiff,Int.reduceEq,Int.reduceLT,Int.reduceLE,Int.reduceToNat,Int.reduceNeg,Int.reduceAdd,Int.reduceSub,Int.reduceMul,reduceIte,reduceCtorEq,Nat.reducePow,Nat.reduceDiv,Nat.reduceMod,Int.reduceBEq,wk,R,T,takeR]
theorem wpop_ev (fu n:Nat) (w:WkS) (hs:SzOk fu w.s):evF (G fu) (n+6) 118 [.ptr 0 0] [.cells (wk w)]=some (.d (.int .u8 w.pop.1),[.cells (wk w.pop.2)]):=by
 have R:=r9pop_ev fu (n+2) w.s hs
 rw[evF.eq_2,evX.eq_def,Gext,exts_no _ (f:=118) (by decide),GP,Tryz.func118];simp only[Tryz.f118,evB]
 unfold WkS.pop
 cases hr:popS w.s with
 |ok z=>
  obtain⟨t,s⟩:=z
  rw[hr] at R
  have T:=wput_ev fu (n+4) w s 0
  simp only
  rw[takeS_put w _ (fun _ x=>by cases x)]
  simp only[popR,wk,Stk.dd] at R T
  simp only[go_sem,Nat.reduceAdd,Nat.reduceMul,Nat.reduceSub,Nat.reduceLT,Nat.reduceLeDiff,Nat.reduceEqDiff,Nat.reduceBEq,Nat.reduceBeqDiff,Int.reduceEq,Int.reduceLT,Int.reduceLE,Int.reduceToNat,Int.reduceNeg,Int.reduceAdd,Int.reduceSub,Int.reduceMul,reduceIte,reduceCtorEq,Nat.reducePow,Nat.reduceDiv,Nat.reduceMod,Int.reduceBEq,wk,R,T,takeR]
 |error x=>
  rw[hr] at R
  have T:=wput_ev fu (n+4) w stk0 x
  have he:=popS_err hr
  simp only
  rw[takeS_put w _ (fun y hy=>by cases hy;omega)]
  simp only[popR,wk,Stk.dd] at R T
  simp only[go_sem,Nat.reduceAdd,Nat.reduceMul,Nat.reduceSub,Nat.reduceLT,Nat.reduceLeDiff,Nat.reduceEqDiff,Nat.reduceBEq,Nat.reduceBeqDiff,Int.reduceEq,Int.reduceLT,Int.reduceLE,Int.reduceToNat,Int.reduceNeg,Int.reduceAdd,Int.reduceSub,Int.reduceMul,reduceIte,reduceCtorEq,Nat.reducePow,Nat.reduceDiv,Nat.reduceMod,Int.reduceBEq,wk,R,T,takeR]
theorem wclosed_ev (fu n:Nat) (w:WkS) (hs:SzOk fu w.s) (hf:3<fu):evF (G fu) (n+6) 116 [.ptr 0 0] [.cells (wk w)]=some (.d w.closed.1.dd,[.cells (wk w.closed.2)]):=by
 have R:=r9close_ev fu n w.s hs hf
 rw[evF.eq_2,evX.eq_def,Gext,exts_no _ (f:=116) (by decide),GP,Tryz.func116];simp only[Tryz.f116,evB]
 unfold WkS.closed
 cases hr:closeS w.s with
 |ok z=>
  obtain⟨c,s⟩:=z
  rw[hr] at R
  have T:=wput_ev fu (n+4) w s 0
  simp only
  rw[takeS_put w _ (fun _ x=>by cases x)]
  simp only[closeR,wk,Stk.dd,Ctl.dd] at R T
  simp only[go_sem,Nat.reduceAdd,Nat.reduceMul,Nat.reduceSub,Nat.reduceLT,Nat.reduceLeDiff,Nat.reduceEqDiff,Nat.reduceBEq,Nat.reduceBeqDiff,Int.reduceEq,Int.reduceLT,Int.reduceLE,Int.reduceToNat,Int.reduceNeg,Int.reduceAdd,Int.reduceSub,Int.reduceMul,reduceIte,reduceCtorEq,Nat.reducePow,Nat.reduceDiv,Nat.reduceMod,Int.reduceBEq,wk,R,T,takeR,Ctl.dd]
 |error x=>
  rw[hr] at R
  have T:=wput_ev fu (n+4) w stk0 x
  have he:=closeS_err hr
  simp only
  rw[takeS_put w _ (fun y hy=>by cases hy;omega)]
  simp only[closeR,wk,Stk.dd,Ctl.dd,ctl0] at R T
  simp only[go_sem,Nat.reduceAdd,Nat.reduceMul,Nat.reduceSub,Nat.reduceLT,Nat.reduceLeDiff,Nat.reduceEqDiff,Nat.reduceBEq,Nat.reduceBeqDiff,Int.reduceEq,Int.reduceLT,Int.reduceLE,Int.reduceToNat,Int.reduceNeg,Int.reduceAdd,Int.reduceSub,Int.reduceMul,reduceIte,reduceCtorEq,Nat.reducePow,Nat.reduceDiv,Nat.reduceMod,Int.reduceBEq,wk,R,T,takeR,Ctl.dd]
  try rfl
theorem i32_ev (fu n:Nat):evF (G fu) (n+1) 60 [] []=some (.row 0 0 0 1,[.row 1 (byt [127]) 0 false false]):=by
 rw[evF.eq_2,evX.eq_def,Gext,exts_no _ (f:=60) (by decide),GP,Tryz.func60];simp only[Tryz.f60,evB]
 simp only[go_sem,Nat.reduceAdd,Nat.reduceMul,Nat.reduceSub,Nat.reduceLT,Nat.reduceLeDiff,Nat.reduceEqDiff,Nat.reduceBEq,Nat.reduceBeqDiff,Int.reduceEq,Int.reduceLT,Int.reduceLE,Int.reduceToNat,Int.reduceNeg,Int.reduceAdd,Int.reduceSub,Int.reduceMul,reduceIte,reduceCtorEq,Nat.reducePow,Nat.reduceDiv,Nat.reduceMod,Int.reduceBEq]
end Go.Proofs.YtfpioigggjnffaaGreatDoor.E
