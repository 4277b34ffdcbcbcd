/- Q9. -/
import Derived.Test.YtfpioigggjnffaaGreatDoorQ8
set_option linter.unnecessarySimpa false
set_option linter.unusedSimpArgs false
set_option linter.unusedVariables false
set_option autoImplicit false
set_option maxRecDepth 100000
set_option maxHeartbeats 4000000
set_option pp.maxSteps 20000
namespace Go.Proofs.YtfpioigggjnffaaGreatDoor.E
open Go.Ev
theorem must_true' (w:WkS) (e:Int):w.must true e=w:=rfl
theorem block_ev (fu n b:Nat) (e:TEnv) (w:WkS) (hb:b+100<fu) (hm:b+100<1000000) (h:Rm b w.s) (i:TInstr) (h5:i.op≠5) (h11:i.op≠11):evF (G fu) (n+10) 99 [.ptr 0 0, .d i.d] [.cells (ck e w)]=some (.tup [],[.cells (ck e (nestedS w i))]):=by
 have P1:=ckwant_ev fu n e w [127] (h.ok (by omega) (by omega)) (by simp)
 have h1:=h.want [127]
 have P2:=fun l=>ckopen_ev fu n e (w.want [127]) 4 l (h1.ok (by omega) (by omega))
 have P3:=fun l=>ckopen_ev fu n e w i.op l (h.ok (by omega) (by omega))
 unfold nestedS leftOf
 rw[if_neg h5,if_neg h11]
 rw[evF.eq_2,evX.eq_def,Gext,exts_no _ (f:=99) (by decide),GP,Tryz.func99];simp only[Tryz.f99,evB]
 simp only[byt1] at P1
 have W:=wrap_u8_mod i.a
 by_cases h4:i.op=4
 ·by_cases ha:i.a=0
  ·have P2:=P2 [] (by simp)
   simp only[byt0] at P2
   simp only[go_sem,Nat.reduceAdd,Nat.reduceMul,Nat.reduceSub,Nat.reduceLT,Nat.reduceLeDiff,Nat.reduceEqDiff,Nat.reduceBEq,Nat.reduceBeqDiff,Int.reduceEq,Int.reduceLT,Int.reduceLE,Int.reduceToNat,Int.reduceNeg,Int.reduceAdd,Int.reduceSub,Int.reduceMul,reduceIte,reduceCtorEq,Nat.reducePow,Nat.reduceDiv,Nat.reduceMod,Int.reduceBEq,TInstr.d,h4,ha,P1,P2]
  ·have P2:=P2 [i.a%256] (by simp)
   simp only[byt1] at P2
   simp only[go_sem,Nat.reduceAdd,Nat.reduceMul,Nat.reduceSub,Nat.reduceLT,Nat.reduceLeDiff,Nat.reduceEqDiff,Nat.reduceBEq,Nat.reduceBeqDiff,Int.reduceEq,Int.reduceLT,Int.reduceLE,Int.reduceToNat,Int.reduceNeg,Int.reduceAdd,Int.reduceSub,Int.reduceMul,reduceIte,reduceCtorEq,Nat.reducePow,Nat.reduceDiv,Nat.reduceMod,Int.reduceBEq,TInstr.d,h4,ha,P1,P2,W]
 ·by_cases ha:i.a=0
  ·have P3:=P3 [] (by simp)
   simp only[byt0] at P3
   simp only[go_sem,Nat.reduceAdd,Nat.reduceMul,Nat.reduceSub,Nat.reduceLT,Nat.reduceLeDiff,Nat.reduceEqDiff,Nat.reduceBEq,Nat.reduceBeqDiff,Int.reduceEq,Int.reduceLT,Int.reduceLE,Int.reduceToNat,Int.reduceNeg,Int.reduceAdd,Int.reduceSub,Int.reduceMul,reduceIte,reduceCtorEq,Nat.reducePow,Nat.reduceDiv,Nat.reduceMod,Int.reduceBEq,TInstr.d,h4,ha,P3]
  ·have P3:=P3 [i.a%256] (by simp)
   simp only[byt1] at P3
   simp only[go_sem,Nat.reduceAdd,Nat.reduceMul,Nat.reduceSub,Nat.reduceLT,Nat.reduceLeDiff,Nat.reduceEqDiff,Nat.reduceBEq,Nat.reduceBeqDiff,Int.reduceEq,Int.reduceLT,Int.reduceLE,Int.reduceToNat,Int.reduceNeg,Int.reduceAdd,Int.reduceSub,Int.reduceMul,reduceIte,reduceCtorEq,Nat.reducePow,Nat.reduceDiv,Nat.reduceMod,Int.reduceBEq,TInstr.d,h4,ha,P3,W]
def locS (env:TEnv) (w:WkS) (a:Int):Int×WkS:=match env.locs[a.toNat]? with
 |some t=>(t,w)
 |none=>(0,w.must false 6)
def globS (env:TEnv) (w:WkS) (a:Int) (set:Bool):Int×WkS:=match env.globals[a.toNat]? with
 |some g=>(g.1,w.must (!set||g.2) 5)
 |none=>(0,w.must false 6)
theorem local_ev (fu n:Nat) (e:TEnv) (w:WkS) (a:Int) (ha:0≤a):evF (G fu) (n+2) 207 [.ptr 0 0, .d (.int .i64 a)] [.cells (ck e w)]=some (.d (.int .u8 (locS e w a).1),[.cells (ck e (locS e w a).2)]):=by
 have P:=must_ev fu n e w
 rw[evF.eq_2,evX.eq_def,Gext,exts_no _ (f:=207) (by decide),GP,Tryz.func207];simp only[Tryz.f207,evB]
 unfold locS
 by_cases h:a<e.locs.length
 ·have hlt:a.toNat<e.locs.length:=by omega
  have hx:(byt e.locs)[a.toNat]? =some (.int .u8 (e.locs.getD a.toNat 0)):=getD_map hlt
  have hx2:e.locs[a.toNat]? =some (e.locs.getD a.toNat 0):=by simp[hlt]
  simp only[go_sem,Nat.reduceAdd,Nat.reduceMul,Nat.reduceSub,Nat.reduceLT,Nat.reduceLeDiff,Nat.reduceEqDiff,Nat.reduceBEq,Nat.reduceBeqDiff,Int.reduceEq,Int.reduceLT,Int.reduceLE,Int.reduceToNat,Int.reduceNeg,Int.reduceAdd,Int.reduceSub,Int.reduceMul,reduceIte,reduceCtorEq,Nat.reducePow,Nat.reduceDiv,Nat.reduceMod,Int.reduceBEq,byt_len,h,P,must_true',idx,ha,hx,hx2]
 ·have hx2:e.locs[a.toNat]? =none:=List.getElem?_eq_none (by omega)
  simp only[go_sem,Nat.reduceAdd,Nat.reduceMul,Nat.reduceSub,Nat.reduceLT,Nat.reduceLeDiff,Nat.reduceEqDiff,Nat.reduceBEq,Nat.reduceBeqDiff,Int.reduceEq,Int.reduceLT,Int.reduceLE,Int.reduceToNat,Int.reduceNeg,Int.reduceAdd,Int.reduceSub,Int.reduceMul,reduceIte,reduceCtorEq,Nat.reducePow,Nat.reduceDiv,Nat.reduceMod,Int.reduceBEq,byt_len,h,P,hx2]
def gl0:Int×Bool:=(0,false)
theorem global_ev (fu n:Nat) (e:TEnv) (w:WkS) (a:Int) (set:Bool) (ha:0≤a):evF (G fu) (n+2) 163 [.ptr 0 0, .d (.int .i64 a), .d (.bool set)] [.cells (ck e w)]=some (.d (.int .u8 (globS e w a set).1),[.cells (ck e (globS e w a set).2)]):=by
 have P:=must_ev fu n e w
 rw[evF.eq_2,evX.eq_def,Gext,exts_no _ (f:=163) (by decide),GP,Tryz.func163];simp only[Tryz.f163,evB]
 unfold globS
 by_cases h:a<e.globals.length
 ·have hlt:a.toNat<e.globals.length:=by omega
  have hx:(e.globals.map glD)[a.toNat]? =some (glD (e.globals.getD a.toNat gl0)):=getD_map hlt
  have hx2:e.globals[a.toNat]? =some (e.globals.getD a.toNat gl0):=by simp[hlt]
  generalize e.globals.getD a.toNat gl0=g at*
  obtain⟨v,m⟩:=g
  cases m<;>cases set<;>simp only[go_sem,Nat.reduceAdd,Nat.reduceMul,Nat.reduceSub,Nat.reduceLT,Nat.reduceLeDiff,Nat.reduceEqDiff,Nat.reduceBEq,Nat.reduceBeqDiff,Int.reduceEq,Int.reduceLT,Int.reduceLE,Int.reduceToNat,Int.reduceNeg,Int.reduceAdd,Int.reduceSub,Int.reduceMul,reduceIte,reduceCtorEq,Nat.reducePow,Nat.reduceDiv,Nat.reduceMod,Int.reduceBEq,List.length_map,h,P,must_true',idx,ha,hx,hx2,glD]
 ·have hx2:e.globals[a.toNat]? =none:=List.getElem?_eq_none (by omega)
  simp only[go_sem,Nat.reduceAdd,Nat.reduceMul,Nat.reduceSub,Nat.reduceLT,Nat.reduceLeDiff,Nat.reduceEqDiff,Nat.reduceBEq,Nat.reduceBeqDiff,Int.reduceEq,Int.reduceLT,Int.reduceLE,Int.reduceToNat,Int.reduceNeg,Int.reduceAdd,Int.reduceSub,Int.reduceMul,reduceIte,reduceCtorEq,Nat.reducePow,Nat.reduceDiv,Nat.reduceMod,Int.reduceBEq,List.length_map,h,P,hx2]
theorem Rm.loc {b:Nat} {e:TEnv} {w:WkS} {a:Int} (h:Rm b w.s):Rm b (locS e w a).2.s:=by
 unfold locS
 cases e.locs[a.toNat]? with
 |some t=>exact h
 |none=>exact h.must _ _
theorem Rm.glob {b:Nat} {e:TEnv} {w:WkS} {a:Int} {set:Bool} (h:Rm b w.s):Rm b (globS e w a set).2.s:=by
 unfold globS
 cases e.globals[a.toNat]? with
 |some t=>exact h.must _ _
 |none=>exact h.must _ _
theorem localOp_ev (fu n b:Nat) (e:TEnv) (w:WkS) (hb:b+100<fu) (hm:b+100<1000000) (h:Rm b w.s) (i:TInstr) (ha:0≤i.a) (h34:i.op=32∨i.op=33∨i.op=34):evF (G fu) (n+10) 164 [.ptr 0 0, .d i.d] [.cells (ck e w)]=some (.tup [],[.cells (ck e (variableS e w i))]):=by
 have P1:=local_ev fu (n+7) e w i.a ha
 have h1:Rm b (locS e w i.a).2.s:=h.loc
 have P2:=ckwant_ev fu n e (locS e w i.a).2 [(locS e w i.a).1] (h1.ok (by omega) (by omega)) (by simp)
 have h2:=h1.want [(locS e w i.a).1]
 have P3:=ckpush_ev fu n e (locS e w i.a).2 [(locS e w i.a).1] (h1.ok (by omega) (by omega)) (by simp) (by simp;omega) (by omega)
 have P4:=ckpush_ev fu n e ((locS e w i.a).2.want [(locS e w i.a).1]) [(locS e w i.a).1] (h2.ok (by omega) (by omega)) (by simp) (by simp;omega) (by omega)
 have hv:variableS e w i=(if i.op=32∨i.op=34∨i.op=35 then(if i.op≠32∧i.op≠35 then(locS e w i.a).2.want [(locS e w i.a).1] else(locS e w i.a).2).push [(locS e w i.a).1] else(if i.op≠32∧i.op≠35 then(locS e w i.a).2.want [(locS e w i.a).1] else(locS e w i.a).2)):=by
  unfold variableS locS
  rw[if_pos (show i.op≤34 by omega)]
  rfl
 rw[hv]
 rw[evF.eq_2,evX.eq_def,Gext,exts_no _ (f:=164) (by decide),GP,Tryz.func164];simp only[Tryz.f164,evB]
 simp only[byt1] at P2 P3 P4
 generalize hop:i.op=op at*
 rcases h34 with rfl|rfl|rfl
 ·simp only[go_sem,Nat.reduceAdd,Nat.reduceMul,Nat.reduceSub,Nat.reduceLT,Nat.reduceLeDiff,Nat.reduceEqDiff,Nat.reduceBEq,Nat.reduceBeqDiff,Int.reduceEq,Int.reduceLT,Int.reduceLE,Int.reduceToNat,Int.reduceNeg,Int.reduceAdd,Int.reduceSub,Int.reduceMul,reduceIte,reduceCtorEq,Nat.reducePow,Nat.reduceDiv,Nat.reduceMod,Int.reduceBEq,TInstr.d,hop,P1,P2,P3,P4,ne_eq]
 ·simp only[go_sem,Nat.reduceAdd,Nat.reduceMul,Nat.reduceSub,Nat.reduceLT,Nat.reduceLeDiff,Nat.reduceEqDiff,Nat.reduceBEq,Nat.reduceBeqDiff,Int.reduceEq,Int.reduceLT,Int.reduceLE,Int.reduceToNat,Int.reduceNeg,Int.reduceAdd,Int.reduceSub,Int.reduceMul,reduceIte,reduceCtorEq,Nat.reducePow,Nat.reduceDiv,Nat.reduceMod,Int.reduceBEq,TInstr.d,hop,P1,P2,P3,P4,ne_eq]
 ·simp only[go_sem,Nat.reduceAdd,Nat.reduceMul,Nat.reduceSub,Nat.reduceLT,Nat.reduceLeDiff,Nat.reduceEqDiff,Nat.reduceBEq,Nat.reduceBeqDiff,Int.reduceEq,Int.reduceLT,Int.reduceLE,Int.reduceToNat,Int.reduceNeg,Int.reduceAdd,Int.reduceSub,Int.reduceMul,reduceIte,reduceCtorEq,Nat.reducePow,Nat.reduceDiv,Nat.reduceMod,Int.reduceBEq,TInstr.d,hop,P1,P2,P3,P4,ne_eq]
end Go.Proofs.YtfpioigggjnffaaGreatDoor.E
