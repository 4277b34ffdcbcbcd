/- LCheckStep. -/
import Derived.Test.YtfpioigggjnffaaGreatDoorR14
set_option linter.unnecessarySimpa false
set_option linter.unusedSimpArgs false
set_option linter.unusedVariables false
set_option autoImplicit false
set_option maxRecDepth 100000
set_option maxHeartbeats 4000000
set_option pp.maxSteps 20000
namespace Go.Proofs.YtfpioigggjnffaaGreatDoor.E
open Go.Ev
def ctlOf (c:Tavocetref09_Ctrl):Ctl:=⟨c.op,c.end_,c.height,c.dead⟩
def stkOf (s:Tavocetref09_Stack):Stk:=⟨s.vals,s.ctrls.map ctlOf⟩
theorem stkOf_d (s:Tavocetref09_Stack):s.d=(stkOf s).dd:=by
 simp[Tavocetref09_Stack.d,Stk.dd,stkOf,ctlds,Tavocetref09_Ctrl.d,Ctl.dd,ctlOf,Function.comp_def]
theorem envOf_d (e:Tavocetref10_Env):e.d=(envOf e).dd:=by
 simp[Tavocetref10_Env.d,TEnv.dd,envOf,tyOf,tyD,glOf,glD,TFuncType.d,Tavocetref10_Glob.d,Function.comp_def]
theorem checkStep_ev (fu n:Nat) (e:Tavocetref10_Env) (s:Stk) (i:TInstr) (f:Int) (hf:20000<fu) (hl:i.labels.length<fu) (hl9:i.labels.length≤maxLen):
 evF (G fu) (n+17) 3 [.d e.d, .d s.dd, .d i.d, .d (.int .i64 f)] []=some (.d (.bool true),[]):=by
 have A:=awake10_ev fu (n+1) (by omega)
 have S1:=small_ev fu (n+15) e (by omega)
 have F1:=few10_ev fu (n+15) s (by omega)
 rw[envOf_d] at S1 ⊢
 simp only[TEnv.dd,Stk.dd] at S1 F1
 rw[evF.eq_2,evX.eq_def,Gext,exts_no _ (f:=3) (by decide),GP,Tryz.func3];simp only[Tryz.f3,evB]
 cases hs:smallE e with
 |false=>
  rw[hs] at S1
  simp only[go_sem,Nat.reduceAdd,Nat.reduceMul,Nat.reduceSub,Nat.reduceLT,Nat.reduceLeDiff,Nat.reduceEqDiff,Nat.reduceBEq,Nat.reduceBeqDiff,Int.reduceEq,Int.reduceLT,Int.reduceLE,Int.reduceToNat,Int.reduceNeg,Int.reduceAdd,Int.reduceSub,Int.reduceMul,reduceIte,reduceCtorEq,Nat.reducePow,Nat.reduceDiv,Nat.reduceMod,Int.reduceBEq,TEnv.dd,Stk.dd,TInstr.d,A,S1]
 |true=>
  rw[hs] at S1
  cases hw:fewS s with
  |false=>
   rw[hw] at F1
   simp only[go_sem,Nat.reduceAdd,Nat.reduceMul,Nat.reduceSub,Nat.reduceLT,Nat.reduceLeDiff,Nat.reduceEqDiff,Nat.reduceBEq,Nat.reduceBeqDiff,Int.reduceEq,Int.reduceLT,Int.reduceLE,Int.reduceToNat,Int.reduceNeg,Int.reduceAdd,Int.reduceSub,Int.reduceMul,reduceIte,reduceCtorEq,Nat.reducePow,Nat.reduceDiv,Nat.reduceMod,Int.reduceBEq,TEnv.dd,Stk.dd,TInstr.d,A,S1,F1]
  |true=>
   rw[hw] at F1
   by_cases hlab:(i.labels.length:Int)≤70
   ·have hE:=eok_of hs (fu:=fu) (by omega)
    have hg:e.globals.length≤70:=by
     unfold smallE at hs
     simp only[Bool.and_eq_true,decide_eq_true_eq] at hs
     omega
    have VV:=env_ev fu (n+15) e (by omega) (by omega)
    rw[envOf_d] at VV
    generalize envOf e=ee at*
    have hfw:s.vals.length≤200∧s.ctrls.length≤60:=by
     unfold fewS at hw
     simp only[Bool.and_eq_true,decide_eq_true_eq] at hw
     omega
    have hR:Rm 200 s:=⟨by omega,by omega⟩
    have O1:=ours10_ev fu (n+15) s (by omega) (by omega)
    have P1:=step_ev fu (n+4) 200 ee hE.sm s (by omega) (by omega) hR i (by omega) (by omega)
    have P2:=rstep_ev fu (n+8) 200 ee hE.sm s (by omega) (by omega) hR i (by omega) (by omega)
    have T1:=type_ev fu (n+14) ee f
    have T2:=rtype_ev fu (n+15) ee f
    have nl: ¬(70:Int)<i.labels.length:=by omega
    have hz: ∃s' x,(stkR (stepS saneF accE shapeF ee s i)=some (.tup [.d (Stk.dd s'), .d (.int .i64 x)],[]))∧Rm 300 s':=by
     cases hst:stepS saneF accE shapeF ee s i with
     |ok s'=>exact⟨s',0,rfl,(Rm.step hE.sm hR hst).up (by omega)⟩
     |error x=>exact⟨stk0,x,rfl,by simp[stk0],by simp[stk0]⟩
    obtain⟨s',x,hz,hR'⟩:=hz
    rw[hz] at P1 P2
    have TH:=theirs10_ev fu (n+15) s' (by have:=hR'.2;omega) (by have:=hR'.2;omega)
    have SM:=r9same_ev fu (n+14) s' (hR'.ok (by omega) (by omega))
    simp only[TEnv.dd,Stk.dd,TInstr.d] at VV O1 P1 P2 TH SM T1 T2
    have hty: ∃p r ok,tyR (typeS ee f)=some (.tup [.d (.agg [.list (byt p), .list (byt r)]), .d (.bool ok)],[]):=by
     cases typeS ee f with
     |none=>exact⟨[],[],false,rfl⟩
     |some t=>exact⟨t.1,t.2,true,rfl⟩
    obtain⟨p,r,ok,hty⟩:=hty
    rw[hty] at T1 T2
    have h1:=strOf8 p
    have h2:=strOf8 r
    simp only[go_sem,Nat.reduceAdd,Nat.reduceMul,Nat.reduceSub,Nat.reduceLT,Nat.reduceLeDiff,Nat.reduceEqDiff,Nat.reduceBEq,Nat.reduceBeqDiff,Int.reduceEq,Int.reduceLT,Int.reduceLE,Int.reduceToNat,Int.reduceNeg,Int.reduceAdd,Int.reduceSub,Int.reduceMul,reduceIte,reduceCtorEq,Nat.reducePow,Nat.reduceDiv,Nat.reduceMod,Int.reduceBEq,TEnv.dd,Stk.dd,TInstr.d,List.length_map,A,S1,F1,nl,VV,O1,P1,P2,T1,T2,TH,SM,h1,h2]
    (rw[cond_free];rotate_left;·rfl)
    simp only[go_sem,Nat.reduceAdd,Nat.reduceMul,Nat.reduceSub,Nat.reduceLT,Nat.reduceLeDiff,Nat.reduceEqDiff,Nat.reduceBEq,Nat.reduceBeqDiff,Int.reduceEq,Int.reduceLT,Int.reduceLE,Int.reduceToNat,Int.reduceNeg,Int.reduceAdd,Int.reduceSub,Int.reduceMul,reduceIte,reduceCtorEq,Nat.reducePow,Nat.reduceDiv,Nat.reduceMod,Int.reduceBEq,TEnv.dd,Stk.dd,TInstr.d,List.length_map,A,S1,F1,nl,VV,O1,P1,P2,T1,T2,TH,SM,h1,h2]
   ·have yl:(70:Int)<i.labels.length:=by omega
    simp only[go_sem,Nat.reduceAdd,Nat.reduceMul,Nat.reduceSub,Nat.reduceLT,Nat.reduceLeDiff,Nat.reduceEqDiff,Nat.reduceBEq,Nat.reduceBeqDiff,Int.reduceEq,Int.reduceLT,Int.reduceLE,Int.reduceToNat,Int.reduceNeg,Int.reduceAdd,Int.reduceSub,Int.reduceMul,reduceIte,reduceCtorEq,Nat.reducePow,Nat.reduceDiv,Nat.reduceMod,Int.reduceBEq,TEnv.dd,Stk.dd,TInstr.d,List.length_map,A,S1,F1,yl]
theorem CheckStep.pure (e:Tavocetref10_Env) (he:e.ok) (s:Tavocetref09_Stack) (hs:s.ok) (i:TInstr) (hi:i.ok) (f:Int) (hf:rng .i64 f):
 ∃fu n,evF (G fu) n 3 [.d e.d, .d s.d, .d i.d, .d (.int .i64 f)] []=some (.d (.bool true),[]):=by
 refine⟨20001+i.labels.length,17, ?_⟩
 rw[stkOf_d]
 exact checkStep_ev _ 0 e _ i f (by omega) (by omega) hi.2.2.2.2.1
end Go.Proofs.YtfpioigggjnffaaGreatDoor.E
