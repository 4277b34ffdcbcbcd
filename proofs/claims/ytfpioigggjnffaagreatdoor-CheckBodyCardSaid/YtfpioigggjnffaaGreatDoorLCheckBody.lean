/- LCheckBody. -/
import Derived.Test.YtfpioigggjnffaaGreatDoorLCheckStep
set_option linter.unnecessarySimpa false
set_option linter.unusedSimpArgs false
set_option linter.unusedVariables false
set_option autoImplicit false
set_option maxRecDepth 100000
set_option maxHeartbeats 4000000
set_option pp.maxSteps 20000
namespace Go.Proofs.YtfpioigggjnffaaGreatDoor.E
open Go.Ev
theorem checkBody_ev (fu n:Nat) (e:Tavocetref10_Env) (l:List TInstr) (hf:20000<fu) (hfl:l.length<fu) (hl9:l.length≤maxLen):
 evF (G fu) (n+17) 4 [.d e.d, .d (.list (l.map TInstr.d))] []=some (.d (.bool true),[]):=by
 have A:=awake10_ev fu (n+1) (by omega)
 have F1:=few_ev fu (n+15) l 120 hfl hl9
 have S1:=small_ev fu (n+15) e (by omega)
 rw[envOf_d] at S1 ⊢
 simp only[TEnv.dd] at S1
 rw[evF.eq_2,evX.eq_def,Gext,exts_no _ (f:=4) (by decide),GP,Tryz.func4];simp only[Tryz.f4,evB]
 cases hs:smallE e with
 |false=>
  rw[hs] at S1
  simp only[go_sem,Nat.reduceAdd,Nat.reduceMul,Nat.reduceSub,Nat.reduceLT,Nat.reduceLeDiff,Nat.reduceEqDiff,Nat.reduceBEq,Nat.reduceBeqDiff,Int.reduceEq,Int.reduceLT,Int.reduceLE,Int.reduceToNat,Int.reduceNeg,Int.reduceAdd,Int.reduceSub,Int.reduceMul,reduceIte,reduceCtorEq,Nat.reducePow,Nat.reduceDiv,Nat.reduceMod,Int.reduceBEq,TEnv.dd,A,S1]
 |true=>
  rw[hs] at S1
  cases hw:few l 120 with
  |false=>
   rw[hw] at F1
   simp only[go_sem,Nat.reduceAdd,Nat.reduceMul,Nat.reduceSub,Nat.reduceLT,Nat.reduceLeDiff,Nat.reduceEqDiff,Nat.reduceBEq,Nat.reduceBeqDiff,Int.reduceEq,Int.reduceLT,Int.reduceLE,Int.reduceToNat,Int.reduceNeg,Int.reduceAdd,Int.reduceSub,Int.reduceMul,reduceIte,reduceCtorEq,Nat.reducePow,Nat.reduceDiv,Nat.reduceMod,Int.reduceBEq,TEnv.dd,A,S1,F1]
  |true=>
   rw[hw] at F1
   obtain⟨hlen,hlab⟩:=few_of hw
   have hbl: ∀i∈l,i.labels.length<fu∧i.labels.length<1000000:=fun i hi=>by have:=hlab i hi;omega
   have hE:=eok_of hs (fu:=fu) (by omega)
   have hg:e.globals.length≤70:=by
    unfold smallE at hs
    simp only[Bool.and_eq_true,decide_eq_true_eq] at hs
    omega
   have VV:=env_ev fu (n+15) e (by omega) (by omega)
   rw[envOf_d] at VV
   generalize envOf e=ee at*
   have P1:=path_ev fu (n+3) ee hE l (by omega) (by omega) hbl
   have B1:=body_ev fu (n+2) ee hE l (by omega) (by omega) hbl
   have P2:=rpath_ev fu (n+7) ee hE l (by omega) (by omega) hbl
   have B2:=rbody_ev fu (n+6) ee hE l (by omega) (by omega) hbl
   simp only[TEnv.dd] at VV P1 P2 B1 B2
   have hz: ∃p x,pathR (pathF ee l)=some (.tup [.row 0 0 0 p.length, .d (.int .i64 x)],[.row 2 (stkds p) 0 false false])∧p.length≤121∧∀s∈p,Rm (1+65*l.length) s:=by
    cases hp:pathF ee l with
    |error f=>exact⟨[],f,rfl,by simp,by simp⟩
    |ok p=>
     have hps:=(pathF_ok hp).2.2
     have hpl:=pathS_len hps
     exact⟨p,0,rfl,by omega,path_rm hE.sm (start_rm ee) hps⟩
   obtain⟨p,x,hp,hpl,hR⟩:=hz
   rw[hp] at P1 P2
   have t1:(stkds p).take p.length=stkds p:=List.take_of_length_le (by simp)
   simp only[go_sem,Nat.reduceAdd,Nat.reduceMul,Nat.reduceSub,Nat.reduceLT,Nat.reduceLeDiff,Nat.reduceEqDiff,Nat.reduceBEq,Nat.reduceBeqDiff,Int.reduceEq,Int.reduceLT,Int.reduceLE,Int.reduceToNat,Int.reduceNeg,Int.reduceAdd,Int.reduceSub,Int.reduceMul,reduceIte,reduceCtorEq,Nat.reducePow,Nat.reduceDiv,Nat.reduceMod,Int.reduceBEq,TEnv.dd,A,S1,F1,VV,P1,P2,B1,B2,t1]
   rw[loop_some p.length (fun k=>⟨[(5,V.d (D.bool true)),(6,V.row 1664 0 0 p.length),(8,V.row 2048 0 0 p.length),(10,V.d (D.int .i64 k))],[(1664, .row 2 (stkds p) 0 false false),(2048, .row 2 (stkds p) 0 false false)]⟩) (.exit 0,⟨[(5,V.d (D.bool true))],[]⟩) trivial (by omega) ?_]
   case hs=>
    intro k hk
    have hx:(stkds p)[k]? =some (p.getD k stk0).dd:=getD_map hk
    have hkI:(k:Int)<p.length:=by omega
    have W:=wrap_i64 (show-9223372036854775808≤(k:Int)+1 by omega) (by omega)
    have hm:p.getD k stk0∈p:=by
     rw[List.getD_eq_getElem?_getD,List.getElem?_eq_getElem hk];exact List.getElem_mem hk
    have hR:=hR _ hm
    generalize p.getD k stk0=s at*
    have TH:=theirs10_ev fu (n+15) s (by have:=hR.2;omega) (by have:=hR.2;omega)
    have SM:=r9same_ev fu (n+14) s (hR.ok (by omega) (by omega))
    simp only[Stk.dd] at hx TH SM
    simp only[go_sem,Nat.reduceAdd,Nat.reduceMul,Nat.reduceSub,Nat.reduceLT,Nat.reduceLeDiff,Nat.reduceEqDiff,Nat.reduceBEq,Nat.reduceBeqDiff,Int.reduceEq,Int.reduceLT,Int.reduceLE,Int.reduceToNat,Int.reduceNeg,Int.reduceAdd,Int.reduceSub,Int.reduceMul,reduceIte,reduceCtorEq,Nat.reducePow,Nat.reduceDiv,Nat.reduceMod,Int.reduceBEq,hkI,idx,hx,TH,SM,W]
    rfl
   case he=>simp only[go_sem,Nat.reduceAdd,Nat.reduceMul,Nat.reduceSub,Nat.reduceLT,Nat.reduceLeDiff,Nat.reduceEqDiff,Nat.reduceBEq,Nat.reduceBeqDiff,Int.reduceEq,Int.reduceLT,Int.reduceLE,Int.reduceToNat,Int.reduceNeg,Int.reduceAdd,Int.reduceSub,Int.reduceMul,reduceIte,reduceCtorEq,Nat.reducePow,Nat.reduceDiv,Nat.reduceMod,Int.reduceBEq,Int.lt_irrefl]
   ·simp only[go_sem,Nat.reduceAdd,Nat.reduceMul,Nat.reduceSub,Nat.reduceLT,Nat.reduceLeDiff,Nat.reduceEqDiff,Nat.reduceBEq,Nat.reduceBeqDiff,Int.reduceEq,Int.reduceLT,Int.reduceLE,Int.reduceToNat,Int.reduceNeg,Int.reduceAdd,Int.reduceSub,Int.reduceMul,reduceIte,reduceCtorEq,Nat.reducePow,Nat.reduceDiv,Nat.reduceMod,Int.reduceBEq]
   ·rfl
theorem CheckBody.pure (e:Tavocetref10_Env) (he:e.ok) (l:List TInstr) (hl:l.length≤maxLen∧∀z∈l,z.ok):
 ∃fu n,evF (G fu) n 4 [.d e.d, .d (.list (l.map TInstr.d))] []=some (.d (.bool true),[]):=
 ⟨20001+l.length,17,checkBody_ev _ 0 e l (by omega) (by omega) hl.1⟩
end Go.Proofs.YtfpioigggjnffaaGreatDoor.E
