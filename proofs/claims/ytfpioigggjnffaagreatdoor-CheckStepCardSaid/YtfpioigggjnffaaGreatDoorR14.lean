/- R14, Q18. -/
import Derived.Test.YtfpioigggjnffaaGreatDoorR13
import Derived.Test.YtfpioigggjnffaaGreatDoorQ8
import Derived.Test.YtfpioigggjnffaaGreatDoorT06
set_option linter.unnecessarySimpa false
set_option linter.unusedSimpArgs false
set_option linter.unusedVariables false
set_option autoImplicit false
set_option maxRecDepth 100000
set_option maxHeartbeats 4000000
set_option pp.maxSteps 20000
namespace Go.Proofs.YtfpioigggjnffaaGreatDoor.E
open Go.Ev
def cpV:Nat→V
 |0=> .nilsl
 |k+1=> .row 2176 0 0 (k+1)
def cpH (gs:List D):Nat→Map Go.Ev.Obj
 |0=>[]
 |k+1=>[(2176, .row 4 (gs.take (k+1)) 0 false (decide (0<k)))]
theorem ours10_ev (fu n:Nat) (s:Stk) (h:s.ctrls.length<fu) (h2:s.ctrls.length<1000000):evF (G fu) (n+1) 16 [.d s.dd] []=some (.d s.dd,[]):=by
 rw[evF.eq_2,evX.eq_def,Gext,exts_no _ (f:=16) (by decide),GP,Tryz.func16];simp only[Tryz.f16,evB]
 simp only[go_sem,Nat.reduceAdd,Nat.reduceMul,Nat.reduceSub,Nat.reduceLT,Nat.reduceLeDiff,Nat.reduceEqDiff,Nat.reduceBEq,Nat.reduceBeqDiff,Int.reduceEq,Int.reduceLT,Int.reduceLE,Int.reduceToNat,Int.reduceNeg,Int.reduceAdd,Int.reduceSub,Int.reduceMul,reduceIte,reduceCtorEq,Nat.reducePow,Nat.reduceDiv,Nat.reduceMod,Int.reduceBEq,Stk.dd]
 generalize byt s.vals=B
 have hgs: ∀k,k<s.ctrls.length→(ctlds s.ctrls)[k]? =some (s.ctrls.getD k ctl0).dd:=fun k hk=>getD_map hk
 have hgl:(ctlds s.ctrls).length=s.ctrls.length:=List.length_map ..
 generalize hgd:ctlds s.ctrls=gs at*
 generalize hN:s.ctrls.length=N at*
 rw[loop_some N (fun k=>⟨[(1,V.ptr 128 0),(2,V.ptr 192 0),(3,V.ptr 256 0),(4,V.d (D.int .i64 k))],[(128, .cells [V.d (D.list B),V.d (D.list gs)]),(192, .cells [V.nilsl,V.nilsl]),(256, .cells [V.d (D.list B),cpV k])]++cpH gs k⟩)
  (.exit 0,⟨[(2,V.ptr 192 0),(3,V.ptr 256 0)],[(192, .cells [V.nilsl,V.nilsl]),(256, .cells [V.d (D.list B),cpV N])]++cpH gs N⟩) trivial h ?_]
 case hs=>
  intro k hk
  have hx:=hgs k hk
  have hkI:(k:Int)<N:=by omega
  have W:=wrap_i64 (show-9223372036854775808≤(k:Int)+1 by omega) (by omega)
  have z1:sizedAll 4 [(s.ctrls.getD k ctl0).dd]=true:=rfl
  have hst:gs.take (k+1)=gs.take k++[(s.ctrls.getD k ctl0).dd]:=by
   rw[List.take_add_one,hx];rfl
  simp only[Ctl.dd] at hx z1 hst
  generalize s.ctrls.getD k ctl0=c at*
  cases k with
  |zero=>
   have hk0:(0:Int)<N:=by omega
   have V1:=wrap_i64 (show-9223372036854775808≤(1:Int) by omega) (by omega)
   simp only[go_sem,Nat.reduceAdd,Nat.reduceMul,Nat.reduceSub,Nat.reduceLT,Nat.reduceLeDiff,Nat.reduceEqDiff,Nat.reduceBEq,Nat.reduceBeqDiff,Int.reduceEq,Int.reduceLT,Int.reduceLE,Int.reduceToNat,Int.reduceNeg,Int.reduceAdd,Int.reduceSub,Int.reduceMul,reduceIte,reduceCtorEq,Nat.reducePow,Nat.reduceDiv,Nat.reduceMod,Int.reduceBEq,cpV,cpH,hk0,idx,hx,z1,hgl,V1,hst]
  |succ k=>
   have hr:k+1+1≤1099511627776:=by omega
   have ht:(gs.take (k+1)).take (k+1)=gs.take (k+1):=by rw[List.take_take];simp
   simp only[go_sem,Nat.reduceAdd,Nat.reduceMul,Nat.reduceSub,Nat.reduceLT,Nat.reduceLeDiff,Nat.reduceEqDiff,Nat.reduceBEq,Nat.reduceBeqDiff,Int.reduceEq,Int.reduceLT,Int.reduceLE,Int.reduceToNat,Int.reduceNeg,Int.reduceAdd,Int.reduceSub,Int.reduceMul,reduceIte,reduceCtorEq,Nat.reducePow,Nat.reduceDiv,Nat.reduceMod,Int.reduceBEq,cpV,cpH,hkI,idx,hx,z1,hgl,hr,ht,W]
   have hd:decide (0<k+1)=true:=by simp
   rw[hst,hd];rfl
 case he=>
  cases N with
  |zero=>simp only[go_sem,Nat.reduceAdd,Nat.reduceMul,Nat.reduceSub,Nat.reduceLT,Nat.reduceLeDiff,Nat.reduceEqDiff,Nat.reduceBEq,Nat.reduceBeqDiff,Int.reduceEq,Int.reduceLT,Int.reduceLE,Int.reduceToNat,Int.reduceNeg,Int.reduceAdd,Int.reduceSub,Int.reduceMul,reduceIte,reduceCtorEq,Nat.reducePow,Nat.reduceDiv,Nat.reduceMod,Int.reduceBEq,cpV,cpH,hgl,Int.lt_irrefl]
  |succ k=>simp only[go_sem,Nat.reduceAdd,Nat.reduceMul,Nat.reduceSub,Nat.reduceLT,Nat.reduceLeDiff,Nat.reduceEqDiff,Nat.reduceBEq,Nat.reduceBeqDiff,Int.reduceEq,Int.reduceLT,Int.reduceLE,Int.reduceToNat,Int.reduceNeg,Int.reduceAdd,Int.reduceSub,Int.reduceMul,reduceIte,reduceCtorEq,Nat.reducePow,Nat.reduceDiv,Nat.reduceMod,Int.reduceBEq,cpV,cpH,hgl,Int.lt_irrefl]
 ·cases N with
  |zero=>
   have:gs=[]:=List.length_eq_zero_iff.1 hgl
   simp only[go_sem,Nat.reduceAdd,Nat.reduceMul,Nat.reduceSub,Nat.reduceLT,Nat.reduceLeDiff,Nat.reduceEqDiff,Nat.reduceBEq,Nat.reduceBeqDiff,Int.reduceEq,Int.reduceLT,Int.reduceLE,Int.reduceToNat,Int.reduceNeg,Int.reduceAdd,Int.reduceSub,Int.reduceMul,reduceIte,reduceCtorEq,Nat.reducePow,Nat.reduceDiv,Nat.reduceMod,Int.reduceBEq,cpV,cpH,this]
  |succ k=>
   have ht:gs.take (k+1)=gs:=List.take_of_length_le (by omega)
   simp only[go_sem,Nat.reduceAdd,Nat.reduceMul,Nat.reduceSub,Nat.reduceLT,Nat.reduceLeDiff,Nat.reduceEqDiff,Nat.reduceBEq,Nat.reduceBeqDiff,Int.reduceEq,Int.reduceLT,Int.reduceLE,Int.reduceToNat,Int.reduceNeg,Int.reduceAdd,Int.reduceSub,Int.reduceMul,reduceIte,reduceCtorEq,Nat.reducePow,Nat.reduceDiv,Nat.reduceMod,Int.reduceBEq,cpV,cpH,ht]
 ·rfl
theorem theirs10_ev (fu n:Nat) (s:Stk) (h:s.ctrls.length<fu) (h2:s.ctrls.length<1000000):evF (G fu) (n+1) 21 [.d s.dd] []=some (.d s.dd,[]):=by
 rw[evF.eq_2,evX.eq_def,Gext,exts_no _ (f:=21) (by decide),GP,Tryz.func21];simp only[Tryz.f21,evB]
 simp only[go_sem,Nat.reduceAdd,Nat.reduceMul,Nat.reduceSub,Nat.reduceLT,Nat.reduceLeDiff,Nat.reduceEqDiff,Nat.reduceBEq,Nat.reduceBeqDiff,Int.reduceEq,Int.reduceLT,Int.reduceLE,Int.reduceToNat,Int.reduceNeg,Int.reduceAdd,Int.reduceSub,Int.reduceMul,reduceIte,reduceCtorEq,Nat.reducePow,Nat.reduceDiv,Nat.reduceMod,Int.reduceBEq,Stk.dd]
 generalize byt s.vals=B
 have hgs: ∀k,k<s.ctrls.length→(ctlds s.ctrls)[k]? =some (s.ctrls.getD k ctl0).dd:=fun k hk=>getD_map hk
 have hgl:(ctlds s.ctrls).length=s.ctrls.length:=List.length_map ..
 generalize hgd:ctlds s.ctrls=gs at*
 generalize hN:s.ctrls.length=N at*
 rw[loop_some N (fun k=>⟨[(1,V.ptr 128 0),(2,V.ptr 192 0),(3,V.ptr 256 0),(4,V.d (D.int .i64 k))],[(128, .cells [V.d (D.list B),V.d (D.list gs)]),(192, .cells [V.nilsl,V.nilsl]),(256, .cells [V.d (D.list B),cpV k])]++cpH gs k⟩)
  (.exit 0,⟨[(2,V.ptr 192 0),(3,V.ptr 256 0)],[(192, .cells [V.nilsl,V.nilsl]),(256, .cells [V.d (D.list B),cpV N])]++cpH gs N⟩) trivial h ?_]
 case hs=>
  intro k hk
  have hx:=hgs k hk
  have hkI:(k:Int)<N:=by omega
  have W:=wrap_i64 (show-9223372036854775808≤(k:Int)+1 by omega) (by omega)
  have z1:sizedAll 4 [(s.ctrls.getD k ctl0).dd]=true:=rfl
  have hst:gs.take (k+1)=gs.take k++[(s.ctrls.getD k ctl0).dd]:=by
   rw[List.take_add_one,hx];rfl
  simp only[Ctl.dd] at hx z1 hst
  generalize s.ctrls.getD k ctl0=c at*
  cases k with
  |zero=>
   have hk0:(0:Int)<N:=by omega
   have V1:=wrap_i64 (show-9223372036854775808≤(1:Int) by omega) (by omega)
   simp only[go_sem,Nat.reduceAdd,Nat.reduceMul,Nat.reduceSub,Nat.reduceLT,Nat.reduceLeDiff,Nat.reduceEqDiff,Nat.reduceBEq,Nat.reduceBeqDiff,Int.reduceEq,Int.reduceLT,Int.reduceLE,Int.reduceToNat,Int.reduceNeg,Int.reduceAdd,Int.reduceSub,Int.reduceMul,reduceIte,reduceCtorEq,Nat.reducePow,Nat.reduceDiv,Nat.reduceMod,Int.reduceBEq,cpV,cpH,hk0,idx,hx,z1,hgl,V1,hst]
  |succ k=>
   have hr:k+1+1≤1099511627776:=by omega
   have ht:(gs.take (k+1)).take (k+1)=gs.take (k+1):=by rw[List.take_take];simp
   simp only[go_sem,Nat.reduceAdd,Nat.reduceMul,Nat.reduceSub,Nat.reduceLT,Nat.reduceLeDiff,Nat.reduceEqDiff,Nat.reduceBEq,Nat.reduceBeqDiff,Int.reduceEq,Int.reduceLT,Int.reduceLE,Int.reduceToNat,Int.reduceNeg,Int.reduceAdd,Int.reduceSub,Int.reduceMul,reduceIte,reduceCtorEq,Nat.reducePow,Nat.reduceDiv,Nat.reduceMod,Int.reduceBEq,cpV,cpH,hkI,idx,hx,z1,hgl,hr,ht,W]
   have hd:decide (0<k+1)=true:=by simp
   rw[hst,hd];rfl
 case he=>
  cases N with
  |zero=>simp only[go_sem,Nat.reduceAdd,Nat.reduceMul,Nat.reduceSub,Nat.reduceLT,Nat.reduceLeDiff,Nat.reduceEqDiff,Nat.reduceBEq,Nat.reduceBeqDiff,Int.reduceEq,Int.reduceLT,Int.reduceLE,Int.reduceToNat,Int.reduceNeg,Int.reduceAdd,Int.reduceSub,Int.reduceMul,reduceIte,reduceCtorEq,Nat.reducePow,Nat.reduceDiv,Nat.reduceMod,Int.reduceBEq,cpV,cpH,hgl,Int.lt_irrefl]
  |succ k=>simp only[go_sem,Nat.reduceAdd,Nat.reduceMul,Nat.reduceSub,Nat.reduceLT,Nat.reduceLeDiff,Nat.reduceEqDiff,Nat.reduceBEq,Nat.reduceBeqDiff,Int.reduceEq,Int.reduceLT,Int.reduceLE,Int.reduceToNat,Int.reduceNeg,Int.reduceAdd,Int.reduceSub,Int.reduceMul,reduceIte,reduceCtorEq,Nat.reducePow,Nat.reduceDiv,Nat.reduceMod,Int.reduceBEq,cpV,cpH,hgl,Int.lt_irrefl]
 ·cases N with
  |zero=>
   have:gs=[]:=List.length_eq_zero_iff.1 hgl
   simp only[go_sem,Nat.reduceAdd,Nat.reduceMul,Nat.reduceSub,Nat.reduceLT,Nat.reduceLeDiff,Nat.reduceEqDiff,Nat.reduceBEq,Nat.reduceBeqDiff,Int.reduceEq,Int.reduceLT,Int.reduceLE,Int.reduceToNat,Int.reduceNeg,Int.reduceAdd,Int.reduceSub,Int.reduceMul,reduceIte,reduceCtorEq,Nat.reducePow,Nat.reduceDiv,Nat.reduceMod,Int.reduceBEq,cpV,cpH,this]
  |succ k=>
   have ht:gs.take (k+1)=gs:=List.take_of_length_le (by omega)
   simp only[go_sem,Nat.reduceAdd,Nat.reduceMul,Nat.reduceSub,Nat.reduceLT,Nat.reduceLeDiff,Nat.reduceEqDiff,Nat.reduceBEq,Nat.reduceBeqDiff,Int.reduceEq,Int.reduceLT,Int.reduceLE,Int.reduceToNat,Int.reduceNeg,Int.reduceAdd,Int.reduceSub,Int.reduceMul,reduceIte,reduceCtorEq,Nat.reducePow,Nat.reduceDiv,Nat.reduceMod,Int.reduceBEq,cpV,cpH,ht]
 ·rfl
def fewS (s:Stk):Bool:=decide ((s.vals.length:Int)≤200)&&decide ((s.ctrls.length:Int)≤60)&&s.ctrls.all (fun c=>decide ((c.fin.length:Int)≤20))
theorem few10_ev (fu n:Nat) (s:Stk) (h:100<fu):evF (G fu) (n+1) 13 [.d s.dd] []=some (.d (.bool (fewS s)),[]):=by
 unfold fewS
 rw[evF.eq_2,evX.eq_def,Gext,exts_no _ (f:=13) (by decide),GP,Tryz.func13];simp only[Tryz.f13,evB]
 by_cases c1:(s.vals.length:Int)≤200
 ·by_cases c2:(s.ctrls.length:Int)≤60
  ·simp only[go_sem,Nat.reduceAdd,Nat.reduceMul,Nat.reduceSub,Nat.reduceLT,Nat.reduceLeDiff,Nat.reduceEqDiff,Nat.reduceBEq,Nat.reduceBeqDiff,Int.reduceEq,Int.reduceLT,Int.reduceLE,Int.reduceToNat,Int.reduceNeg,Int.reduceAdd,Int.reduceSub,Int.reduceMul,reduceIte,reduceCtorEq,Nat.reducePow,Nat.reduceDiv,Nat.reduceMod,Int.reduceBEq,Stk.dd,byt_len,ctlds_len,c1,c2,show ¬(200:Int)<s.vals.length by omega,show ¬(60:Int)<s.ctrls.length by omega]
   rw[loop_scan s.ctrls.length (fun k=>⟨[(1,V.ptr 128 0),(3,V.d (D.int .i64 k))],[(128, .cells [V.d (D.list (byt s.vals)),V.d (D.list (ctlds s.ctrls))])]⟩) (fun k=> !(decide (((s.ctrls.getD k ctl0).fin.length:Int)≤20))) (fun _=>(.ret,⟨[(2,V.d (D.bool false))],[]⟩)) (.exit 0,⟨[],[]⟩) (by omega) (fun _=>trivial) trivial ?_]
   case hs=>
    intro k hk
    have hx:(ctlds s.ctrls)[k]? =some (s.ctrls.getD k ctl0).dd:=getD_map hk
    have hkI:(k:Int)<s.ctrls.length:=by omega
    have W:=wrap_i64 (show-9223372036854775808≤(k:Int)+1 by omega) (by omega)
    generalize s.ctrls.getD k ctl0=c at*
    simp only[Ctl.dd] at hx
    by_cases d1:(c.fin.length:Int)≤20
    ·simp only[go_sem,Nat.reduceAdd,Nat.reduceMul,Nat.reduceSub,Nat.reduceLT,Nat.reduceLeDiff,Nat.reduceEqDiff,Nat.reduceBEq,Nat.reduceBeqDiff,Int.reduceEq,Int.reduceLT,Int.reduceLE,Int.reduceToNat,Int.reduceNeg,Int.reduceAdd,Int.reduceSub,Int.reduceMul,reduceIte,reduceCtorEq,Nat.reducePow,Nat.reduceDiv,Nat.reduceMod,Int.reduceBEq,ctlds_len,hkI,idx,hx,byt_len,d1,W,show ¬(20:Int)<c.fin.length by omega]
     rfl
    ·simp only[go_sem,Nat.reduceAdd,Nat.reduceMul,Nat.reduceSub,Nat.reduceLT,Nat.reduceLeDiff,Nat.reduceEqDiff,Nat.reduceBEq,Nat.reduceBeqDiff,Int.reduceEq,Int.reduceLT,Int.reduceLE,Int.reduceToNat,Int.reduceNeg,Int.reduceAdd,Int.reduceSub,Int.reduceMul,reduceIte,reduceCtorEq,Nat.reducePow,Nat.reduceDiv,Nat.reduceMod,Int.reduceBEq,ctlds_len,hkI,idx,hx,byt_len,d1,W,show(20:Int)<c.fin.length by omega]
   case he=>simp only[go_sem,Nat.reduceAdd,Nat.reduceMul,Nat.reduceSub,Nat.reduceLT,Nat.reduceLeDiff,Nat.reduceEqDiff,Nat.reduceBEq,Nat.reduceBeqDiff,Int.reduceEq,Int.reduceLT,Int.reduceLE,Int.reduceToNat,Int.reduceNeg,Int.reduceAdd,Int.reduceSub,Int.reduceMul,reduceIte,reduceCtorEq,Nat.reducePow,Nat.reduceDiv,Nat.reduceMod,Int.reduceBEq,ctlds_len,Int.lt_irrefl]
   ·have hA:=any_false (p:=fun c:Ctl=>decide ((c.fin.length:Int)≤20)) (d:=ctl0) s.ctrls
    unfold Go.Ev.scan
    cases hf:first (fun k=> !(decide (((s.ctrls.getD k ctl0).fin.length:Int)≤20))) 0 s.ctrls.length with
    |some k=>rw[hf] at hA;simp only[go_sem,Nat.reduceAdd,Nat.reduceMul,Nat.reduceSub,Nat.reduceLT,Nat.reduceLeDiff,Nat.reduceEqDiff,Nat.reduceBEq,Nat.reduceBeqDiff,Int.reduceEq,Int.reduceLT,Int.reduceLE,Int.reduceToNat,Int.reduceNeg,Int.reduceAdd,Int.reduceSub,Int.reduceMul,reduceIte,reduceCtorEq,Nat.reducePow,Nat.reduceDiv,Nat.reduceMod,Int.reduceBEq,←hA]
    |none=>rw[hf] at hA;simp only[go_sem,Nat.reduceAdd,Nat.reduceMul,Nat.reduceSub,Nat.reduceLT,Nat.reduceLeDiff,Nat.reduceEqDiff,Nat.reduceBEq,Nat.reduceBeqDiff,Int.reduceEq,Int.reduceLT,Int.reduceLE,Int.reduceToNat,Int.reduceNeg,Int.reduceAdd,Int.reduceSub,Int.reduceMul,reduceIte,reduceCtorEq,Nat.reducePow,Nat.reduceDiv,Nat.reduceMod,Int.reduceBEq,←hA]
   ·rfl
  ·simp only[go_sem,Nat.reduceAdd,Nat.reduceMul,Nat.reduceSub,Nat.reduceLT,Nat.reduceLeDiff,Nat.reduceEqDiff,Nat.reduceBEq,Nat.reduceBeqDiff,Int.reduceEq,Int.reduceLT,Int.reduceLE,Int.reduceToNat,Int.reduceNeg,Int.reduceAdd,Int.reduceSub,Int.reduceMul,reduceIte,reduceCtorEq,Nat.reducePow,Nat.reduceDiv,Nat.reduceMod,Int.reduceBEq,Stk.dd,byt_len,ctlds_len,c1,c2,show ¬(200:Int)<s.vals.length by omega,show(60:Int)<s.ctrls.length by omega]
 ·simp only[go_sem,Nat.reduceAdd,Nat.reduceMul,Nat.reduceSub,Nat.reduceLT,Nat.reduceLeDiff,Nat.reduceEqDiff,Nat.reduceBEq,Nat.reduceBeqDiff,Int.reduceEq,Int.reduceLT,Int.reduceLE,Int.reduceToNat,Int.reduceNeg,Int.reduceAdd,Int.reduceSub,Int.reduceMul,reduceIte,reduceCtorEq,Nat.reducePow,Nat.reduceDiv,Nat.reduceMod,Int.reduceBEq,Stk.dd,byt_len,ctlds_len,c1,show(200:Int)<s.vals.length by omega]
end Go.Proofs.YtfpioigggjnffaaGreatDoor.E
set_option autoImplicit false
set_option maxRecDepth 100000
namespace Go.Proofs.YtfpioigggjnffaaGreatDoor.E
open Go.Ev
theorem eok_of {fu:Nat} {e:Tavocetref10_Env} (h:smallE e=true) (hf:1000<fu):EOk fu (envOf e):=by
 unfold smallE at h
 simp only[Bool.and_eq_true,decide_eq_true_eq] at h
 obtain⟨⟨⟨⟨⟨h1,h2⟩,h3⟩,h4⟩,h5⟩,h6⟩:=h
 refine⟨by simp[envOf];omega,fun t ht=> ?_,by simp[envOf];omega,by simp[envOf];omega,by simp[envOf];omega,by simp[envOf];omega,by omega⟩
 simp only[envOf,List.mem_map] at ht
 obtain⟨t0,ht0,rfl⟩:=ht
 have:=List.all_eq_true.1 h6 t0 ht0
 unfold tySm at this
 simp only[Bool.and_eq_true,decide_eq_true_eq] at this
 simp only[tyOf];omega
theorem few_of {l:List TInstr} {m:Int} (h:few l m=true):(l.length:Int)≤m∧∀i∈l,(i.labels.length:Int)≤70:=by
 unfold few at h
 simp only[Bool.and_eq_true,decide_eq_true_eq,Bool.not_eq_true',List.any_eq_false] at h
 exact⟨h.1,fun i hi=>by have:=h.2 i hi;simp at this;omega⟩
end Go.Proofs.YtfpioigggjnffaaGreatDoor.E
