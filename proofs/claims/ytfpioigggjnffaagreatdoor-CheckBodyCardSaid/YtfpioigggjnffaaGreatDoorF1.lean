/- F1. -/
import Derived.Test.YtfpioigggjnffaaGreatDoorEvD
set_option linter.unnecessarySimpa false
set_option linter.unusedSimpArgs false
set_option linter.unusedVariables false
set_option autoImplicit false
set_option maxRecDepth 100000
set_option maxHeartbeats 4000000
set_option pp.maxSteps 20000
namespace Go.Proofs.YtfpioigggjnffaaGreatDoor.E
open Go.Ev
def in0:TInstr:=⟨0,0,0,0,[]⟩
def few (l:List TInstr) (m:Int):Bool:=decide ((l.length:Int)≤m)&& !l.any (fun i=>decide (70<(i.labels.length:Int)))
theorem few_ev (fu n:Nat) (l:List TInstr) (m:Int) (h:l.length<fu) (hl:l.length≤maxLen):
 evF (G fu) (n+1) 22 [.d (.list (l.map TInstr.d)), .d (.int .i64 m)] []=some (.d (.bool (few l m)),[]):=by
 have hl:l.length≤9223372036854775807:=hl
 rw[evF.eq_2,evX.eq_def,Gext,exts_no _ (f:=22) (by decide),GP,Tryz.func22];simp only[Tryz.f22,evB]
 simp only[go_sem,Nat.reduceAdd,Nat.reduceMul,Nat.reduceSub,Nat.reduceLT,Nat.reduceLeDiff,Nat.reduceEqDiff,Nat.reduceBEq,Nat.reduceBeqDiff,Int.reduceEq,Int.reduceLT,Int.reduceLE,Int.reduceToNat,Int.reduceNeg,Int.reduceAdd,Int.reduceSub,Int.reduceMul,reduceIte,reduceCtorEq,Nat.reducePow,Nat.reduceDiv,Nat.reduceMod,Int.reduceBEq]
 by_cases h1:m<l.length
 ·simp only[go_sem,Nat.reduceAdd,Nat.reduceMul,Nat.reduceSub,Nat.reduceLT,Nat.reduceLeDiff,Nat.reduceEqDiff,Nat.reduceBEq,Nat.reduceBeqDiff,Int.reduceEq,Int.reduceLT,Int.reduceLE,Int.reduceToNat,Int.reduceNeg,Int.reduceAdd,Int.reduceSub,Int.reduceMul,reduceIte,reduceCtorEq,Nat.reducePow,Nat.reduceDiv,Nat.reduceMod,Int.reduceBEq,h1,List.length_map,few,Int.not_le.2 h1]
 ·simp only[go_sem,Nat.reduceAdd,Nat.reduceMul,Nat.reduceSub,Nat.reduceLT,Nat.reduceLeDiff,Nat.reduceEqDiff,Nat.reduceBEq,Nat.reduceBeqDiff,Int.reduceEq,Int.reduceLT,Int.reduceLE,Int.reduceToNat,Int.reduceNeg,Int.reduceAdd,Int.reduceSub,Int.reduceMul,reduceIte,reduceCtorEq,Nat.reducePow,Nat.reduceDiv,Nat.reduceMod,Int.reduceBEq,h1,List.length_map]
  rw[loop_scan l.length (fun i=>⟨[(0,V.d (D.list (List.map TInstr.d l))),(5,V.d (D.int IntKind.i64 i))],[]⟩) (fun i=>decide (70<((l.getD i in0).labels.length:Int))) (fun i=>(.ret,⟨[(4,V.d (D.bool false))],[]⟩)) (.exit 0,⟨[],[]⟩) h (fun _=>trivial) trivial ?_,
   scan_list (p:=fun i:TInstr=>decide (70<(i.labels.length:Int))) (d:=in0)]
  case hs=>
   intro i hi
   simp only[go_sem,Nat.reduceAdd,Nat.reduceMul,Nat.reduceSub,Nat.reduceLT,Nat.reduceLeDiff,Nat.reduceEqDiff,Nat.reduceBEq,Nat.reduceBeqDiff,Int.reduceEq,Int.reduceLT,Int.reduceLE,Int.reduceToNat,Int.reduceNeg,Int.reduceAdd,Int.reduceSub,Int.reduceMul,reduceIte,reduceCtorEq,Nat.reducePow,Nat.reduceDiv,Nat.reduceMod,Int.reduceBEq,List.length_map,Int.ofNat_lt,hi,idx,getD_map (d:=in0) hi,Int.natCast_nonneg,Int.toNat_natCast,TInstr.d]
   cases hb:decide (70<((l.getD i in0).labels.length:Int))<;>simp only[go_sem,Nat.reduceAdd,Nat.reduceMul,Nat.reduceSub,Nat.reduceLT,Nat.reduceLeDiff,Nat.reduceEqDiff,Nat.reduceBEq,Nat.reduceBeqDiff,Int.reduceEq,Int.reduceLT,Int.reduceLE,Int.reduceToNat,Int.reduceNeg,Int.reduceAdd,Int.reduceSub,Int.reduceMul,reduceIte,reduceCtorEq,Nat.reducePow,Nat.reduceDiv,Nat.reduceMod,Int.reduceBEq,wrap_i64 (show-9223372036854775808≤(i:Int)+1 by omega) (by omega)]
   rfl
  case he=>simp only[go_sem,Nat.reduceAdd,Nat.reduceMul,Nat.reduceSub,Nat.reduceLT,Nat.reduceLeDiff,Nat.reduceEqDiff,Nat.reduceBEq,Nat.reduceBeqDiff,Int.reduceEq,Int.reduceLT,Int.reduceLE,Int.reduceToNat,Int.reduceNeg,Int.reduceAdd,Int.reduceSub,Int.reduceMul,reduceIte,reduceCtorEq,Nat.reducePow,Nat.reduceDiv,Nat.reduceMod,Int.reduceBEq,List.length_map,Int.ofNat_lt,Nat.lt_irrefl]
  ·cases hf:l.any (fun i=>decide (70<(i.labels.length:Int)))<;>simp only[go_sem,Nat.reduceAdd,Nat.reduceMul,Nat.reduceSub,Nat.reduceLT,Nat.reduceLeDiff,Nat.reduceEqDiff,Nat.reduceBEq,Nat.reduceBeqDiff,Int.reduceEq,Int.reduceLT,Int.reduceLE,Int.reduceToNat,Int.reduceNeg,Int.reduceAdd,Int.reduceSub,Int.reduceMul,reduceIte,reduceCtorEq,Nat.reducePow,Nat.reduceDiv,Nat.reduceMod,Int.reduceBEq,few,hf,Int.not_lt.1 h1]
  ·rfl
def spanL:List (Int×Int×Int):=[(0,1,1),(2,4,2),(5,5,1),(11,11,1),(12,13,3),(14,14,4),(15,15,1),(16,16,3),(17,17,5),(26,27,1),(32,36,3),(40,41,6),(44,55,6),(58,62,6),(63,64,7),(65,65,8),(66,66,9),(69,90,1),(103,138,1),(167,167,1),(172,173,1)]
def inSpan (op:Int) (s:Int×Int×Int):Bool:=decide (s.1≤op)&&decide (op≤s.2.1)
def kindF (op:Int):Int:=match spanL.find? (inSpan op) with
 |some s=>s.2.2
 |none=>0
theorem span_at (i:Nat) (hi:i<21):takeN (tab0.drop (i*3)) 3=some [.int .i64 (spanL.getD i (0,0,0)).1, .int .i64 (spanL.getD i (0,0,0)).2.1, .int .i64 (spanL.getD i (0,0,0)).2.2]:=by
 match i,hi with|0,_=>rfl|1,_=>rfl|2,_=>rfl|3,_=>rfl|4,_=>rfl|5,_=>rfl|6,_=>rfl|7,_=>rfl|8,_=>rfl|9,_=>rfl|10,_=>rfl|11,_=>rfl|12,_=>rfl|13,_=>rfl|14,_=>rfl|15,_=>rfl|16,_=>rfl|17,_=>rfl|18,_=>rfl|19,_=>rfl|20,_=>rfl|_+21,h=>exact absurd h (by omega)
theorem tab0_all:takeN tab0 63=some tab0:=rfl
theorem kind_ev (fu n:Nat) (op:Int) (h:21<fu):evF (G fu) (n+1) 47 [.d (.int .i64 op)] []=some (.d (.int .i64 (kindF op)),[]):=by
 rw[evF.eq_2,evX.eq_def,Gext,exts_no _ (f:=47) (by decide),GP,Tryz.func47];simp only[Tryz.f47,evB]
 simp only[go_sem,Nat.reduceAdd,Nat.reduceMul,Nat.reduceSub,Nat.reduceLT,Nat.reduceLeDiff,Nat.reduceEqDiff,Nat.reduceBEq,Nat.reduceBeqDiff,Int.reduceEq,Int.reduceLT,Int.reduceLE,Int.reduceToNat,Int.reduceNeg,Int.reduceAdd,Int.reduceSub,Int.reduceMul,reduceIte,reduceCtorEq,Nat.reducePow,Nat.reduceDiv,Nat.reduceMod,Int.reduceBEq,tab0_all]
 rw[loop_scan 21 (fun i=>⟨[(0,V.d (D.int IntKind.i64 op)),(5,V.d (D.agg tab0)),(6,V.d (D.int IntKind.i64 i))],[]⟩) (fun i=>inSpan op (spanL.getD i (0,0,0))) (fun i=>(.ret,⟨[(2,V.d (D.int .i64 (spanL.getD i (0,0,0)).2.2))],[]⟩)) (.exit 0,⟨[],[]⟩) h (fun _=>trivial) trivial ?_]
 case hs=>
  intro i hi
  simp only[go_sem,Nat.reduceAdd,Nat.reduceMul,Nat.reduceSub,Nat.reduceLT,Nat.reduceLeDiff,Nat.reduceEqDiff,Nat.reduceBEq,Nat.reduceBeqDiff,Int.reduceEq,Int.reduceLT,Int.reduceLE,Int.reduceToNat,Int.reduceNeg,Int.reduceAdd,Int.reduceSub,Int.reduceMul,reduceIte,reduceCtorEq,Nat.reducePow,Nat.reduceDiv,Nat.reduceMod,Int.reduceBEq,Int.ofNat_lt,hi,Int.natCast_nonneg,Int.toNat_natCast,show(i:Int)<21 by omega,span_at i hi]
  simp only[inSpan]
  by_cases h1:(spanL.getD i (0,0,0)).1≤op<;>by_cases h2:op≤(spanL.getD i (0,0,0)).2.1<;>simp only[go_sem,Nat.reduceAdd,Nat.reduceMul,Nat.reduceSub,Nat.reduceLT,Nat.reduceLeDiff,Nat.reduceEqDiff,Nat.reduceBEq,Nat.reduceBeqDiff,Int.reduceEq,Int.reduceLT,Int.reduceLE,Int.reduceToNat,Int.reduceNeg,Int.reduceAdd,Int.reduceSub,Int.reduceMul,reduceIte,reduceCtorEq,Nat.reducePow,Nat.reduceDiv,Nat.reduceMod,Int.reduceBEq,h1,h2,wrap_i64 (show-9223372036854775808≤(i:Int)+1 by omega) (by omega)]
  all_goals rfl
 case he=>simp only[go_sem,Nat.reduceAdd,Nat.reduceMul,Nat.reduceSub,Nat.reduceLT,Nat.reduceLeDiff,Nat.reduceEqDiff,Nat.reduceBEq,Nat.reduceBeqDiff,Int.reduceEq,Int.reduceLT,Int.reduceLE,Int.reduceToNat,Int.reduceNeg,Int.reduceAdd,Int.reduceSub,Int.reduceMul,reduceIte,reduceCtorEq,Nat.reducePow,Nat.reduceDiv,Nat.reduceMod,Int.reduceBEq]
 ·rw[scan_find (p:=inSpan op) (d:=(0,0,0)) (g:=fun s=>(Ex.ret,{tmps:=[(2,V.d (D.int IntKind.i64 s.2.2))],heap:=[]})) (N:=21) spanL rfl]
  unfold kindF
  cases spanL.find? (inSpan op)<;>simp only[go_sem,Nat.reduceAdd,Nat.reduceMul,Nat.reduceSub,Nat.reduceLT,Nat.reduceLeDiff,Nat.reduceEqDiff,Nat.reduceBEq,Nat.reduceBeqDiff,Int.reduceEq,Int.reduceLT,Int.reduceLE,Int.reduceToNat,Int.reduceNeg,Int.reduceAdd,Int.reduceSub,Int.reduceMul,reduceIte,reduceCtorEq,Nat.reducePow,Nat.reduceDiv,Nat.reduceMod,Int.reduceBEq]
 ·rfl
theorem kind_block (op:Int):kindF op=2↔2≤op∧op≤4:=by
 unfold kindF
 constructor
 ·intro h
  cases hf:spanL.find? (inSpan op) with
  |none=>rw[hf] at h;cases h
  |some s=>
   rw[hf] at h
   simp only at h
   have h1:=List.find?_some hf
   have h2:=List.mem_of_find?_eq_some hf
   simp only[inSpan,Bool.and_eq_true,decide_eq_true_eq] at h1
   simp only[spanL,List.mem_cons,List.not_mem_nil,or_false] at h2
   rcases h2 with rfl|rfl|rfl|rfl|rfl|rfl|rfl|rfl|rfl|rfl|rfl|rfl|rfl|rfl|rfl|rfl|rfl|rfl|rfl|rfl|rfl<;>first|exact h1|(simp at h)
 ·intro⟨h1,h2⟩
  have:spanL.find? (inSpan op)=some (2,4,2):=by
   have a:inSpan op (0,1,1)=false:=by simp[inSpan];omega
   have b:inSpan op (2,4,2)=true:=by simp[inSpan];omega
   simp only[spanL,List.find?,a,b]
  rw[this]
def opensB (op:Int):Bool:=decide (2≤op)&&decide (op≤4)
theorem opens_ev (fu n:Nat) (op a b k:Int) (ls:List D) (h:21<fu):evF (G fu) (n+2) 180 [.d (.agg [.int .i64 op, .int .i64 a, .int .i64 b, .int .u64 k, .list ls])] []=some (.d (.bool (opensB op)),[]):=by
 rw[evF.eq_2,evX.eq_def,Gext,exts_no _ (f:=180) (by decide),GP,Tryz.func180];simp only[Tryz.f180,evB]
 simp only[go_sem,Nat.reduceAdd,Nat.reduceMul,Nat.reduceSub,Nat.reduceLT,Nat.reduceLeDiff,Nat.reduceEqDiff,Nat.reduceBEq,Nat.reduceBeqDiff,Int.reduceEq,Int.reduceLT,Int.reduceLE,Int.reduceToNat,Int.reduceNeg,Int.reduceAdd,Int.reduceSub,Int.reduceMul,reduceIte,reduceCtorEq,Nat.reducePow,Nat.reduceDiv,Nat.reduceMod,Int.reduceBEq,kind_ev fu n _ h]
 refine congrArg (fun b=>some (V.d (D.bool b),[])) ?_
 simp only[opensB,kind_block,Bool.decide_and]
theorem opens5:opensB 5=false:=rfl
theorem opens11:opensB 11=false:=rfl
end Go.Proofs.YtfpioigggjnffaaGreatDoor.E
