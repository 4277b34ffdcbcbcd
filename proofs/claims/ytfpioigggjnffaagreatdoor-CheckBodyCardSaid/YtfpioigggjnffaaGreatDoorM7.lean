/- M7, Q12. -/
import Derived.Test.YtfpioigggjnffaaGreatDoorM4
import Derived.Test.YtfpioigggjnffaaGreatDoorR9
import Derived.Test.YtfpioigggjnffaaGreatDoorEvD
import Derived.Test.YtfpioigggjnffaaGreatDoorF8
import Derived.Test.YtfpioigggjnffaaGreatDoorQ11
set_option linter.unnecessarySimpa false
set_option linter.unusedSimpArgs false
set_option linter.unusedVariables false
set_option autoImplicit false
set_option maxRecDepth 100000
set_option maxHeartbeats 4000000
set_option pp.maxSteps 20000
namespace Go.Proofs.YtfpioigggjnffaaGreatDoor.E
open Go.Ev
def rSaneF (i:TInstr):Bool:=
 let u:=numB i.a&&i.labels.all numB
 if (kindF i.op≠4∧0<i.labels.length)∨(kindF i.op≠6∧i.b≠0)∨(kindF i.op≠8∧kindF i.op≠9∧i.k≠0) then false
 else if kindF i.op=1∨kindF i.op=7∨kindF i.op=9 then decide (i.a=0)
 else if kindF i.op=2 then decide (i.a=0∨i.a=126∨i.a=127)
 else if kindF i.op=3∨kindF i.op=5 then u
 else if kindF i.op=4 then u&&decide (i.labels.length≤64)
 else if kindF i.op=6 then u&&numB i.b
 else if kindF i.op=8 then decide (i.a=0∧i.k<4294967296) else false
theorem rSane_same (i:TInstr):rSaneF i=saneF i:=by
 rw[Bool.eq_iff_iff,saneF_iff]
 unfold rSaneF San
 have hall:i.labels.all numB=true↔∀x∈i.labels,Num x:=by
  rw[List.all_eq_true]
  exact⟨fun h x hx=>(numB_iff x).1 (h x hx),fun h x hx=>(numB_iff x).2 (h x hx)⟩
 have hnil:i.labels=[]↔¬0<i.labels.length:=by cases i.labels<;>simp
 have hN: ∀x,Num x↔(0≤x∧x≤4294967295):=fun x=>Iff.rfl
 have hall0:i.labels=[]→i.labels.all numB=true:=fun h=>by rw[h];rfl
 have e:=kd_in i.op
 rcases e with e|e|e|e|e|e|e|e|e|e<;>simp[e,numB_iff,hall,hN]<;>grind
theorem rSane_ev (fu n:Nat) (i:TInstr) (hfu:i.labels.length<fu) (hs:i.labels.length<1000000):evF (G fu) (n+4) 49 [.d i.d] []=some (.d (.bool (saneF i)),[]):=by
 rw[←rSane_same]
 obtain⟨op,a,b,k,ls⟩:=i
 simp only at hfu hs
 have hkk:=rKind_ev fu n op
 have hkd:=kd_in op
 have hRu:rSaneF ⟨op,a,b,k,ls⟩=(let kk:=kindF op
  let u:=numB a&&ls.all numB
  if (kk≠4∧0<ls.length)∨(kk≠6∧b≠0)∨(kk≠8∧kk≠9∧k≠0) then false
  else if kk=1∨kk=7∨kk=9 then decide (a=0)
  else if kk=2 then decide (a=0∨a=126∨a=127)
  else if kk=3∨kk=5 then u
  else if kk=4 then u&&decide (ls.length≤64)
  else if kk=6 then u&&numB b
  else if kk=8 then decide (a=0∧k<4294967296) else false):=rfl
 rw[hRu]
 simp only[TInstr.d]
 generalize kindF op=kk at*
 rw[evF.eq_2,evX.eq_def,Gext,exts_no _ (f:=49) (by decide),GP,Tryz.func49];simp only[Tryz.f49,evB]
 simp only[go_sem,Nat.reduceAdd,Nat.reduceMul,Nat.reduceSub,Nat.reduceLT,Nat.reduceLeDiff,Nat.reduceEqDiff,Nat.reduceBEq,Nat.reduceBeqDiff,Int.reduceEq,Int.reduceLT,Int.reduceLE,Int.reduceToNat,Int.reduceNeg,Int.reduceAdd,Int.reduceSub,Int.reduceMul,reduceIte,reduceCtorEq,Nat.reducePow,Nat.reduceDiv,Nat.reduceMod,Int.reduceBEq,hkk]
 generalize hX:dropE _ _=X
 obtain rfl:X=some (.normal,⟨[(1, .ptr 128 0),(3, .d (.int .i64 kk)),(4, .d (.bool (numB a)))],[(128, .cells [.d (.int .i64 op), .d (.int .i64 a), .d (.int .i64 b), .d (.int .u64 k), .d (.list (ls.map (D.int .i64)))])]⟩):=by
  rw[←hX]
  by_cases a0:0≤a<;>by_cases a1:a≤4294967295<;>simp only[go_sem,Nat.reduceAdd,Nat.reduceMul,Nat.reduceSub,Nat.reduceLT,Nat.reduceLeDiff,Nat.reduceEqDiff,Nat.reduceBEq,Nat.reduceBeqDiff,Int.reduceEq,Int.reduceLT,Int.reduceLE,Int.reduceToNat,Int.reduceNeg,Int.reduceAdd,Int.reduceSub,Int.reduceMul,reduceIte,reduceCtorEq,Nat.reducePow,Nat.reduceDiv,Nat.reduceMod,Int.reduceBEq,numB,a0,a1]
 clear hX
 simp only[go_sem,Nat.reduceAdd,Nat.reduceMul,Nat.reduceSub,Nat.reduceLT,Nat.reduceLeDiff,Nat.reduceEqDiff,Nat.reduceBEq,Nat.reduceBeqDiff,Int.reduceEq,Int.reduceLT,Int.reduceLE,Int.reduceToNat,Int.reduceNeg,Int.reduceAdd,Int.reduceSub,Int.reduceMul,reduceIte,reduceCtorEq,Nat.reducePow,Nat.reduceDiv,Nat.reduceMod,Int.reduceBEq]
 generalize hX:dropE _ _=X
 obtain rfl:X=some (.normal,⟨[(1, .ptr 128 0),(3, .d (.int .i64 kk)),(4, .d (.bool (numB a))),(46, .d (.bool (decide ((kk≠4∧0<ls.length)∨(kk≠6∧b≠0)∨(kk≠8∧kk≠9∧k≠0)))))],[(128, .cells [.d (.int .i64 op), .d (.int .i64 a), .d (.int .i64 b), .d (.int .u64 k), .d (.list (ls.map (D.int .i64)))])]⟩):=by
  rw[←hX]
  have hl:(0:Int)<ls.length↔0<ls.length:=by omega
  by_cases q4:kk=4
  ·simp only[go_sem,Nat.reduceAdd,Nat.reduceMul,Nat.reduceSub,Nat.reduceLT,Nat.reduceLeDiff,Nat.reduceEqDiff,Nat.reduceBEq,Nat.reduceBeqDiff,Int.reduceEq,Int.reduceLT,Int.reduceLE,Int.reduceToNat,Int.reduceNeg,Int.reduceAdd,Int.reduceSub,Int.reduceMul,reduceIte,reduceCtorEq,Nat.reducePow,Nat.reduceDiv,Nat.reduceMod,Int.reduceBEq,List.length_map,q4,ne_eq]
   by_cases qb:b=0
   ·by_cases qk:k=0<;>simp only[go_sem,Nat.reduceAdd,Nat.reduceMul,Nat.reduceSub,Nat.reduceLT,Nat.reduceLeDiff,Nat.reduceEqDiff,Nat.reduceBEq,Nat.reduceBeqDiff,Int.reduceEq,Int.reduceLT,Int.reduceLE,Int.reduceToNat,Int.reduceNeg,Int.reduceAdd,Int.reduceSub,Int.reduceMul,reduceIte,reduceCtorEq,Nat.reducePow,Nat.reduceDiv,Nat.reduceMod,Int.reduceBEq,List.length_map,qb,qk]
   ·simp only[go_sem,Nat.reduceAdd,Nat.reduceMul,Nat.reduceSub,Nat.reduceLT,Nat.reduceLeDiff,Nat.reduceEqDiff,Nat.reduceBEq,Nat.reduceBeqDiff,Int.reduceEq,Int.reduceLT,Int.reduceLE,Int.reduceToNat,Int.reduceNeg,Int.reduceAdd,Int.reduceSub,Int.reduceMul,reduceIte,reduceCtorEq,Nat.reducePow,Nat.reduceDiv,Nat.reduceMod,Int.reduceBEq,List.length_map,qb]
  ·by_cases ql:0<ls.length
   ·simp only[go_sem,Nat.reduceAdd,Nat.reduceMul,Nat.reduceSub,Nat.reduceLT,Nat.reduceLeDiff,Nat.reduceEqDiff,Nat.reduceBEq,Nat.reduceBeqDiff,Int.reduceEq,Int.reduceLT,Int.reduceLE,Int.reduceToNat,Int.reduceNeg,Int.reduceAdd,Int.reduceSub,Int.reduceMul,reduceIte,reduceCtorEq,Nat.reducePow,Nat.reduceDiv,Nat.reduceMod,Int.reduceBEq,List.length_map,q4,hl,ql,ne_eq]
   ·by_cases q6:kk=6
    ·by_cases qk:k=0<;>simp only[go_sem,Nat.reduceAdd,Nat.reduceMul,Nat.reduceSub,Nat.reduceLT,Nat.reduceLeDiff,Nat.reduceEqDiff,Nat.reduceBEq,Nat.reduceBeqDiff,Int.reduceEq,Int.reduceLT,Int.reduceLE,Int.reduceToNat,Int.reduceNeg,Int.reduceAdd,Int.reduceSub,Int.reduceMul,reduceIte,reduceCtorEq,Nat.reducePow,Nat.reduceDiv,Nat.reduceMod,Int.reduceBEq,List.length_map,hl,ql,q6,qk,ne_eq]
    ·by_cases qb:b=0
     ·by_cases q8:kk=8
      ·simp only[go_sem,Nat.reduceAdd,Nat.reduceMul,Nat.reduceSub,Nat.reduceLT,Nat.reduceLeDiff,Nat.reduceEqDiff,Nat.reduceBEq,Nat.reduceBeqDiff,Int.reduceEq,Int.reduceLT,Int.reduceLE,Int.reduceToNat,Int.reduceNeg,Int.reduceAdd,Int.reduceSub,Int.reduceMul,reduceIte,reduceCtorEq,Nat.reducePow,Nat.reduceDiv,Nat.reduceMod,Int.reduceBEq,List.length_map,hl,ql,qb,q8,ne_eq]
      ·by_cases q9:kk=9
       ·simp only[go_sem,Nat.reduceAdd,Nat.reduceMul,Nat.reduceSub,Nat.reduceLT,Nat.reduceLeDiff,Nat.reduceEqDiff,Nat.reduceBEq,Nat.reduceBeqDiff,Int.reduceEq,Int.reduceLT,Int.reduceLE,Int.reduceToNat,Int.reduceNeg,Int.reduceAdd,Int.reduceSub,Int.reduceMul,reduceIte,reduceCtorEq,Nat.reducePow,Nat.reduceDiv,Nat.reduceMod,Int.reduceBEq,List.length_map,hl,ql,qb,q9,ne_eq]
       ·by_cases qk:k=0<;>simp only[go_sem,Nat.reduceAdd,Nat.reduceMul,Nat.reduceSub,Nat.reduceLT,Nat.reduceLeDiff,Nat.reduceEqDiff,Nat.reduceBEq,Nat.reduceBeqDiff,Int.reduceEq,Int.reduceLT,Int.reduceLE,Int.reduceToNat,Int.reduceNeg,Int.reduceAdd,Int.reduceSub,Int.reduceMul,reduceIte,reduceCtorEq,Nat.reducePow,Nat.reduceDiv,Nat.reduceMod,Int.reduceBEq,List.length_map,hl,ql,q4,q6,qb,q8,q9,qk,ne_eq]
     ·simp only[go_sem,Nat.reduceAdd,Nat.reduceMul,Nat.reduceSub,Nat.reduceLT,Nat.reduceLeDiff,Nat.reduceEqDiff,Nat.reduceBEq,Nat.reduceBeqDiff,Int.reduceEq,Int.reduceLT,Int.reduceLE,Int.reduceToNat,Int.reduceNeg,Int.reduceAdd,Int.reduceSub,Int.reduceMul,reduceIte,reduceCtorEq,Nat.reducePow,Nat.reduceDiv,Nat.reduceMod,Int.reduceBEq,List.length_map,hl,ql,q4,q6,qb,ne_eq]
 clear hX
 by_cases hd:(kk≠4∧0<ls.length)∨(kk≠6∧b≠0)∨(kk≠8∧kk≠9∧k≠0)
 ·simp only[go_sem,Nat.reduceAdd,Nat.reduceMul,Nat.reduceSub,Nat.reduceLT,Nat.reduceLeDiff,Nat.reduceEqDiff,Nat.reduceBEq,Nat.reduceBeqDiff,Int.reduceEq,Int.reduceLT,Int.reduceLE,Int.reduceToNat,Int.reduceNeg,Int.reduceAdd,Int.reduceSub,Int.reduceMul,reduceIte,reduceCtorEq,Nat.reducePow,Nat.reduceDiv,Nat.reduceMod,Int.reduceBEq,hd]
 ·simp only[go_sem,Nat.reduceAdd,Nat.reduceMul,Nat.reduceSub,Nat.reduceLT,Nat.reduceLeDiff,Nat.reduceEqDiff,Nat.reduceBEq,Nat.reduceBeqDiff,Int.reduceEq,Int.reduceLT,Int.reduceLE,Int.reduceToNat,Int.reduceNeg,Int.reduceAdd,Int.reduceSub,Int.reduceMul,reduceIte,reduceCtorEq,Nat.reducePow,Nat.reduceDiv,Nat.reduceMod,Int.reduceBEq,hd,List.length_map]
  rw[loop_some ls.length (fun j=>⟨[(1, .ptr 128 0),(3, .d (.int .i64 kk)),(4, .d (.bool (numB a&&(ls.take j).all numB))),(5, .d (.int .i64 j))],[(128, .cells [.d (.int .i64 op), .d (.int .i64 a), .d (.int .i64 b), .d (.int .u64 k), .d (.list (ls.map (D.int .i64)))])]⟩) (.exit 0,⟨[(1, .ptr 128 0),(3, .d (.int .i64 kk)),(4, .d (.bool (numB a&&ls.all numB)))],[(128, .cells [.d (.int .i64 op), .d (.int .i64 a), .d (.int .i64 b), .d (.int .u64 k), .d (.list (ls.map (D.int .i64)))])]⟩) trivial hfu ?_]
  case hs=>
   intro j hj
   have hjI:(j:Int)<ls.length:=by omega
   have hx:(ls.map (D.int .i64))[j]? =some (.int .i64 (ls.getD j 0)):=getD_map hj
   have Wj:=wrap_i64 (show-9223372036854775808≤(j:Int)+1 by omega) (by omega)
   have hT:(ls.take (j+1)).all numB=((ls.take j).all numB&&numB (ls.getD j 0)):=by
    rw[List.take_add_one,List.all_append,List.getD_eq_getElem?_getD,List.getElem?_eq_getElem hj]
    simp
   rw[hT,←Bool.and_assoc]
   generalize(numB a&&(ls.take j).all numB)=u
   generalize ls.getD j 0=v at*
   cases u with
   |false=>
    simp only[go_sem,Nat.reduceAdd,Nat.reduceMul,Nat.reduceSub,Nat.reduceLT,Nat.reduceLeDiff,Nat.reduceEqDiff,Nat.reduceBEq,Nat.reduceBeqDiff,Int.reduceEq,Int.reduceLT,Int.reduceLE,Int.reduceToNat,Int.reduceNeg,Int.reduceAdd,Int.reduceSub,Int.reduceMul,reduceIte,reduceCtorEq,Nat.reducePow,Nat.reduceDiv,Nat.reduceMod,Int.reduceBEq,List.length_map,hjI,Wj]
    rfl
   |true=>
    by_cases a0:0≤v<;>by_cases a1:v≤4294967295<;>simp only[go_sem,Nat.reduceAdd,Nat.reduceMul,Nat.reduceSub,Nat.reduceLT,Nat.reduceLeDiff,Nat.reduceEqDiff,Nat.reduceBEq,Nat.reduceBeqDiff,Int.reduceEq,Int.reduceLT,Int.reduceLE,Int.reduceToNat,Int.reduceNeg,Int.reduceAdd,Int.reduceSub,Int.reduceMul,reduceIte,reduceCtorEq,Nat.reducePow,Nat.reduceDiv,Nat.reduceMod,Int.reduceBEq,List.length_map,hjI,idx,hx,numB,a0,a1,Wj]<;>rfl
  case he=>simp only[go_sem,Nat.reduceAdd,Nat.reduceMul,Nat.reduceSub,Nat.reduceLT,Nat.reduceLeDiff,Nat.reduceEqDiff,Nat.reduceBEq,Nat.reduceBeqDiff,Int.reduceEq,Int.reduceLT,Int.reduceLE,Int.reduceToNat,Int.reduceNeg,Int.reduceAdd,Int.reduceSub,Int.reduceMul,reduceIte,reduceCtorEq,Nat.reducePow,Nat.reduceDiv,Nat.reduceMod,Int.reduceBEq,List.length_map,Int.lt_irrefl,List.take_length]
  ·generalize(numB a&&ls.all numB)=u
   rcases hkd with rfl|rfl|rfl|rfl|rfl|rfl|rfl|rfl|rfl|rfl
   ·simp only[go_sem,Nat.reduceAdd,Nat.reduceMul,Nat.reduceSub,Nat.reduceLT,Nat.reduceLeDiff,Nat.reduceEqDiff,Nat.reduceBEq,Nat.reduceBeqDiff,Int.reduceEq,Int.reduceLT,Int.reduceLE,Int.reduceToNat,Int.reduceNeg,Int.reduceAdd,Int.reduceSub,Int.reduceMul,reduceIte,reduceCtorEq,Nat.reducePow,Nat.reduceDiv,Nat.reduceMod,Int.reduceBEq]
   ·simp only[go_sem,Nat.reduceAdd,Nat.reduceMul,Nat.reduceSub,Nat.reduceLT,Nat.reduceLeDiff,Nat.reduceEqDiff,Nat.reduceBEq,Nat.reduceBeqDiff,Int.reduceEq,Int.reduceLT,Int.reduceLE,Int.reduceToNat,Int.reduceNeg,Int.reduceAdd,Int.reduceSub,Int.reduceMul,reduceIte,reduceCtorEq,Nat.reducePow,Nat.reduceDiv,Nat.reduceMod,Int.reduceBEq]
   ·by_cases c0:a=0
    ·simp only[go_sem,Nat.reduceAdd,Nat.reduceMul,Nat.reduceSub,Nat.reduceLT,Nat.reduceLeDiff,Nat.reduceEqDiff,Nat.reduceBEq,Nat.reduceBeqDiff,Int.reduceEq,Int.reduceLT,Int.reduceLE,Int.reduceToNat,Int.reduceNeg,Int.reduceAdd,Int.reduceSub,Int.reduceMul,reduceIte,reduceCtorEq,Nat.reducePow,Nat.reduceDiv,Nat.reduceMod,Int.reduceBEq,c0]
    ·by_cases c1:a=126
     ·simp only[go_sem,Nat.reduceAdd,Nat.reduceMul,Nat.reduceSub,Nat.reduceLT,Nat.reduceLeDiff,Nat.reduceEqDiff,Nat.reduceBEq,Nat.reduceBeqDiff,Int.reduceEq,Int.reduceLT,Int.reduceLE,Int.reduceToNat,Int.reduceNeg,Int.reduceAdd,Int.reduceSub,Int.reduceMul,reduceIte,reduceCtorEq,Nat.reducePow,Nat.reduceDiv,Nat.reduceMod,Int.reduceBEq,c1]
     ·simp only[go_sem,Nat.reduceAdd,Nat.reduceMul,Nat.reduceSub,Nat.reduceLT,Nat.reduceLeDiff,Nat.reduceEqDiff,Nat.reduceBEq,Nat.reduceBeqDiff,Int.reduceEq,Int.reduceLT,Int.reduceLE,Int.reduceToNat,Int.reduceNeg,Int.reduceAdd,Int.reduceSub,Int.reduceMul,reduceIte,reduceCtorEq,Nat.reducePow,Nat.reduceDiv,Nat.reduceMod,Int.reduceBEq,c0,c1]
   ·simp only[go_sem,Nat.reduceAdd,Nat.reduceMul,Nat.reduceSub,Nat.reduceLT,Nat.reduceLeDiff,Nat.reduceEqDiff,Nat.reduceBEq,Nat.reduceBeqDiff,Int.reduceEq,Int.reduceLT,Int.reduceLE,Int.reduceToNat,Int.reduceNeg,Int.reduceAdd,Int.reduceSub,Int.reduceMul,reduceIte,reduceCtorEq,Nat.reducePow,Nat.reduceDiv,Nat.reduceMod,Int.reduceBEq]
   ·have hI:(ls.length:Int)≤64↔ls.length≤64:=by omega
    cases u<;>simp only[go_sem,Nat.reduceAdd,Nat.reduceMul,Nat.reduceSub,Nat.reduceLT,Nat.reduceLeDiff,Nat.reduceEqDiff,Nat.reduceBEq,Nat.reduceBeqDiff,Int.reduceEq,Int.reduceLT,Int.reduceLE,Int.reduceToNat,Int.reduceNeg,Int.reduceAdd,Int.reduceSub,Int.reduceMul,reduceIte,reduceCtorEq,Nat.reducePow,Nat.reduceDiv,Nat.reduceMod,Int.reduceBEq,List.length_map,hI]
   ·simp only[go_sem,Nat.reduceAdd,Nat.reduceMul,Nat.reduceSub,Nat.reduceLT,Nat.reduceLeDiff,Nat.reduceEqDiff,Nat.reduceBEq,Nat.reduceBeqDiff,Int.reduceEq,Int.reduceLT,Int.reduceLE,Int.reduceToNat,Int.reduceNeg,Int.reduceAdd,Int.reduceSub,Int.reduceMul,reduceIte,reduceCtorEq,Nat.reducePow,Nat.reduceDiv,Nat.reduceMod,Int.reduceBEq]
   ·cases u with
    |false=>simp only[go_sem,Nat.reduceAdd,Nat.reduceMul,Nat.reduceSub,Nat.reduceLT,Nat.reduceLeDiff,Nat.reduceEqDiff,Nat.reduceBEq,Nat.reduceBeqDiff,Int.reduceEq,Int.reduceLT,Int.reduceLE,Int.reduceToNat,Int.reduceNeg,Int.reduceAdd,Int.reduceSub,Int.reduceMul,reduceIte,reduceCtorEq,Nat.reducePow,Nat.reduceDiv,Nat.reduceMod,Int.reduceBEq]
    |true=>by_cases a0:0≤b<;>by_cases a1:b≤4294967295<;>simp only[go_sem,Nat.reduceAdd,Nat.reduceMul,Nat.reduceSub,Nat.reduceLT,Nat.reduceLeDiff,Nat.reduceEqDiff,Nat.reduceBEq,Nat.reduceBeqDiff,Int.reduceEq,Int.reduceLT,Int.reduceLE,Int.reduceToNat,Int.reduceNeg,Int.reduceAdd,Int.reduceSub,Int.reduceMul,reduceIte,reduceCtorEq,Nat.reducePow,Nat.reduceDiv,Nat.reduceMod,Int.reduceBEq,numB,a0,a1]
   ·simp only[go_sem,Nat.reduceAdd,Nat.reduceMul,Nat.reduceSub,Nat.reduceLT,Nat.reduceLeDiff,Nat.reduceEqDiff,Nat.reduceBEq,Nat.reduceBeqDiff,Int.reduceEq,Int.reduceLT,Int.reduceLE,Int.reduceToNat,Int.reduceNeg,Int.reduceAdd,Int.reduceSub,Int.reduceMul,reduceIte,reduceCtorEq,Nat.reducePow,Nat.reduceDiv,Nat.reduceMod,Int.reduceBEq]
   ·by_cases c0:a=0<;>simp only[go_sem,Nat.reduceAdd,Nat.reduceMul,Nat.reduceSub,Nat.reduceLT,Nat.reduceLeDiff,Nat.reduceEqDiff,Nat.reduceBEq,Nat.reduceBeqDiff,Int.reduceEq,Int.reduceLT,Int.reduceLE,Int.reduceToNat,Int.reduceNeg,Int.reduceAdd,Int.reduceSub,Int.reduceMul,reduceIte,reduceCtorEq,Nat.reducePow,Nat.reduceDiv,Nat.reduceMod,Int.reduceBEq,c0]
   ·simp only[go_sem,Nat.reduceAdd,Nat.reduceMul,Nat.reduceSub,Nat.reduceLT,Nat.reduceLeDiff,Nat.reduceEqDiff,Nat.reduceBEq,Nat.reduceBeqDiff,Int.reduceEq,Int.reduceLT,Int.reduceLE,Int.reduceToNat,Int.reduceNeg,Int.reduceAdd,Int.reduceSub,Int.reduceMul,reduceIte,reduceCtorEq,Nat.reducePow,Nat.reduceDiv,Nat.reduceMod,Int.reduceBEq]
  ·simp
end Go.Proofs.YtfpioigggjnffaaGreatDoor.E
set_option autoImplicit false
set_option maxRecDepth 100000
set_option maxHeartbeats 4000000
set_option pp.maxSteps 20000
namespace Go.Proofs.YtfpioigggjnffaaGreatDoor.E
open Go.Ev
theorem Rm.labels {b:Nat} {w:WkS} (h:Rm b w.s) (t l:List Int):Rm b (labelsS w t l).s:=by
 induction l generalizing w with
 |nil=>exact h
 |cons a l ih=>exact ih ((h.label a).must _ _)
theorem labelsS_append (w:WkS) (t a b:List Int):labelsS w t (a++b)=labelsS (labelsS w t a) t b:=by
 induction a generalizing w with
 |nil=>rfl
 |cons x a ih=>simp only[List.cons_append,labelsS,ih]
theorem labelsS_step (w:WkS) (t l:List Int) {k:Nat} (hk:k<l.length):labelsS w t (l.take (k+1))=((labelsS w t (l.take k)).label (l.getD k 0)).2.must (((labelsS w t (l.take k)).label (l.getD k 0)).1==t) 5:=by
 have e1:l.take (k+1)=l.take k++[l.getD k 0]:=by
  rw[List.take_add_one,List.getElem?_eq_getElem hk]
  simp[hk]
 rw[e1,labelsS_append]
 rfl
theorem fin_byt {l:List Int} (h:finB l=true):Byt l:=by
 match l,h with
 |[],_=>intro x hx;simp at hx
 |[c],h=>
  intro x hx
  simp only[List.mem_singleton] at hx
  subst hx
  simp only[finB,valB,Bool.or_eq_true,beq_iff_eq] at h
  omega
theorem beq_dec (a b:List Int):(a==b)=decide (a=b):=by
 by_cases h:a=b
 ·subst h;simp
 ·have:(a==b)=false:=by simpa using h
  rw[this];simp[h]
theorem table_ev (fu n b:Nat) (e:TEnv) (w:WkS) (hb:b+100<fu) (hm:b+100<1000000) (h:Rm b w.s) (i:TInstr) (ha:numB i.a=true) (hl:i.labels.all numB=true) (hll:i.labels.length≤64) (hop:i.op=14):evF (G fu) (n+11) 101 [.ptr 0 0, .d i.d] [.cells (ck e w)]=some (.tup [],[.cells (ck e (branchS e w i))]):=by
 have P1:=cklabel_ev fu (n+2) e w i.a (h.ok (by omega) (by omega)) (rngL ha)
 have h1:Rm b (w.label i.a).2.s:=h.label _
 have hfin:=label_fin w i.a
 have hlen:(w.label i.a).1.length≤1:=fin_len hfin
 have t1:=byt_takeL (w.label i.a).1
 have hB:branchS e w i=(((labelsS (w.label i.a).2 (w.label i.a).1 i.labels).want [127]).want (w.label i.a).1).kill:=by
  unfold branchS
  rw[if_neg (show ¬i.op=15 by omega)]
  simp only
  rw[if_neg (show ¬i.op=12 by omega),if_neg (show ¬i.op=13 by omega)]
 rw[hB]
 generalize hw1:(w.label i.a).2=w1 at*
 generalize ht:(w.label i.a).1=t at*
 have h2:=h1.labels t i.labels
 have P2:=ckwant_ev fu (n+1) e (labelsS w1 t i.labels) [127] (h2.ok (by omega) (by omega)) (by simp)
 have h3:=h2.want [127]
 have P3:=ckwant_ev fu (n+1) e ((labelsS w1 t i.labels).want [127]) t (h3.ok (by omega) (by omega)) (by omega)
 have h4:=h3.want t
 have P4:=ckkill_ev fu (n+1) e (((labelsS w1 t i.labels).want [127]).want t) (h4.ok (by omega) (by omega))
 simp only[byt1] at P2
 rw[evF.eq_2,evX.eq_def,Gext,exts_no _ (f:=101) (by decide),GP,Tryz.func101];simp only[Tryz.f101,evB]
 simp only[go_sem,Nat.reduceAdd,Nat.reduceMul,Nat.reduceSub,Nat.reduceLT,Nat.reduceLeDiff,Nat.reduceEqDiff,Nat.reduceBEq,Nat.reduceBeqDiff,Int.reduceEq,Int.reduceLT,Int.reduceLE,Int.reduceToNat,Int.reduceNeg,Int.reduceAdd,Int.reduceSub,Int.reduceMul,reduceIte,reduceCtorEq,Nat.reducePow,Nat.reduceDiv,Nat.reduceMod,Int.reduceBEq,TInstr.d,List.length_map,P1]
 rw[loop_some i.labels.length (fun k=>⟨[(0,V.ptr 0 0),(4,V.row 704 0 0 t.length),(12,V.d (D.list (List.map (D.int IntKind.i64) i.labels))),(13,V.d (D.int IntKind.i64 i.labels.length)),(14,V.d (D.int IntKind.i64 k))],[(0, .cells (ck e (labelsS w1 t (i.labels.take k)))),(704, .row 1 (byt t) 0 (decide (0<k)) false)]⟩)
  (.exit 0,⟨[(0,V.ptr 0 0),(4,V.row 704 0 0 t.length)],[(0, .cells (ck e (labelsS w1 t i.labels))),(704, .row 1 (byt t) 0 (decide (0<i.labels.length)) false)]⟩) trivial (by omega) ?_]
 case hs=>
  intro k hk
  have hx:(i.labels.map (D.int .i64))[k]? =some (.int .i64 (i.labels.getD k 0)):=getD_map hk
  have hkI:(k:Int)<i.labels.length:=by omega
  have W:=wrap_i64 (show-9223372036854775808≤(k:Int)+1 by omega) (by omega)
  have hn:numB (i.labels.getD k 0)=true:=by
   refine List.all_eq_true.1 hl _ ?_
   rw[List.getD_eq_getElem?_getD,List.getElem?_eq_getElem hk]
   exact List.getElem_mem hk
  have hst:=labelsS_step w1 t i.labels hk
  have hR:Rm b (labelsS w1 t (i.labels.take k)).s:=h1.labels t _
  rw[hst]
  generalize labelsS w1 t (i.labels.take k)=v at*
  generalize i.labels.getD k 0=a at*
  have Q1:=cklabel_ev fu (n+2) e v a (hR.ok (by omega) (by omega)) (rngL hn)
  have hf2:=label_fin v a
  have t2:=byt_takeL (v.label a).1
  have Q2:=equal_ev fu (n+9) (v.label a).1 t (fin_byt hf2) (fin_byt hfin)
  have Q3:=must_ev fu (n+9) e (v.label a).2 ((v.label a).1==t) 5
  rw[beq_dec] at Q3 ⊢
  generalize(v.label a).2=v2 at*
  generalize(v.label a).1=t' at*
  have hk1:decide (0<k+1)=true:=by simp
  rw[hk1]
  cases k with
  |zero=>
   have hk0:(0:Int)<i.labels.length:=by omega
   have V1:=wrap_i64 (show-9223372036854775808≤(1:Int) by omega) (by omega)
   simp only[go_sem,Nat.reduceAdd,Nat.reduceMul,Nat.reduceSub,Nat.reduceLT,Nat.reduceLeDiff,Nat.reduceEqDiff,Nat.reduceBEq,Nat.reduceBeqDiff,Int.reduceEq,Int.reduceLT,Int.reduceLE,Int.reduceToNat,Int.reduceNeg,Int.reduceAdd,Int.reduceSub,Int.reduceMul,reduceIte,reduceCtorEq,Nat.reducePow,Nat.reduceDiv,Nat.reduceMod,Int.reduceBEq,hk0,idx,hx,V1,Q1,Q2,Q3,t1,t2,Nat.lt_irrefl]
  |succ k=>
   simp only[go_sem,Nat.reduceAdd,Nat.reduceMul,Nat.reduceSub,Nat.reduceLT,Nat.reduceLeDiff,Nat.reduceEqDiff,Nat.reduceBEq,Nat.reduceBeqDiff,Int.reduceEq,Int.reduceLT,Int.reduceLE,Int.reduceToNat,Int.reduceNeg,Int.reduceAdd,Int.reduceSub,Int.reduceMul,reduceIte,reduceCtorEq,Nat.reducePow,Nat.reduceDiv,Nat.reduceMod,Int.reduceBEq,hkI,idx,hx,W,Q1,Q2,Q3,t1,t2,Nat.succ_pos]
   rfl
 case he=>
  simp only[go_sem,Nat.reduceAdd,Nat.reduceMul,Nat.reduceSub,Nat.reduceLT,Nat.reduceLeDiff,Nat.reduceEqDiff,Nat.reduceBEq,Nat.reduceBeqDiff,Int.reduceEq,Int.reduceLT,Int.reduceLE,Int.reduceToNat,Int.reduceNeg,Int.reduceAdd,Int.reduceSub,Int.reduceMul,reduceIte,reduceCtorEq,Nat.reducePow,Nat.reduceDiv,Nat.reduceMod,Int.reduceBEq,Int.lt_irrefl,List.take_length]
 ·cases hz:decide (0<i.labels.length)<;>simp only[go_sem,Nat.reduceAdd,Nat.reduceMul,Nat.reduceSub,Nat.reduceLT,Nat.reduceLeDiff,Nat.reduceEqDiff,Nat.reduceBEq,Nat.reduceBeqDiff,Int.reduceEq,Int.reduceLT,Int.reduceLE,Int.reduceToNat,Int.reduceNeg,Int.reduceAdd,Int.reduceSub,Int.reduceMul,reduceIte,reduceCtorEq,Nat.reducePow,Nat.reduceDiv,Nat.reduceMod,Int.reduceBEq,P2,P3,P4,t1]
 ·rfl
theorem by_ev (fu n:Nat) (k:Int):evF (G fu) (n+1) 46 [.d (.int .i64 k)] []=some (.fn (.func (if k=2 then 99 else if k=3 then 100 else if k=4 then 101 else if k=5 then 102 else if k=6 then 103 else if k=7 then 104 else if k=8 then 105 else if k=9 then 106 else 107)) [] [],[]):=by
 rw[evF.eq_2,evX.eq_def,Gext,exts_no _ (f:=46) (by decide),GP,Tryz.func46];simp only[Tryz.f46,evB]
 by_cases h2:k=2
 ·subst h2;simp only[go_sem,Nat.reduceAdd,Nat.reduceMul,Nat.reduceSub,Nat.reduceLT,Nat.reduceLeDiff,Nat.reduceEqDiff,Nat.reduceBEq,Nat.reduceBeqDiff,Int.reduceEq,Int.reduceLT,Int.reduceLE,Int.reduceToNat,Int.reduceNeg,Int.reduceAdd,Int.reduceSub,Int.reduceMul,reduceIte,reduceCtorEq,Nat.reducePow,Nat.reduceDiv,Nat.reduceMod,Int.reduceBEq]
 by_cases h3:k=3
 ·subst h3;simp only[go_sem,Nat.reduceAdd,Nat.reduceMul,Nat.reduceSub,Nat.reduceLT,Nat.reduceLeDiff,Nat.reduceEqDiff,Nat.reduceBEq,Nat.reduceBeqDiff,Int.reduceEq,Int.reduceLT,Int.reduceLE,Int.reduceToNat,Int.reduceNeg,Int.reduceAdd,Int.reduceSub,Int.reduceMul,reduceIte,reduceCtorEq,Nat.reducePow,Nat.reduceDiv,Nat.reduceMod,Int.reduceBEq]
 by_cases h4:k=4
 ·subst h4;simp only[go_sem,Nat.reduceAdd,Nat.reduceMul,Nat.reduceSub,Nat.reduceLT,Nat.reduceLeDiff,Nat.reduceEqDiff,Nat.reduceBEq,Nat.reduceBeqDiff,Int.reduceEq,Int.reduceLT,Int.reduceLE,Int.reduceToNat,Int.reduceNeg,Int.reduceAdd,Int.reduceSub,Int.reduceMul,reduceIte,reduceCtorEq,Nat.reducePow,Nat.reduceDiv,Nat.reduceMod,Int.reduceBEq]
 by_cases h5:k=5
 ·subst h5;simp only[go_sem,Nat.reduceAdd,Nat.reduceMul,Nat.reduceSub,Nat.reduceLT,Nat.reduceLeDiff,Nat.reduceEqDiff,Nat.reduceBEq,Nat.reduceBeqDiff,Int.reduceEq,Int.reduceLT,Int.reduceLE,Int.reduceToNat,Int.reduceNeg,Int.reduceAdd,Int.reduceSub,Int.reduceMul,reduceIte,reduceCtorEq,Nat.reducePow,Nat.reduceDiv,Nat.reduceMod,Int.reduceBEq]
 by_cases h6:k=6
 ·subst h6;simp only[go_sem,Nat.reduceAdd,Nat.reduceMul,Nat.reduceSub,Nat.reduceLT,Nat.reduceLeDiff,Nat.reduceEqDiff,Nat.reduceBEq,Nat.reduceBeqDiff,Int.reduceEq,Int.reduceLT,Int.reduceLE,Int.reduceToNat,Int.reduceNeg,Int.reduceAdd,Int.reduceSub,Int.reduceMul,reduceIte,reduceCtorEq,Nat.reducePow,Nat.reduceDiv,Nat.reduceMod,Int.reduceBEq]
 by_cases h7:k=7
 ·subst h7;simp only[go_sem,Nat.reduceAdd,Nat.reduceMul,Nat.reduceSub,Nat.reduceLT,Nat.reduceLeDiff,Nat.reduceEqDiff,Nat.reduceBEq,Nat.reduceBeqDiff,Int.reduceEq,Int.reduceLT,Int.reduceLE,Int.reduceToNat,Int.reduceNeg,Int.reduceAdd,Int.reduceSub,Int.reduceMul,reduceIte,reduceCtorEq,Nat.reducePow,Nat.reduceDiv,Nat.reduceMod,Int.reduceBEq]
 by_cases h8:k=8
 ·subst h8;simp only[go_sem,Nat.reduceAdd,Nat.reduceMul,Nat.reduceSub,Nat.reduceLT,Nat.reduceLeDiff,Nat.reduceEqDiff,Nat.reduceBEq,Nat.reduceBeqDiff,Int.reduceEq,Int.reduceLT,Int.reduceLE,Int.reduceToNat,Int.reduceNeg,Int.reduceAdd,Int.reduceSub,Int.reduceMul,reduceIte,reduceCtorEq,Nat.reducePow,Nat.reduceDiv,Nat.reduceMod,Int.reduceBEq]
 by_cases h9:k=9
 ·subst h9;simp only[go_sem,Nat.reduceAdd,Nat.reduceMul,Nat.reduceSub,Nat.reduceLT,Nat.reduceLeDiff,Nat.reduceEqDiff,Nat.reduceBEq,Nat.reduceBeqDiff,Int.reduceEq,Int.reduceLT,Int.reduceLE,Int.reduceToNat,Int.reduceNeg,Int.reduceAdd,Int.reduceSub,Int.reduceMul,reduceIte,reduceCtorEq,Nat.reducePow,Nat.reduceDiv,Nat.reduceMod,Int.reduceBEq]
 simp only[go_sem,Nat.reduceAdd,Nat.reduceMul,Nat.reduceSub,Nat.reduceLT,Nat.reduceLeDiff,Nat.reduceEqDiff,Nat.reduceBEq,Nat.reduceBeqDiff,Int.reduceEq,Int.reduceLT,Int.reduceLE,Int.reduceToNat,Int.reduceNeg,Int.reduceAdd,Int.reduceSub,Int.reduceMul,reduceIte,reduceCtorEq,Nat.reducePow,Nat.reduceDiv,Nat.reduceMod,Int.reduceBEq,h2,h3,h4,h5,h6,h7,h8,h9]
end Go.Proofs.YtfpioigggjnffaaGreatDoor.E
