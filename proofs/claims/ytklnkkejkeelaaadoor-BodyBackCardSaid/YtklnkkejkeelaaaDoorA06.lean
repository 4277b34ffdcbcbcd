/- The reading of chapter 06's awake. -/
import Derived.Test.YtklnkkejkeelaaaDoorF7
import Derived.Test.YtklnkkejkeelaaaDoorF9
set_option linter.unnecessarySimpa false
set_option linter.unusedSimpArgs false
set_option linter.unusedVariables false
set_option autoImplicit false
set_option maxRecDepth 100000
set_option maxHeartbeats 4000000
set_option linter.unusedSimpArgs false
set_option linter.unusedVariables false
set_option pp.maxSteps 20000
namespace Go.Proofs.YtklnkkejkeelaaaDoor.E
open Go.Ev
def ex06 : List TInstr := [⟨2, 0, 0, 0, []⟩, ⟨12, 0, 0, 0, []⟩, ⟨11, 0, 0, 0, []⟩]
theorem awake06_ev (fu n : Nat) (h : 21 < fu) : evF (G fu) (n+10) 15 [] [] = some (.d (.bool true), []) := by
  have t1 := target_ev fu (n+3) ex06 1 0 (by omega) h (by show 3 < fu; omega) (by decide)
  have t2 := target_ev fu (n+3) ex06 1 1 (by omega) h (by show 3 < fu; omega) (by decide)
  have t3 := target_ev fu (n+3) ex06 1 2 (by omega) h (by show 3 < fu; omega) (by decide)
  have s := bodySane_ev fu n ex06 h (by show 3 < fu; omega) (by decide) (fun i hi => by
    have : i.labels = [] := by
      simp only [ex06, List.mem_cons, List.not_mem_nil, or_false] at hi
      rcases hi with rfl | rfl | rfl <;> rfl
    rw [this]; exact ⟨by simp; omega, by simp⟩)
  rw [show targetF ex06 1 0 = (2, true) from rfl] at t1
  rw [show targetF ex06 1 1 = (3, true) from rfl] at t2
  rw [show targetF ex06 1 2 = (0, false) from rfl] at t3
  rw [show bodySane ex06 = true from rfl] at s
  simp only [ex06, List.map, TInstr.d] at t1 t2 t3 s
  rw [evF.eq_2, evX.eq_def, Gext, exts_no _ (f := 15) (by decide), GP, Tryd.func15]; simp only [Tryd.f15, evB]
  simp only [go_sem, Nat.reduceAdd, Nat.reduceMul, Nat.reduceSub, Nat.reduceLT, Nat.reduceLeDiff, Nat.reduceEqDiff, Nat.reduceBEq, Nat.reduceBeqDiff, Int.reduceEq, Int.reduceLT, Int.reduceLE, Int.reduceToNat, Int.reduceNeg, Int.reduceAdd, Int.reduceSub, Int.reduceMul, reduceIte, reduceCtorEq, Nat.reducePow, Nat.reduceDiv, Nat.reduceMod, Int.reduceBEq, and_self, and_true, true_and, and_false, false_and, or_true, true_or, or_false, false_or, Int.natCast_nonneg, Int.toNat_natCast, not_true_eq_false, not_false_eq_true, List.size_toArray, Array.size_empty, List.getElem?_nil, t1, t2, t3, s]
end Go.Proofs.YtklnkkejkeelaaaDoor.E
