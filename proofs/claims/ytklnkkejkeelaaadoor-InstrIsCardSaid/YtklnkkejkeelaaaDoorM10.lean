/- The reading of instr.Access and avocetref05.Access. -/
import Derived.Test.YtklnkkejkeelaaaDoorM8
import Derived.Test.YtklnkkejkeelaaaDoorM9
set_option linter.unnecessarySimpa false
set_option linter.unusedSimpArgs false
set_option linter.unusedVariables false
set_option autoImplicit false
set_option maxRecDepth 100000
set_option maxHeartbeats 4000000
set_option linter.unusedSimpArgs false
set_option linter.unusedVariables false
set_option pp.maxSteps 20000
namespace Go.Proofs.YtklnkkejkeelaaaDoor.E
open Go.Ev
def accT : List (Int × Int × Bool × Bool) := [(127, 4, false, false), (126, 8, false, false), (0, 0, false, false), (0, 0, false, false), (127, 1, true, false), (127, 1, false, false), (127, 2, true, false), (127, 2, false, false), (126, 1, true, false), (126, 1, false, false), (126, 2, true, false), (126, 2, false, false), (126, 4, true, false), (126, 4, false, false), (127, 4, false, true), (126, 8, false, true), (0, 0, false, false), (0, 0, false, false), (127, 1, false, true), (127, 2, false, true), (126, 1, false, true), (126, 2, false, true), (126, 4, false, true)]
def accF (op : Int) : Int × Int × Bool × Bool := if 40 ≤ op ∧ op ≤ 62 then accT.getD (op - 40).toNat (0, 0, false, false) else (0, 0, false, false)
def accR (r : Int × Int × Bool × Bool) : Option Res := some (.tup [.d (.int .u8 r.1), .d (.int .i64 r.2.1), .d (.bool r.2.2.1), .d (.bool r.2.2.2)], [])
theorem acc_at (fu n : Nat) : ∀ k : Nat, k < 23 → evF (G fu) (n+1) 31 [.d (.int .i64 ((40 + k : Nat) : Int))] [] = accR (accT.getD k (0, 0, false, false)) := fun k h => match k, h with
  | 0, _ => by kernel_rfl
  | 1, _ => by kernel_rfl
  | 2, _ => by kernel_rfl
  | 3, _ => by kernel_rfl
  | 4, _ => by kernel_rfl
  | 5, _ => by kernel_rfl
  | 6, _ => by kernel_rfl
  | 7, _ => by kernel_rfl
  | 8, _ => by kernel_rfl
  | 9, _ => by kernel_rfl
  | 10, _ => by kernel_rfl
  | 11, _ => by kernel_rfl
  | 12, _ => by kernel_rfl
  | 13, _ => by kernel_rfl
  | 14, _ => by kernel_rfl
  | 15, _ => by kernel_rfl
  | 16, _ => by kernel_rfl
  | 17, _ => by kernel_rfl
  | 18, _ => by kernel_rfl
  | 19, _ => by kernel_rfl
  | 20, _ => by kernel_rfl
  | 21, _ => by kernel_rfl
  | 22, _ => by kernel_rfl
  | _ + 23, h => absurd h (by omega)
theorem rAcc_at (fu n : Nat) : ∀ k : Nat, k < 23 → evF (G fu) (n+1) 32 [.d (.int .i64 ((40 + k : Nat) : Int))] [] = accR (accT.getD k (0, 0, false, false)) := fun k h => match k, h with
  | 0, _ => by kernel_rfl
  | 1, _ => by kernel_rfl
  | 2, _ => by kernel_rfl
  | 3, _ => by kernel_rfl
  | 4, _ => by kernel_rfl
  | 5, _ => by kernel_rfl
  | 6, _ => by kernel_rfl
  | 7, _ => by kernel_rfl
  | 8, _ => by kernel_rfl
  | 9, _ => by kernel_rfl
  | 10, _ => by kernel_rfl
  | 11, _ => by kernel_rfl
  | 12, _ => by kernel_rfl
  | 13, _ => by kernel_rfl
  | 14, _ => by kernel_rfl
  | 15, _ => by kernel_rfl
  | 16, _ => by kernel_rfl
  | 17, _ => by kernel_rfl
  | 18, _ => by kernel_rfl
  | 19, _ => by kernel_rfl
  | 20, _ => by kernel_rfl
  | 21, _ => by kernel_rfl
  | 22, _ => by kernel_rfl
  | _ + 23, h => absurd h (by omega)
theorem acc_ev (fu n : Nat) (op : Int) (h0 : -9223372036854775808 ≤ op) (h1 : op ≤ 9223372036854775807) : evF (G fu) (n+1) 31 [.d (.int .i64 op)] [] = accR (accF op) := by
  unfold accF
  by_cases h : 40 ≤ op ∧ op ≤ 62
  · rw [if_pos h]
    have := acc_at fu n (op - 40).toNat (by omega)
    rwa [show ((40 + (op - 40).toNat : Nat) : Int) = op by omega] at this
  · rw [if_neg h]
    unfold accR
    rw [evF.eq_2, evX.eq_def, Gext, exts_no _ (f := 31) (by decide), GP, Tryd.func31]; simp only [Tryd.f31, evB]
    by_cases a : op < 40
    · simp only [go_sem, Nat.reduceAdd, Nat.reduceMul, Nat.reduceSub, Nat.reduceLT, Nat.reduceLeDiff, Nat.reduceEqDiff, Nat.reduceBEq, Nat.reduceBeqDiff, Int.reduceEq, Int.reduceLT, Int.reduceLE, Int.reduceToNat, Int.reduceNeg, Int.reduceAdd, Int.reduceSub, Int.reduceMul, reduceIte, reduceCtorEq, Nat.reducePow, Nat.reduceDiv, Nat.reduceMod, Int.reduceBEq, and_self, and_true, true_and, and_false, false_and, or_true, true_or, or_false, false_or, Int.natCast_nonneg, Int.toNat_natCast, not_true_eq_false, not_false_eq_true, List.size_toArray, Array.size_empty, List.getElem?_nil, a]
    · simp only [go_sem, Nat.reduceAdd, Nat.reduceMul, Nat.reduceSub, Nat.reduceLT, Nat.reduceLeDiff, Nat.reduceEqDiff, Nat.reduceBEq, Nat.reduceBeqDiff, Int.reduceEq, Int.reduceLT, Int.reduceLE, Int.reduceToNat, Int.reduceNeg, Int.reduceAdd, Int.reduceSub, Int.reduceMul, reduceIte, reduceCtorEq, Nat.reducePow, Nat.reduceDiv, Nat.reduceMod, Int.reduceBEq, and_self, and_true, true_and, and_false, false_and, or_true, true_or, or_false, false_or, Int.natCast_nonneg, Int.toNat_natCast, not_true_eq_false, not_false_eq_true, List.size_toArray, Array.size_empty, List.getElem?_nil, a, show (63 : Int) ≤ op by omega]
theorem rAcc_ev (fu n : Nat) (op : Int) : evF (G fu) (n+1) 32 [.d (.int .i64 op)] [] = accR (accF op) := by
  unfold accF
  by_cases h : 40 ≤ op ∧ op ≤ 62
  · rw [if_pos h]
    have := rAcc_at fu n (op - 40).toNat (by omega)
    rwa [show ((40 + (op - 40).toNat : Nat) : Int) = op by omega] at this
  · rw [if_neg h]
    unfold accR
    rw [evF.eq_2, evX.eq_def, Gext, exts_no _ (f := 32) (by decide), GP, Tryd.func32]; simp only [Tryd.f32, evB]
    simp (maxSteps := 1000000) only [go_sem, Nat.reduceAdd, Nat.reduceMul, Nat.reduceSub, Nat.reduceLT, Nat.reduceLeDiff, Nat.reduceEqDiff, Nat.reduceBEq, Nat.reduceBeqDiff, Int.reduceEq, Int.reduceLT, Int.reduceLE, Int.reduceToNat, Int.reduceNeg, Int.reduceAdd, Int.reduceSub, Int.reduceMul, reduceIte, reduceCtorEq, Nat.reducePow, Nat.reduceDiv, Nat.reduceMod, Int.reduceBEq, and_self, and_true, true_and, and_false, false_and, or_true, true_or, or_false, false_or, Int.natCast_nonneg, Int.toNat_natCast, not_true_eq_false, not_false_eq_true, List.size_toArray, Array.size_empty, List.getElem?_nil, show ¬ op = (40 : Int) by omega, show ¬ op = (41 : Int) by omega, show ¬ op = (44 : Int) by omega, show ¬ op = (45 : Int) by omega, show ¬ op = (46 : Int) by omega, show ¬ op = (47 : Int) by omega, show ¬ op = (48 : Int) by omega, show ¬ op = (49 : Int) by omega, show ¬ op = (50 : Int) by omega, show ¬ op = (51 : Int) by omega, show ¬ op = (52 : Int) by omega, show ¬ op = (53 : Int) by omega, show ¬ op = (54 : Int) by omega, show ¬ op = (55 : Int) by omega, show ¬ op = (58 : Int) by omega, show ¬ op = (59 : Int) by omega, show ¬ op = (60 : Int) by omega, show ¬ op = (61 : Int) by omega, show ¬ op = (62 : Int) by omega]
theorem strOf_byt (l : List Int) : strOf (byt l) = some (l.map fun n => UInt8.ofNat n.toNat) := by
  induction l with
  | nil => rfl
  | cons a l ih =>
    show strOf.strOf1 (.int .u8 a) (strOf (byt l)) = _
    rw [ih]
    rfl
end Go.Proofs.YtklnkkejkeelaaaDoor.E
