/- THE PURE LAW of InstrOps: each operator is a code with nothing behind it; accesses have sizes. No condition. -/
import Derived.Test.YtklnkkejkeelaaaDoorXx20
import Derived.KernelRfl
namespace Go.Proofs.YtklnkkejkeelaaaDoor.X
open Go.RowKit Go.Proofs.YtklnkkejkeelaaaDoorW.PrintWords Go.Proofs.YtklnkkejkeelaaaDoorW.PrintLast Go.Proofs.YtklnkkejkeelaaaDoorW.PrintMore
theorem awake05 : avocetlaw05_awake.f 30 = some true := by kernel_rfl
theorem InstrOps.inside : (List.range 174).all (fun n => avocetlaw05_InstrOps.f 30 (n : Int) == some true) = true := by kernel_rfl
theorem kind_out (x : Int) (h : x < 0 ∨ 173 < x) : instr_Kind.from spansL x = 0 := by
  simp only [instr_Kind.from, spansL]
  repeat rw [if_neg (by omega)]
theorem shape_out (x : Int) (h : x < 0 ∨ 173 < x) : ints_Shape.f x = some ([], 0, false) := by
  have hw : ∀ a b : Int, 0 ≤ a → b ≤ 173 → ints_within.f x a b = some false := fun a b ha hb => by
    unfold ints_within.f
    by_cases h1 : x ≥ a
    · rw [if_pos h1, decide_eq_false (by omega)]
    · rw [if_neg h1]
  unfold ints_Shape.f
  simp only [hw, Int.reduceLE, Option.bind_some, Bool.false_eq_true, if_false]
  repeat rw [if_neg (by omega)]
theorem access_out (x : Int) (h : x < 40 ∨ 63 ≤ x) : instr_Access.f x = some (0, 0, false, false) := by
  unfold instr_Access.f instr_Access.of
  rw [if_pos h]
theorem InstrOps.pure (a0 : Int) (_ : (Lit.int .i64 a0).wf = true) : ∃ k, avocetlaw05_InstrOps.f k a0 = some true := by
  refine ⟨30, ?_⟩
  by_cases h : a0 < 0 ∨ 173 < a0
  · unfold avocetlaw05_InstrOps.f
    rw [awake05, access_out a0 (by omega), shape_out a0 h]
    unfold instr_Kind.f
    rw [kind_out a0 h]
    rfl
  · have h1 := List.all_eq_true.1 InstrOps.inside a0.toNat (by simp; omega)
    rw [Int.toNat_of_nonneg (by omega)] at h1
    simpa using h1
end Go.Proofs.YtklnkkejkeelaaaDoor.X
