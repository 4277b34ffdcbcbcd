/- Instructions are told apart. -/
import Derived.Test.YtklnkkejkeelaaaDoorEvD
set_option linter.unnecessarySimpa false
set_option linter.unusedSimpArgs false
set_option linter.unusedVariables false
set_option autoImplicit false
namespace Go.Proofs.YtklnkkejkeelaaaDoor.E
open Go.Ev
theorem TInstr.ext_iff (x y : TInstr) : (x.op = y.op ∧ x.a = y.a ∧ x.b = y.b ∧ x.k = y.k ∧ x.labels = y.labels) ↔ x = y := by
  constructor
  · cases x; cases y
    simp only
    rintro ⟨rfl, rfl, rfl, rfl, rfl⟩
    rfl
  · rintro rfl
    exact ⟨rfl, rfl, rfl, rfl, rfl⟩
instance : DecidableEq TInstr := fun x y => decidable_of_iff _ (TInstr.ext_iff x y)
end Go.Proofs.YtklnkkejkeelaaaDoor.E
