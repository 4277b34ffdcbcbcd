/- WHAT CAME IN, OPENED: the structs of this seat's laws. Printed by xrow, a tool of this work; no further condition. -/
import Derived.Test.YtklnkkejkeelaaaDoorXShare
import Derived.Test.YtklnkkejkeelaaaDoorXx0
namespace Go.Proofs.YtklnkkejkeelaaaDoor.X
open Go.RowKit Go.Proofs.YtklnkkejkeelaaaDoorW.PrintWords
theorem ho33 : HO k33 := HO_iso (HO_pair HO_int (HO_pair HO_int (HO_pair HO_int (HO_pair HO_int (HO_slice HO_int)))))
def good33 (x : S33) : Prop := (Lit.int .i64 x.f0).wf = true ∧ (Lit.int .i64 x.f1).wf = true ∧ (Lit.int .i64 x.f2).wf = true ∧ (Lit.int .u64 x.f3).wf = true ∧ (x.f4.length ≤ maxLen ∧ ∀ z ∈ x.f4, (Lit.int .i64 z).wf = true)
theorem opens33 : Opens Tryd.prog 33 k33 good33 := by
  intro H enc w base spare held fuel cs y h
  obtain ⟨x, h1, h2⟩ := opens_struct (fun x : S33 => (x.f0, x.f1, x.f2, x.f3, x.f4)) (fun p => (⟨p.1, p.2.1, p.2.2.1, p.2.2.2.1, p.2.2.2.2⟩ : S33)) (fun _ => rfl) Tryd.underlying33 (by kernel_rfl) (opensF_cons 0 rfl (by kernel_rfl) (opens_int Tryd.underlying3) (opensF_cons 1 rfl (by kernel_rfl) (opens_int Tryd.underlying3) (opensF_cons 2 rfl (by kernel_rfl) (opens_int Tryd.underlying3) (opensF_cons 3 rfl (by kernel_rfl) (opens_int Tryd.underlying31) (opensF_last 4 rfl (by kernel_rfl) (opens_slice (d := (Kd.int .i64)) 3 Tryd.underlying28 (by kernel_rfl) (opens_int Tryd.underlying3))))))) H enc w base spare held fuel cs y h
  exact ⟨x, h1, h2⟩
end Go.Proofs.YtklnkkejkeelaaaDoor.X
