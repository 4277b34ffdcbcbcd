/- PLAIN LAWS: the statements' own guard answers true. No condition; no program's step in it. -/
import Derived.Test.YtklnkkejkeelaaaDoorPBack
import Derived.Test.YtklnkkejkeelaaaDoorXx6
import Derived.Test.YtklnkkejkeelaaaDoorXx9
set_option linter.unusedSimpArgs false
set_option linter.unusedVariables false
namespace Go.Proofs.YtklnkkejkeelaaaDoor.X
open Go.RowKit Go.Proofs.YtklnkkejkeelaaaDoorW.PrintWords Go.Proofs.YtklnkkejkeelaaaDoorW.PrintLast Go.Proofs.YtklnkkejkeelaaaDoorW.PrintMore
theorem awake5 {k : Nat} (hk : 30 ≤ k) : avocetlaw05_awake.f k = some true := at_rounds avocetlaw05_awake.mono hk (by kernel_rfl)
theorem small_eq (i : Ins) : avocetlaw05_small.f i.op i.a i.b i.c i.ls = some (decide ((i.ls.length : Int) ≤ 100)) := rfl
theorem bytes_of {l : List Int} (h : ∀ z ∈ l, (Lit.int .u8 z).wf = true) : Bs l := fun x hx => wf_u8 (h x hx)
end Go.Proofs.YtklnkkejkeelaaaDoor.X
