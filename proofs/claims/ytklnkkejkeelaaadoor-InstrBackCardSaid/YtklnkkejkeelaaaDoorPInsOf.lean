/- PLAIN LAWS of instr: what came in, as an instruction. No condition; no program's step in it. -/
import Derived.Test.YtklnkkejkeelaaaDoorPAwake05
import Derived.Test.YtklnkkejkeelaaaDoorXStr
set_option linter.unusedVariables false
set_option linter.unusedSimpArgs false
namespace Go.Proofs.YtklnkkejkeelaaaDoor.X
open Go.RowKit Go.Proofs.YtklnkkejkeelaaaDoorW.PrintWords Go.Proofs.YtklnkkejkeelaaaDoorW.PrintLast Go.Proofs.YtklnkkejkeelaaaDoorW.PrintMore
/-- What came in, as an instruction. -/
def insOf (x : S33) : Ins := ⟨x.f0, x.f1, x.f2, x.f3, x.f4⟩
theorem cok_of {x : S33} (h : good33 x) : Cok (insOf x) := wf_u64 h.2.2.2.1
end Go.Proofs.YtklnkkejkeelaaaDoor.X
