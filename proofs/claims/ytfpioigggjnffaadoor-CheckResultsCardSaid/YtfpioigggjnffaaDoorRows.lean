/-
  NARROWER THAN 'FOR EVERY INPUT', by the rows' own cells (each row's printed sentence says how): CheckLeaves: laid · CheckMore: laid · CheckCuts: laid · CheckResults: laid.
  DERIVED. THE GIVEN ROWS OF THIS SEAT. 4 by the template 'for every input the law returns true; each argument reads behind the call as it read before'; 0 by the template 'total and deterministic' (their statements: YtfpioigggjnffaaDoorTotals.lean).
  GIVEN WITH THE SEED: the statements are not yours to turn. If you find one false, say at which input.
  Laid BY PROGRAM, IN A SANDBOX (cutbox-rows.mjs): the forced cells as the released guide's own fill.sh prints them over the translation b406e24c41c508c8… (all of the seat's roots in one cut). By AI agents, Wed Nov 11 2026. No macro, syntax, notation, axiom, sorry.
-/
import Derived.Test.YtfpioigggjnffaaDoorChecked
import GoSem.Claim
import GoSem.ClaimJoined
import GoSem.ClaimMapViews
import Derived.JoinedTies
import Derived.KernelRfl
namespace Go.Proofs.YtfpioigggjnffaaDoor
/- THE CELL 'sum', in the pinned program and in every row, IS THE sha256 OF THE DUMP (.gsa) THAT YtfpioigggjnffaaDoorProg.lean LOADS. Nothing in Lean hashes anything: it is a label: what it is worth is what the hold of that sum in a sandbox is worth. -/
noncomputable def Tryd.pinned : Pinned := { name := "ytfpioigggjnffaadoor", sum := "b406e24c41c508c8d0727a3696bb2628be3ef8a01f4fa993797c4b56595fba89", checked := Tryd.checked }
namespace Rows
def none {H : Type} : Left H := { results := [], args := [] }

/- WHAT THE LISTED PACKAGE-LEVEL VARIABLES READ AS WHEN THE CALL BEGINS. Each datum BY PROGRAM (the guide's laid-datum.mjs) off the statement by which the dump's own 'gosem.cut.vars' lays the variable. In a bare row this is a premise. The card (YtfpioigggjnffaaDoorCards.lean) ties it to the program's text. -/
def laid_avocet_instr_spans {H : Type} : DataW H := .agg [.agg [.lit (.int .i64 0), .lit (.int .i64 1), .lit (.int .i64 1)], .agg [.lit (.int .i64 2), .lit (.int .i64 4), .lit (.int .i64 2)], .agg [.lit (.int .i64 5), .lit (.int .i64 5), .lit (.int .i64 1)], .agg [.lit (.int .i64 11), .lit (.int .i64 11), .lit (.int .i64 1)], .agg [.lit (.int .i64 12), .lit (.int .i64 13), .lit (.int .i64 3)], .agg [.lit (.int .i64 14), .lit (.int .i64 14), .lit (.int .i64 4)], .agg [.lit (.int .i64 15), .lit (.int .i64 15), .lit (.int .i64 1)], .agg [.lit (.int .i64 16), .lit (.int .i64 16), .lit (.int .i64 3)], .agg [.lit (.int .i64 17), .lit (.int .i64 17), .lit (.int .i64 5)], .agg [.lit (.int .i64 26), .lit (.int .i64 27), .lit (.int .i64 1)], .agg [.lit (.int .i64 32), .lit (.int .i64 36), .lit (.int .i64 3)], .agg [.lit (.int .i64 40), .lit (.int .i64 41), .lit (.int .i64 6)], .agg [.lit (.int .i64 44), .lit (.int .i64 55), .lit (.int .i64 6)], .agg [.lit (.int .i64 58), .lit (.int .i64 62), .lit (.int .i64 6)], .agg [.lit (.int .i64 63), .lit (.int .i64 64), .lit (.int .i64 7)], .agg [.lit (.int .i64 65), .lit (.int .i64 65), .lit (.int .i64 8)], .agg [.lit (.int .i64 66), .lit (.int .i64 66), .lit (.int .i64 9)], .agg [.lit (.int .i64 69), .lit (.int .i64 90), .lit (.int .i64 1)], .agg [.lit (.int .i64 103), .lit (.int .i64 138), .lit (.int .i64 1)], .agg [.lit (.int .i64 167), .lit (.int .i64 167), .lit (.int .i64 1)], .agg [.lit (.int .i64 172), .lit (.int .i64 173), .lit (.int .i64 1)]]
def laid_avocet_instr_rows {H : Type} : DataW H := .agg [.agg [.lit (.int .u8 127), .lit (.int .i64 4), .lit (.bool false), .lit (.bool false)], .agg [.lit (.int .u8 126), .lit (.int .i64 8), .lit (.bool false), .lit (.bool false)], .agg [.lit (.int .u8 0), .lit (.int .i64 0), .lit (.bool false), .lit (.bool false)], .agg [.lit (.int .u8 0), .lit (.int .i64 0), .lit (.bool false), .lit (.bool false)], .agg [.lit (.int .u8 127), .lit (.int .i64 1), .lit (.bool true), .lit (.bool false)], .agg [.lit (.int .u8 127), .lit (.int .i64 1), .lit (.bool false), .lit (.bool false)], .agg [.lit (.int .u8 127), .lit (.int .i64 2), .lit (.bool true), .lit (.bool false)], .agg [.lit (.int .u8 127), .lit (.int .i64 2), .lit (.bool false), .lit (.bool false)], .agg [.lit (.int .u8 126), .lit (.int .i64 1), .lit (.bool true), .lit (.bool false)], .agg [.lit (.int .u8 126), .lit (.int .i64 1), .lit (.bool false), .lit (.bool false)], .agg [.lit (.int .u8 126), .lit (.int .i64 2), .lit (.bool true), .lit (.bool false)], .agg [.lit (.int .u8 126), .lit (.int .i64 2), .lit (.bool false), .lit (.bool false)], .agg [.lit (.int .u8 126), .lit (.int .i64 4), .lit (.bool true), .lit (.bool false)], .agg [.lit (.int .u8 126), .lit (.int .i64 4), .lit (.bool false), .lit (.bool false)], .agg [.lit (.int .u8 127), .lit (.int .i64 4), .lit (.bool false), .lit (.bool true)], .agg [.lit (.int .u8 126), .lit (.int .i64 8), .lit (.bool false), .lit (.bool true)], .agg [.lit (.int .u8 0), .lit (.int .i64 0), .lit (.bool false), .lit (.bool false)], .agg [.lit (.int .u8 0), .lit (.int .i64 0), .lit (.bool false), .lit (.bool false)], .agg [.lit (.int .u8 127), .lit (.int .i64 1), .lit (.bool false), .lit (.bool true)], .agg [.lit (.int .u8 127), .lit (.int .i64 2), .lit (.bool false), .lit (.bool true)], .agg [.lit (.int .u8 126), .lit (.int .i64 1), .lit (.bool false), .lit (.bool true)], .agg [.lit (.int .u8 126), .lit (.int .i64 2), .lit (.bool false), .lit (.bool true)], .agg [.lit (.int .u8 126), .lit (.int .i64 4), .lit (.bool false), .lit (.bool true)]]

/-- 'avocetlaw10.CheckLeaves': WHATEVER THE INPUT: true; the input reads as it did. -/
def checkLeavesSpec : ChangeSpec := { name := "checkLeaves", fn := fun _ => fun
  | [d1, d2] => { results := [.lit (.bool true)], args := [d1, d2] }
  | _ => none }
def checkLeavesRow : OpenClaim := { program := "ytfpioigggjnffaadoor", sum := "b406e24c41c508c8d0727a3696bb2628be3ef8a01f4fa993797c4b56595fba89", func := "avocet/avocetlaw10.CheckLeaves", spec := "checkLeaves", unfollowed := true, recurses := true, named := ["avocet/instr.spans", "avocet/instr.rows"], apart := false, laid := [("avocet/instr.spans", laid_avocet_instr_spans), ("avocet/instr.rows", laid_avocet_instr_rows)] }
def CheckLeavesSaid : Prop := checkLeavesRow.holds Tryd.pinned (OpenSpec.ofChange checkLeavesSpec)

/-- ITS FALSE NEIGHBOUR: 'it returns false'. Refute it at one input. -/
def checkLeavesWrong : ChangeSpec := { name := "checkLeaves", fn := fun _ => fun
  | [d1, d2] => { results := [.lit (.bool false)], args := [d1, d2] }
  | _ => none }
def CheckLeavesWrongFalsely : Prop := checkLeavesRow.holds Tryd.pinned (OpenSpec.ofChange checkLeavesWrong)

/-- 'avocetlaw10.CheckMore': WHATEVER THE INPUT: true; the input reads as it did. -/
def checkMoreSpec : ChangeSpec := { name := "checkMore", fn := fun _ => fun
  | [d1, d2, d3] => { results := [.lit (.bool true)], args := [d1, d2, d3] }
  | _ => none }
def checkMoreRow : OpenClaim := { program := "ytfpioigggjnffaadoor", sum := "b406e24c41c508c8d0727a3696bb2628be3ef8a01f4fa993797c4b56595fba89", func := "avocet/avocetlaw10.CheckMore", spec := "checkMore", unfollowed := true, recurses := true, named := ["avocet/instr.spans", "avocet/instr.rows"], apart := false, laid := [("avocet/instr.spans", laid_avocet_instr_spans), ("avocet/instr.rows", laid_avocet_instr_rows)] }
def CheckMoreSaid : Prop := checkMoreRow.holds Tryd.pinned (OpenSpec.ofChange checkMoreSpec)

/-- ITS FALSE NEIGHBOUR: 'it returns false'. Refute it at one input. -/
def checkMoreWrong : ChangeSpec := { name := "checkMore", fn := fun _ => fun
  | [d1, d2, d3] => { results := [.lit (.bool false)], args := [d1, d2, d3] }
  | _ => none }
def CheckMoreWrongFalsely : Prop := checkMoreRow.holds Tryd.pinned (OpenSpec.ofChange checkMoreWrong)

/-- 'avocetlaw10.CheckCuts': WHATEVER THE INPUT: true; the input reads as it did. -/
def checkCutsSpec : ChangeSpec := { name := "checkCuts", fn := fun _ => fun
  | [d1, d2, d3] => { results := [.lit (.bool true)], args := [d1, d2, d3] }
  | _ => none }
def checkCutsRow : OpenClaim := { program := "ytfpioigggjnffaadoor", sum := "b406e24c41c508c8d0727a3696bb2628be3ef8a01f4fa993797c4b56595fba89", func := "avocet/avocetlaw10.CheckCuts", spec := "checkCuts", unfollowed := true, recurses := true, named := ["avocet/instr.spans", "avocet/instr.rows"], apart := false, laid := [("avocet/instr.spans", laid_avocet_instr_spans), ("avocet/instr.rows", laid_avocet_instr_rows)] }
def CheckCutsSaid : Prop := checkCutsRow.holds Tryd.pinned (OpenSpec.ofChange checkCutsSpec)

/-- ITS FALSE NEIGHBOUR: 'it returns false'. Refute it at one input. -/
def checkCutsWrong : ChangeSpec := { name := "checkCuts", fn := fun _ => fun
  | [d1, d2, d3] => { results := [.lit (.bool false)], args := [d1, d2, d3] }
  | _ => none }
def CheckCutsWrongFalsely : Prop := checkCutsRow.holds Tryd.pinned (OpenSpec.ofChange checkCutsWrong)

/-- 'avocetlaw10.CheckResults': WHATEVER THE INPUT: true; the input reads as it did. -/
def checkResultsSpec : ChangeSpec := { name := "checkResults", fn := fun _ => fun
  | [d1, d2] => { results := [.lit (.bool true)], args := [d1, d2] }
  | _ => none }
def checkResultsRow : OpenClaim := { program := "ytfpioigggjnffaadoor", sum := "b406e24c41c508c8d0727a3696bb2628be3ef8a01f4fa993797c4b56595fba89", func := "avocet/avocetlaw10.CheckResults", spec := "checkResults", unfollowed := true, recurses := true, named := ["avocet/instr.spans", "avocet/instr.rows"], apart := false, laid := [("avocet/instr.spans", laid_avocet_instr_spans), ("avocet/instr.rows", laid_avocet_instr_rows)] }
def CheckResultsSaid : Prop := checkResultsRow.holds Tryd.pinned (OpenSpec.ofChange checkResultsSpec)

/-- ITS FALSE NEIGHBOUR: 'it returns false'. Refute it at one input. -/
def checkResultsWrong : ChangeSpec := { name := "checkResults", fn := fun _ => fun
  | [d1, d2] => { results := [.lit (.bool false)], args := [d1, d2] }
  | _ => none }
def CheckResultsWrongFalsely : Prop := checkResultsRow.holds Tryd.pinned (OpenSpec.ofChange checkResultsWrong)

/- THE SECOND FORM. 'bulk': how many values and letters a reading holds, each counted each time it is reached (what is shared counts as often as it is met; a slice's spare places count too). A statement '..UptoSaid' is the law's where the arguments, and the package variables that the reading takes, are together of bulk at most 1048576: NARROWER than '..Said'. Prove '..Said' where nothing that the law and all that it calls make is longer than what came in: it says more and counts as full. Else prove '..UptoSaid'. A law counts once. -/
mutual
def uptoBulk {H : Type} : DataW H → Nat
  | .lit (.string bytes) => bytes.length + 1
  | .lit _ => 1
  | .nil => 1
  | .ptr d => uptoBulk d + 1
  | .slice elems spare => uptoBulkAll elems + uptoBulkAll spare + 1
  | .agg parts => uptoBulkAll parts + 1
  | .iface _ d => uptoBulk d + 1
  | .map entries => uptoBulkEntries entries + 1
  | .held _ => 1
def uptoBulkAll {H : Type} : List (DataW H) → Nat
  | [] => 0
  | d :: r => uptoBulk d + uptoBulkAll r
def uptoBulkEntries {H : Type} : List (Lit × DataW H) → Nat
  | [] => 0
  | x :: r => uptoBulkEntry x + uptoBulkEntries r
def uptoBulkEntry {H : Type} : Lit × DataW H → Nat
  | (.string bytes, d) => bytes.length + uptoBulk d + 1
  | (_, d) => uptoBulk d + 1
 end
def uptoSmall : (H : Type) → List (DataW H) → Bool := fun _ ds => decide (uptoBulkAll ds ≤ 1048576)
def OpenSpec.upto (s : _root_.Go.ChangeSpec) : _root_.Go.OpenSpec := { _root_.Go.OpenSpec.ofChange s with cond := some uptoSmall }

/-- 'avocetlaw10.CheckLeaves', WHERE WHAT IT READS IS OF BULK AT MOST 1048576: true; the input reads as it did. -/
def checkLeavesUptoRow : OpenClaim := { program := "ytfpioigggjnffaadoor", sum := "b406e24c41c508c8d0727a3696bb2628be3ef8a01f4fa993797c4b56595fba89", func := "avocet/avocetlaw10.CheckLeaves", spec := "checkLeaves", unfollowed := true, recurses := true, named := ["avocet/instr.spans", "avocet/instr.rows"], apart := false, laid := [("avocet/instr.spans", laid_avocet_instr_spans), ("avocet/instr.rows", laid_avocet_instr_rows)], narrowed := true }
def CheckLeavesUptoSaid : Prop := checkLeavesUptoRow.holds Tryd.pinned (OpenSpec.upto checkLeavesSpec)

/-- 'avocetlaw10.CheckMore', WHERE WHAT IT READS IS OF BULK AT MOST 1048576: true; the input reads as it did. -/
def checkMoreUptoRow : OpenClaim := { program := "ytfpioigggjnffaadoor", sum := "b406e24c41c508c8d0727a3696bb2628be3ef8a01f4fa993797c4b56595fba89", func := "avocet/avocetlaw10.CheckMore", spec := "checkMore", unfollowed := true, recurses := true, named := ["avocet/instr.spans", "avocet/instr.rows"], apart := false, laid := [("avocet/instr.spans", laid_avocet_instr_spans), ("avocet/instr.rows", laid_avocet_instr_rows)], narrowed := true }
def CheckMoreUptoSaid : Prop := checkMoreUptoRow.holds Tryd.pinned (OpenSpec.upto checkMoreSpec)

/-- 'avocetlaw10.CheckCuts', WHERE WHAT IT READS IS OF BULK AT MOST 1048576: true; the input reads as it did. -/
def checkCutsUptoRow : OpenClaim := { program := "ytfpioigggjnffaadoor", sum := "b406e24c41c508c8d0727a3696bb2628be3ef8a01f4fa993797c4b56595fba89", func := "avocet/avocetlaw10.CheckCuts", spec := "checkCuts", unfollowed := true, recurses := true, named := ["avocet/instr.spans", "avocet/instr.rows"], apart := false, laid := [("avocet/instr.spans", laid_avocet_instr_spans), ("avocet/instr.rows", laid_avocet_instr_rows)], narrowed := true }
def CheckCutsUptoSaid : Prop := checkCutsUptoRow.holds Tryd.pinned (OpenSpec.upto checkCutsSpec)

/-- 'avocetlaw10.CheckResults', WHERE WHAT IT READS IS OF BULK AT MOST 1048576: true; the input reads as it did. -/
def checkResultsUptoRow : OpenClaim := { program := "ytfpioigggjnffaadoor", sum := "b406e24c41c508c8d0727a3696bb2628be3ef8a01f4fa993797c4b56595fba89", func := "avocet/avocetlaw10.CheckResults", spec := "checkResults", unfollowed := true, recurses := true, named := ["avocet/instr.spans", "avocet/instr.rows"], apart := false, laid := [("avocet/instr.spans", laid_avocet_instr_spans), ("avocet/instr.rows", laid_avocet_instr_rows)], narrowed := true }
def CheckResultsUptoSaid : Prop := checkResultsUptoRow.holds Tryd.pinned (OpenSpec.upto checkResultsSpec)

end Rows
end Go.Proofs.YtfpioigggjnffaaDoor
