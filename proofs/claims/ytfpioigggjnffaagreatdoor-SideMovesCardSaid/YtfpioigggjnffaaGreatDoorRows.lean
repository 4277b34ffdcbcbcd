/-
  NARROWER THAN 'FOR EVERY INPUT', by the rows' own cells (each row's printed sentence says how): CheckStep: laid · CheckBody: laid · SideIs: laid · SideOrder: laid · SideLands: laid · SideMoves: laid · SideCounts: laid · SideBack: laid.
  DERIVED. THE GIVEN ROWS OF THIS SEAT. 8 by the template 'for every input the law returns true; each argument reads behind the call as it read before'; 0 by the template 'total and deterministic' (their statements: YtfpioigggjnffaaGreatDoorTotals.lean).
  GIVEN WITH THE SEED: the statements are not yours to turn. If you find one false, say at which input.
  Laid BY PROGRAM, IN A SANDBOX (cutbox-rows.mjs): the forced cells as the released guide's own fill.sh prints them over the translation 40e6849d6095b778… (all of the seat's roots in one cut). By AI agents, Wed Nov 11 2026. No macro, syntax, notation, axiom, sorry.
-/
import Derived.Test.YtfpioigggjnffaaGreatDoorChecked
import GoSem.Claim
import GoSem.ClaimJoined
import GoSem.ClaimMapViews
import Derived.JoinedTies
import Derived.KernelRfl
namespace Go.Proofs.YtfpioigggjnffaaGreatDoor
/- THE CELL 'sum', in the pinned program and in every row, IS THE sha256 OF THE DUMP (.gsa) THAT YtfpioigggjnffaaGreatDoorProg.lean LOADS. Nothing in Lean hashes anything: it is a label: what it is worth is what the hold of that sum in a sandbox is worth. -/
noncomputable def Tryz.pinned : Pinned := { name := "ytfpioigggjnffaagreatdoor", sum := "40e6849d6095b77809ffd59778752058149f8931c385c2eb65699547d1582f0d", checked := Tryz.checked }
namespace Rows
def none {H : Type} : Left H := { results := [], args := [] }

/- WHAT THE LISTED PACKAGE-LEVEL VARIABLES READ AS WHEN THE CALL BEGINS. Each datum BY PROGRAM (the guide's laid-datum.mjs) off the statement by which the dump's own 'gosem.cut.vars' lays the variable. In a bare row this is a premise. The card (YtfpioigggjnffaaGreatDoorCards.lean) ties it to the program's text. -/
def laid_avocet_instr_spans {H : Type} : DataW H := .agg [.agg [.lit (.int .i64 0), .lit (.int .i64 1), .lit (.int .i64 1)], .agg [.lit (.int .i64 2), .lit (.int .i64 4), .lit (.int .i64 2)], .agg [.lit (.int .i64 5), .lit (.int .i64 5), .lit (.int .i64 1)], .agg [.lit (.int .i64 11), .lit (.int .i64 11), .lit (.int .i64 1)], .agg [.lit (.int .i64 12), .lit (.int .i64 13), .lit (.int .i64 3)], .agg [.lit (.int .i64 14), .lit (.int .i64 14), .lit (.int .i64 4)], .agg [.lit (.int .i64 15), .lit (.int .i64 15), .lit (.int .i64 1)], .agg [.lit (.int .i64 16), .lit (.int .i64 16), .lit (.int .i64 3)], .agg [.lit (.int .i64 17), .lit (.int .i64 17), .lit (.int .i64 5)], .agg [.lit (.int .i64 26), .lit (.int .i64 27), .lit (.int .i64 1)], .agg [.lit (.int .i64 32), .lit (.int .i64 36), .lit (.int .i64 3)], .agg [.lit (.int .i64 40), .lit (.int .i64 41), .lit (.int .i64 6)], .agg [.lit (.int .i64 44), .lit (.int .i64 55), .lit (.int .i64 6)], .agg [.lit (.int .i64 58), .lit (.int .i64 62), .lit (.int .i64 6)], .agg [.lit (.int .i64 63), .lit (.int .i64 64), .lit (.int .i64 7)], .agg [.lit (.int .i64 65), .lit (.int .i64 65), .lit (.int .i64 8)], .agg [.lit (.int .i64 66), .lit (.int .i64 66), .lit (.int .i64 9)], .agg [.lit (.int .i64 69), .lit (.int .i64 90), .lit (.int .i64 1)], .agg [.lit (.int .i64 103), .lit (.int .i64 138), .lit (.int .i64 1)], .agg [.lit (.int .i64 167), .lit (.int .i64 167), .lit (.int .i64 1)], .agg [.lit (.int .i64 172), .lit (.int .i64 173), .lit (.int .i64 1)]]
def laid_avocet_instr_rows {H : Type} : DataW H := .agg [.agg [.lit (.int .u8 127), .lit (.int .i64 4), .lit (.bool false), .lit (.bool false)], .agg [.lit (.int .u8 126), .lit (.int .i64 8), .lit (.bool false), .lit (.bool false)], .agg [.lit (.int .u8 0), .lit (.int .i64 0), .lit (.bool false), .lit (.bool false)], .agg [.lit (.int .u8 0), .lit (.int .i64 0), .lit (.bool false), .lit (.bool false)], .agg [.lit (.int .u8 127), .lit (.int .i64 1), .lit (.bool true), .lit (.bool false)], .agg [.lit (.int .u8 127), .lit (.int .i64 1), .lit (.bool false), .lit (.bool false)], .agg [.lit (.int .u8 127), .lit (.int .i64 2), .lit (.bool true), .lit (.bool false)], .agg [.lit (.int .u8 127), .lit (.int .i64 2), .lit (.bool false), .lit (.bool false)], .agg [.lit (.int .u8 126), .lit (.int .i64 1), .lit (.bool true), .lit (.bool false)], .agg [.lit (.int .u8 126), .lit (.int .i64 1), .lit (.bool false), .lit (.bool false)], .agg [.lit (.int .u8 126), .lit (.int .i64 2), .lit (.bool true), .lit (.bool false)], .agg [.lit (.int .u8 126), .lit (.int .i64 2), .lit (.bool false), .lit (.bool false)], .agg [.lit (.int .u8 126), .lit (.int .i64 4), .lit (.bool true), .lit (.bool false)], .agg [.lit (.int .u8 126), .lit (.int .i64 4), .lit (.bool false), .lit (.bool false)], .agg [.lit (.int .u8 127), .lit (.int .i64 4), .lit (.bool false), .lit (.bool true)], .agg [.lit (.int .u8 126), .lit (.int .i64 8), .lit (.bool false), .lit (.bool true)], .agg [.lit (.int .u8 0), .lit (.int .i64 0), .lit (.bool false), .lit (.bool false)], .agg [.lit (.int .u8 0), .lit (.int .i64 0), .lit (.bool false), .lit (.bool false)], .agg [.lit (.int .u8 127), .lit (.int .i64 1), .lit (.bool false), .lit (.bool true)], .agg [.lit (.int .u8 127), .lit (.int .i64 2), .lit (.bool false), .lit (.bool true)], .agg [.lit (.int .u8 126), .lit (.int .i64 1), .lit (.bool false), .lit (.bool true)], .agg [.lit (.int .u8 126), .lit (.int .i64 2), .lit (.bool false), .lit (.bool true)], .agg [.lit (.int .u8 126), .lit (.int .i64 4), .lit (.bool false), .lit (.bool true)]]

/-- 'avocetlaw10.CheckStep': WHATEVER THE INPUT: true; the input reads as it did. -/
def checkStepSpec : ChangeSpec := { name := "checkStep", fn := fun _ => fun
  | [d1, d2, d3, d4] => { results := [.lit (.bool true)], args := [d1, d2, d3, d4] }
  | _ => none }
def checkStepRow : OpenClaim := { program := "ytfpioigggjnffaagreatdoor", sum := "40e6849d6095b77809ffd59778752058149f8931c385c2eb65699547d1582f0d", func := "avocet/avocetlaw10.CheckStep", spec := "checkStep", unfollowed := true, recurses := true, named := ["avocet/instr.spans", "avocet/instr.rows"], apart := false, laid := [("avocet/instr.spans", laid_avocet_instr_spans), ("avocet/instr.rows", laid_avocet_instr_rows)] }
def CheckStepSaid : Prop := checkStepRow.holds Tryz.pinned (OpenSpec.ofChange checkStepSpec)

/-- ITS FALSE NEIGHBOUR: 'it returns false'. Refute it at one input. -/
def checkStepWrong : ChangeSpec := { name := "checkStep", fn := fun _ => fun
  | [d1, d2, d3, d4] => { results := [.lit (.bool false)], args := [d1, d2, d3, d4] }
  | _ => none }
def CheckStepWrongFalsely : Prop := checkStepRow.holds Tryz.pinned (OpenSpec.ofChange checkStepWrong)

/-- 'avocetlaw10.CheckBody': WHATEVER THE INPUT: true; the input reads as it did. -/
def checkBodySpec : ChangeSpec := { name := "checkBody", fn := fun _ => fun
  | [d1, d2] => { results := [.lit (.bool true)], args := [d1, d2] }
  | _ => none }
def checkBodyRow : OpenClaim := { program := "ytfpioigggjnffaagreatdoor", sum := "40e6849d6095b77809ffd59778752058149f8931c385c2eb65699547d1582f0d", func := "avocet/avocetlaw10.CheckBody", spec := "checkBody", unfollowed := true, recurses := true, named := ["avocet/instr.spans", "avocet/instr.rows"], apart := false, laid := [("avocet/instr.spans", laid_avocet_instr_spans), ("avocet/instr.rows", laid_avocet_instr_rows)] }
def CheckBodySaid : Prop := checkBodyRow.holds Tryz.pinned (OpenSpec.ofChange checkBodySpec)

/-- ITS FALSE NEIGHBOUR: 'it returns false'. Refute it at one input. -/
def checkBodyWrong : ChangeSpec := { name := "checkBody", fn := fun _ => fun
  | [d1, d2] => { results := [.lit (.bool false)], args := [d1, d2] }
  | _ => none }
def CheckBodyWrongFalsely : Prop := checkBodyRow.holds Tryz.pinned (OpenSpec.ofChange checkBodyWrong)

/-- 'avocetlaw12.SideIs': WHATEVER THE INPUT: true; the input reads as it did. -/
def sideIsSpec : ChangeSpec := { name := "sideIs", fn := fun _ => fun
  | [d1, d2, d3, d4, d5] => { results := [.lit (.bool true)], args := [d1, d2, d3, d4, d5] }
  | _ => none }
def sideIsRow : OpenClaim := { program := "ytfpioigggjnffaagreatdoor", sum := "40e6849d6095b77809ffd59778752058149f8931c385c2eb65699547d1582f0d", func := "avocet/avocetlaw12.SideIs", spec := "sideIs", inPlace := ["internal/reflectlite.ValueOf", "internal/reflectlite.Swapper", "(internal/reflectlite.Value).Len"], unfollowed := true, recurses := true, named := ["avocet/instr.spans", "avocet/instr.rows"], apart := false, laid := [("avocet/instr.spans", laid_avocet_instr_spans), ("avocet/instr.rows", laid_avocet_instr_rows)] }
def SideIsSaid : Prop := sideIsRow.holds Tryz.pinned (OpenSpec.ofChange sideIsSpec)

/-- ITS FALSE NEIGHBOUR: 'it returns false'. Refute it at one input. -/
def sideIsWrong : ChangeSpec := { name := "sideIs", fn := fun _ => fun
  | [d1, d2, d3, d4, d5] => { results := [.lit (.bool false)], args := [d1, d2, d3, d4, d5] }
  | _ => none }
def SideIsWrongFalsely : Prop := sideIsRow.holds Tryz.pinned (OpenSpec.ofChange sideIsWrong)

/-- 'avocetlaw12.SideOrder': WHATEVER THE INPUT: true; the input reads as it did. -/
def sideOrderSpec : ChangeSpec := { name := "sideOrder", fn := fun _ => fun
  | [d] => { results := [.lit (.bool true)], args := [d] }
  | _ => none }
def sideOrderRow : OpenClaim := { program := "ytfpioigggjnffaagreatdoor", sum := "40e6849d6095b77809ffd59778752058149f8931c385c2eb65699547d1582f0d", func := "avocet/avocetlaw12.SideOrder", spec := "sideOrder", inPlace := ["internal/reflectlite.ValueOf", "internal/reflectlite.Swapper", "(internal/reflectlite.Value).Len"], unfollowed := true, recurses := true, named := ["avocet/instr.spans", "avocet/instr.rows"], apart := false, laid := [("avocet/instr.spans", laid_avocet_instr_spans), ("avocet/instr.rows", laid_avocet_instr_rows)] }
def SideOrderSaid : Prop := sideOrderRow.holds Tryz.pinned (OpenSpec.ofChange sideOrderSpec)

/-- ITS FALSE NEIGHBOUR: 'it returns false'. Refute it at one input. -/
def sideOrderWrong : ChangeSpec := { name := "sideOrder", fn := fun _ => fun
  | [d] => { results := [.lit (.bool false)], args := [d] }
  | _ => none }
def SideOrderWrongFalsely : Prop := sideOrderRow.holds Tryz.pinned (OpenSpec.ofChange sideOrderWrong)

/-- 'avocetlaw12.SideLands': WHATEVER THE INPUT: true; the input reads as it did. -/
def sideLandsSpec : ChangeSpec := { name := "sideLands", fn := fun _ => fun
  | [d1, d2, d3] => { results := [.lit (.bool true)], args := [d1, d2, d3] }
  | _ => none }
def sideLandsRow : OpenClaim := { program := "ytfpioigggjnffaagreatdoor", sum := "40e6849d6095b77809ffd59778752058149f8931c385c2eb65699547d1582f0d", func := "avocet/avocetlaw12.SideLands", spec := "sideLands", inPlace := ["internal/reflectlite.ValueOf", "internal/reflectlite.Swapper", "(internal/reflectlite.Value).Len"], unfollowed := true, recurses := true, named := ["avocet/instr.spans", "avocet/instr.rows"], apart := false, laid := [("avocet/instr.spans", laid_avocet_instr_spans), ("avocet/instr.rows", laid_avocet_instr_rows)] }
def SideLandsSaid : Prop := sideLandsRow.holds Tryz.pinned (OpenSpec.ofChange sideLandsSpec)

/-- ITS FALSE NEIGHBOUR: 'it returns false'. Refute it at one input. -/
def sideLandsWrong : ChangeSpec := { name := "sideLands", fn := fun _ => fun
  | [d1, d2, d3] => { results := [.lit (.bool false)], args := [d1, d2, d3] }
  | _ => none }
def SideLandsWrongFalsely : Prop := sideLandsRow.holds Tryz.pinned (OpenSpec.ofChange sideLandsWrong)

/-- 'avocetlaw12.SideMoves': WHATEVER THE INPUT: true; the input reads as it did. -/
def sideMovesSpec : ChangeSpec := { name := "sideMoves", fn := fun _ => fun
  | [d1, d2, d3] => { results := [.lit (.bool true)], args := [d1, d2, d3] }
  | _ => none }
def sideMovesRow : OpenClaim := { program := "ytfpioigggjnffaagreatdoor", sum := "40e6849d6095b77809ffd59778752058149f8931c385c2eb65699547d1582f0d", func := "avocet/avocetlaw12.SideMoves", spec := "sideMoves", inPlace := ["internal/reflectlite.ValueOf", "internal/reflectlite.Swapper", "(internal/reflectlite.Value).Len"], unfollowed := true, recurses := true, named := ["avocet/instr.spans", "avocet/instr.rows"], apart := false, laid := [("avocet/instr.spans", laid_avocet_instr_spans), ("avocet/instr.rows", laid_avocet_instr_rows)] }
def SideMovesSaid : Prop := sideMovesRow.holds Tryz.pinned (OpenSpec.ofChange sideMovesSpec)

/-- ITS FALSE NEIGHBOUR: 'it returns false'. Refute it at one input. -/
def sideMovesWrong : ChangeSpec := { name := "sideMoves", fn := fun _ => fun
  | [d1, d2, d3] => { results := [.lit (.bool false)], args := [d1, d2, d3] }
  | _ => none }
def SideMovesWrongFalsely : Prop := sideMovesRow.holds Tryz.pinned (OpenSpec.ofChange sideMovesWrong)

/-- 'avocetlaw12.SideCounts': WHATEVER THE INPUT: true; the input reads as it did. -/
def sideCountsSpec : ChangeSpec := { name := "sideCounts", fn := fun _ => fun
  | [d1, d2] => { results := [.lit (.bool true)], args := [d1, d2] }
  | _ => none }
def sideCountsRow : OpenClaim := { program := "ytfpioigggjnffaagreatdoor", sum := "40e6849d6095b77809ffd59778752058149f8931c385c2eb65699547d1582f0d", func := "avocet/avocetlaw12.SideCounts", spec := "sideCounts", inPlace := ["internal/reflectlite.ValueOf", "internal/reflectlite.Swapper", "(internal/reflectlite.Value).Len"], unfollowed := true, recurses := true, named := ["avocet/instr.spans", "avocet/instr.rows"], apart := false, laid := [("avocet/instr.spans", laid_avocet_instr_spans), ("avocet/instr.rows", laid_avocet_instr_rows)] }
def SideCountsSaid : Prop := sideCountsRow.holds Tryz.pinned (OpenSpec.ofChange sideCountsSpec)

/-- ITS FALSE NEIGHBOUR: 'it returns false'. Refute it at one input. -/
def sideCountsWrong : ChangeSpec := { name := "sideCounts", fn := fun _ => fun
  | [d1, d2] => { results := [.lit (.bool false)], args := [d1, d2] }
  | _ => none }
def SideCountsWrongFalsely : Prop := sideCountsRow.holds Tryz.pinned (OpenSpec.ofChange sideCountsWrong)

/-- 'avocetlaw12.SideBack': WHATEVER THE INPUT: true; the input reads as it did. -/
def sideBackSpec : ChangeSpec := { name := "sideBack", fn := fun _ => fun
  | [d1, d2] => { results := [.lit (.bool true)], args := [d1, d2] }
  | _ => none }
def sideBackRow : OpenClaim := { program := "ytfpioigggjnffaagreatdoor", sum := "40e6849d6095b77809ffd59778752058149f8931c385c2eb65699547d1582f0d", func := "avocet/avocetlaw12.SideBack", spec := "sideBack", inPlace := ["internal/reflectlite.ValueOf", "internal/reflectlite.Swapper", "(internal/reflectlite.Value).Len"], unfollowed := true, recurses := true, named := ["avocet/instr.spans", "avocet/instr.rows"], apart := false, laid := [("avocet/instr.spans", laid_avocet_instr_spans), ("avocet/instr.rows", laid_avocet_instr_rows)] }
def SideBackSaid : Prop := sideBackRow.holds Tryz.pinned (OpenSpec.ofChange sideBackSpec)

/-- ITS FALSE NEIGHBOUR: 'it returns false'. Refute it at one input. -/
def sideBackWrong : ChangeSpec := { name := "sideBack", fn := fun _ => fun
  | [d1, d2] => { results := [.lit (.bool false)], args := [d1, d2] }
  | _ => none }
def SideBackWrongFalsely : Prop := sideBackRow.holds Tryz.pinned (OpenSpec.ofChange sideBackWrong)

/- THE SECOND FORM. 'bulk': how many values and letters a reading holds, each counted each time it is reached (what is shared counts as often as it is met; a slice's spare places count too). A statement '..UptoSaid' is the law's where the arguments, and the package variables that the reading takes, are together of bulk at most 1048576: NARROWER than '..Said'. Prove '..Said' where nothing that the law and all that it calls make is longer than what came in: it says more and counts as full. Else prove '..UptoSaid'. A law counts once. -/
mutual
def uptoBulk {H : Type} : DataW H → Nat
  | .lit (.string bytes) => bytes.length + 1
  | .lit _ => 1
  | .nil => 1
  | .ptr d => uptoBulk d + 1
  | .slice elems spare => uptoBulkAll elems + uptoBulkAll spare + 1
  | .agg parts => uptoBulkAll parts + 1
  | .iface _ d => uptoBulk d + 1
  | .map entries => uptoBulkEntries entries + 1
  | .held _ => 1
def uptoBulkAll {H : Type} : List (DataW H) → Nat
  | [] => 0
  | d :: r => uptoBulk d + uptoBulkAll r
def uptoBulkEntries {H : Type} : List (Lit × DataW H) → Nat
  | [] => 0
  | x :: r => uptoBulkEntry x + uptoBulkEntries r
def uptoBulkEntry {H : Type} : Lit × DataW H → Nat
  | (.string bytes, d) => bytes.length + uptoBulk d + 1
  | (_, d) => uptoBulk d + 1
 end
def uptoSmall : (H : Type) → List (DataW H) → Bool := fun _ ds => decide (uptoBulkAll ds ≤ 1048576)
def OpenSpec.upto (s : _root_.Go.ChangeSpec) : _root_.Go.OpenSpec := { _root_.Go.OpenSpec.ofChange s with cond := some uptoSmall }

/-- 'avocetlaw10.CheckStep', WHERE WHAT IT READS IS OF BULK AT MOST 1048576: true; the input reads as it did. -/
def checkStepUptoRow : OpenClaim := { program := "ytfpioigggjnffaagreatdoor", sum := "40e6849d6095b77809ffd59778752058149f8931c385c2eb65699547d1582f0d", func := "avocet/avocetlaw10.CheckStep", spec := "checkStep", unfollowed := true, recurses := true, named := ["avocet/instr.spans", "avocet/instr.rows"], apart := false, laid := [("avocet/instr.spans", laid_avocet_instr_spans), ("avocet/instr.rows", laid_avocet_instr_rows)], narrowed := true }
def CheckStepUptoSaid : Prop := checkStepUptoRow.holds Tryz.pinned (OpenSpec.upto checkStepSpec)

/-- 'avocetlaw10.CheckBody', WHERE WHAT IT READS IS OF BULK AT MOST 1048576: true; the input reads as it did. -/
def checkBodyUptoRow : OpenClaim := { program := "ytfpioigggjnffaagreatdoor", sum := "40e6849d6095b77809ffd59778752058149f8931c385c2eb65699547d1582f0d", func := "avocet/avocetlaw10.CheckBody", spec := "checkBody", unfollowed := true, recurses := true, named := ["avocet/instr.spans", "avocet/instr.rows"], apart := false, laid := [("avocet/instr.spans", laid_avocet_instr_spans), ("avocet/instr.rows", laid_avocet_instr_rows)], narrowed := true }
def CheckBodyUptoSaid : Prop := checkBodyUptoRow.holds Tryz.pinned (OpenSpec.upto checkBodySpec)

/-- 'avocetlaw12.SideIs', WHERE WHAT IT READS IS OF BULK AT MOST 1048576: true; the input reads as it did. -/
def sideIsUptoRow : OpenClaim := { program := "ytfpioigggjnffaagreatdoor", sum := "40e6849d6095b77809ffd59778752058149f8931c385c2eb65699547d1582f0d", func := "avocet/avocetlaw12.SideIs", spec := "sideIs", inPlace := ["internal/reflectlite.ValueOf", "internal/reflectlite.Swapper", "(internal/reflectlite.Value).Len"], unfollowed := true, recurses := true, named := ["avocet/instr.spans", "avocet/instr.rows"], apart := false, laid := [("avocet/instr.spans", laid_avocet_instr_spans), ("avocet/instr.rows", laid_avocet_instr_rows)], narrowed := true }
def SideIsUptoSaid : Prop := sideIsUptoRow.holds Tryz.pinned (OpenSpec.upto sideIsSpec)

/-- 'avocetlaw12.SideOrder', WHERE WHAT IT READS IS OF BULK AT MOST 1048576: true; the input reads as it did. -/
def sideOrderUptoRow : OpenClaim := { program := "ytfpioigggjnffaagreatdoor", sum := "40e6849d6095b77809ffd59778752058149f8931c385c2eb65699547d1582f0d", func := "avocet/avocetlaw12.SideOrder", spec := "sideOrder", inPlace := ["internal/reflectlite.ValueOf", "internal/reflectlite.Swapper", "(internal/reflectlite.Value).Len"], unfollowed := true, recurses := true, named := ["avocet/instr.spans", "avocet/instr.rows"], apart := false, laid := [("avocet/instr.spans", laid_avocet_instr_spans), ("avocet/instr.rows", laid_avocet_instr_rows)], narrowed := true }
def SideOrderUptoSaid : Prop := sideOrderUptoRow.holds Tryz.pinned (OpenSpec.upto sideOrderSpec)

/-- 'avocetlaw12.SideLands', WHERE WHAT IT READS IS OF BULK AT MOST 1048576: true; the input reads as it did. -/
def sideLandsUptoRow : OpenClaim := { program := "ytfpioigggjnffaagreatdoor", sum := "40e6849d6095b77809ffd59778752058149f8931c385c2eb65699547d1582f0d", func := "avocet/avocetlaw12.SideLands", spec := "sideLands", inPlace := ["internal/reflectlite.ValueOf", "internal/reflectlite.Swapper", "(internal/reflectlite.Value).Len"], unfollowed := true, recurses := true, named := ["avocet/instr.spans", "avocet/instr.rows"], apart := false, laid := [("avocet/instr.spans", laid_avocet_instr_spans), ("avocet/instr.rows", laid_avocet_instr_rows)], narrowed := true }
def SideLandsUptoSaid : Prop := sideLandsUptoRow.holds Tryz.pinned (OpenSpec.upto sideLandsSpec)

/-- 'avocetlaw12.SideMoves', WHERE WHAT IT READS IS OF BULK AT MOST 1048576: true; the input reads as it did. -/
def sideMovesUptoRow : OpenClaim := { program := "ytfpioigggjnffaagreatdoor", sum := "40e6849d6095b77809ffd59778752058149f8931c385c2eb65699547d1582f0d", func := "avocet/avocetlaw12.SideMoves", spec := "sideMoves", inPlace := ["internal/reflectlite.ValueOf", "internal/reflectlite.Swapper", "(internal/reflectlite.Value).Len"], unfollowed := true, recurses := true, named := ["avocet/instr.spans", "avocet/instr.rows"], apart := false, laid := [("avocet/instr.spans", laid_avocet_instr_spans), ("avocet/instr.rows", laid_avocet_instr_rows)], narrowed := true }
def SideMovesUptoSaid : Prop := sideMovesUptoRow.holds Tryz.pinned (OpenSpec.upto sideMovesSpec)

/-- 'avocetlaw12.SideCounts', WHERE WHAT IT READS IS OF BULK AT MOST 1048576: true; the input reads as it did. -/
def sideCountsUptoRow : OpenClaim := { program := "ytfpioigggjnffaagreatdoor", sum := "40e6849d6095b77809ffd59778752058149f8931c385c2eb65699547d1582f0d", func := "avocet/avocetlaw12.SideCounts", spec := "sideCounts", inPlace := ["internal/reflectlite.ValueOf", "internal/reflectlite.Swapper", "(internal/reflectlite.Value).Len"], unfollowed := true, recurses := true, named := ["avocet/instr.spans", "avocet/instr.rows"], apart := false, laid := [("avocet/instr.spans", laid_avocet_instr_spans), ("avocet/instr.rows", laid_avocet_instr_rows)], narrowed := true }
def SideCountsUptoSaid : Prop := sideCountsUptoRow.holds Tryz.pinned (OpenSpec.upto sideCountsSpec)

/-- 'avocetlaw12.SideBack', WHERE WHAT IT READS IS OF BULK AT MOST 1048576: true; the input reads as it did. -/
def sideBackUptoRow : OpenClaim := { program := "ytfpioigggjnffaagreatdoor", sum := "40e6849d6095b77809ffd59778752058149f8931c385c2eb65699547d1582f0d", func := "avocet/avocetlaw12.SideBack", spec := "sideBack", inPlace := ["internal/reflectlite.ValueOf", "internal/reflectlite.Swapper", "(internal/reflectlite.Value).Len"], unfollowed := true, recurses := true, named := ["avocet/instr.spans", "avocet/instr.rows"], apart := false, laid := [("avocet/instr.spans", laid_avocet_instr_spans), ("avocet/instr.rows", laid_avocet_instr_rows)], narrowed := true }
def SideBackUptoSaid : Prop := sideBackUptoRow.holds Tryz.pinned (OpenSpec.upto sideBackSpec)

end Rows
end Go.Proofs.YtfpioigggjnffaaGreatDoor
