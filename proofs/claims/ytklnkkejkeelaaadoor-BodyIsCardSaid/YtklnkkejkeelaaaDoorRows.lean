/-
  NARROWER THAN 'FOR EVERY INPUT', by the rows' own cells (each row's printed sentence says how): BodyNests: laid · BodyTargets: laid · BodyDeeper: laid · BodyRows: laid · InstrBack: laid · InstrTold: laid · InstrRow: laid · InstrSame: laid · InstrIs: laid · InstrOps: laid · BodyBack: laid · BodyIs: laid.
  DERIVED. THE GIVEN ROWS OF THIS SEAT. 12 by the template 'for every input the law returns true; each argument reads behind the call as it read before'; 0 by the template 'total and deterministic' (their statements: YtklnkkejkeelaaaDoorTotals.lean).
  GIVEN WITH THE SEED: the statements are not yours to turn. If you find one false, say at which input.
  Laid BY PROGRAM, IN A SANDBOX (cutbox-rows.mjs): the forced cells as the released guide's own fill.sh prints them over the translation 421a326be74de128… (all of the seat's roots in one cut). By AI agents, Wed Nov 11 2026. No macro, syntax, notation, axiom, sorry.
-/
import Derived.Test.YtklnkkejkeelaaaDoorChecked
import GoSem.Claim
import GoSem.ClaimJoined
import GoSem.ClaimMapViews
import Derived.JoinedTies
import Derived.KernelRfl
namespace Go.Proofs.YtklnkkejkeelaaaDoor
/- THE CELL 'sum', in the pinned program and in every row, IS THE sha256 OF THE DUMP (.gsa) THAT YtklnkkejkeelaaaDoorProg.lean LOADS. Nothing in Lean hashes anything: it is a label: what it is worth is what the hold of that sum in a sandbox is worth. -/
noncomputable def Tryd.pinned : Pinned := { name := "ytklnkkejkeelaaadoor", sum := "421a326be74de128df5259c4c32607e0e9ad05af6e2d792d9840d071169f4bb1", checked := Tryd.checked }
namespace Rows
def none {H : Type} : Left H := { results := [], args := [] }

/- WHAT THE LISTED PACKAGE-LEVEL VARIABLES READ AS WHEN THE CALL BEGINS. Each datum BY PROGRAM (the guide's laid-datum.mjs) off the statement by which the dump's own 'gosem.cut.vars' lays the variable. In a bare row this is a premise. The card (YtklnkkejkeelaaaDoorCards.lean) ties it to the program's text. -/
def laid_avocet_instr_spans {H : Type} : DataW H := .agg [.agg [.lit (.int .i64 0), .lit (.int .i64 1), .lit (.int .i64 1)], .agg [.lit (.int .i64 2), .lit (.int .i64 4), .lit (.int .i64 2)], .agg [.lit (.int .i64 5), .lit (.int .i64 5), .lit (.int .i64 1)], .agg [.lit (.int .i64 11), .lit (.int .i64 11), .lit (.int .i64 1)], .agg [.lit (.int .i64 12), .lit (.int .i64 13), .lit (.int .i64 3)], .agg [.lit (.int .i64 14), .lit (.int .i64 14), .lit (.int .i64 4)], .agg [.lit (.int .i64 15), .lit (.int .i64 15), .lit (.int .i64 1)], .agg [.lit (.int .i64 16), .lit (.int .i64 16), .lit (.int .i64 3)], .agg [.lit (.int .i64 17), .lit (.int .i64 17), .lit (.int .i64 5)], .agg [.lit (.int .i64 26), .lit (.int .i64 27), .lit (.int .i64 1)], .agg [.lit (.int .i64 32), .lit (.int .i64 36), .lit (.int .i64 3)], .agg [.lit (.int .i64 40), .lit (.int .i64 41), .lit (.int .i64 6)], .agg [.lit (.int .i64 44), .lit (.int .i64 55), .lit (.int .i64 6)], .agg [.lit (.int .i64 58), .lit (.int .i64 62), .lit (.int .i64 6)], .agg [.lit (.int .i64 63), .lit (.int .i64 64), .lit (.int .i64 7)], .agg [.lit (.int .i64 65), .lit (.int .i64 65), .lit (.int .i64 8)], .agg [.lit (.int .i64 66), .lit (.int .i64 66), .lit (.int .i64 9)], .agg [.lit (.int .i64 69), .lit (.int .i64 90), .lit (.int .i64 1)], .agg [.lit (.int .i64 103), .lit (.int .i64 138), .lit (.int .i64 1)], .agg [.lit (.int .i64 167), .lit (.int .i64 167), .lit (.int .i64 1)], .agg [.lit (.int .i64 172), .lit (.int .i64 173), .lit (.int .i64 1)]]
def laid_avocet_instr_rows {H : Type} : DataW H := .agg [.agg [.lit (.int .u8 127), .lit (.int .i64 4), .lit (.bool false), .lit (.bool false)], .agg [.lit (.int .u8 126), .lit (.int .i64 8), .lit (.bool false), .lit (.bool false)], .agg [.lit (.int .u8 0), .lit (.int .i64 0), .lit (.bool false), .lit (.bool false)], .agg [.lit (.int .u8 0), .lit (.int .i64 0), .lit (.bool false), .lit (.bool false)], .agg [.lit (.int .u8 127), .lit (.int .i64 1), .lit (.bool true), .lit (.bool false)], .agg [.lit (.int .u8 127), .lit (.int .i64 1), .lit (.bool false), .lit (.bool false)], .agg [.lit (.int .u8 127), .lit (.int .i64 2), .lit (.bool true), .lit (.bool false)], .agg [.lit (.int .u8 127), .lit (.int .i64 2), .lit (.bool false), .lit (.bool false)], .agg [.lit (.int .u8 126), .lit (.int .i64 1), .lit (.bool true), .lit (.bool false)], .agg [.lit (.int .u8 126), .lit (.int .i64 1), .lit (.bool false), .lit (.bool false)], .agg [.lit (.int .u8 126), .lit (.int .i64 2), .lit (.bool true), .lit (.bool false)], .agg [.lit (.int .u8 126), .lit (.int .i64 2), .lit (.bool false), .lit (.bool false)], .agg [.lit (.int .u8 126), .lit (.int .i64 4), .lit (.bool true), .lit (.bool false)], .agg [.lit (.int .u8 126), .lit (.int .i64 4), .lit (.bool false), .lit (.bool false)], .agg [.lit (.int .u8 127), .lit (.int .i64 4), .lit (.bool false), .lit (.bool true)], .agg [.lit (.int .u8 126), .lit (.int .i64 8), .lit (.bool false), .lit (.bool true)], .agg [.lit (.int .u8 0), .lit (.int .i64 0), .lit (.bool false), .lit (.bool false)], .agg [.lit (.int .u8 0), .lit (.int .i64 0), .lit (.bool false), .lit (.bool false)], .agg [.lit (.int .u8 127), .lit (.int .i64 1), .lit (.bool false), .lit (.bool true)], .agg [.lit (.int .u8 127), .lit (.int .i64 2), .lit (.bool false), .lit (.bool true)], .agg [.lit (.int .u8 126), .lit (.int .i64 1), .lit (.bool false), .lit (.bool true)], .agg [.lit (.int .u8 126), .lit (.int .i64 2), .lit (.bool false), .lit (.bool true)], .agg [.lit (.int .u8 126), .lit (.int .i64 4), .lit (.bool false), .lit (.bool true)]]

/-- 'avocetlaw06.BodyNests': WHATEVER THE INPUT: true; the input reads as it did. -/
def bodyNestsSpec : ChangeSpec := { name := "bodyNests", fn := fun _ => fun
  | [d] => { results := [.lit (.bool true)], args := [d] }
  | _ => none }
def bodyNestsRow : OpenClaim := { program := "ytklnkkejkeelaaadoor", sum := "421a326be74de128df5259c4c32607e0e9ad05af6e2d792d9840d071169f4bb1", func := "avocet/avocetlaw06.BodyNests", spec := "bodyNests", unfollowed := true, recurses := true, named := ["avocet/instr.spans"], apart := false, laid := [("avocet/instr.spans", laid_avocet_instr_spans)] }
def BodyNestsSaid : Prop := bodyNestsRow.holds Tryd.pinned (OpenSpec.ofChange bodyNestsSpec)

/-- ITS FALSE NEIGHBOUR: 'it returns false'. Refute it at one input. -/
def bodyNestsWrong : ChangeSpec := { name := "bodyNests", fn := fun _ => fun
  | [d] => { results := [.lit (.bool false)], args := [d] }
  | _ => none }
def BodyNestsWrongFalsely : Prop := bodyNestsRow.holds Tryd.pinned (OpenSpec.ofChange bodyNestsWrong)

/-- 'avocetlaw06.BodyTargets': WHATEVER THE INPUT: true; the input reads as it did. -/
def bodyTargetsSpec : ChangeSpec := { name := "bodyTargets", fn := fun _ => fun
  | [d1, d2, d3] => { results := [.lit (.bool true)], args := [d1, d2, d3] }
  | _ => none }
def bodyTargetsRow : OpenClaim := { program := "ytklnkkejkeelaaadoor", sum := "421a326be74de128df5259c4c32607e0e9ad05af6e2d792d9840d071169f4bb1", func := "avocet/avocetlaw06.BodyTargets", spec := "bodyTargets", unfollowed := true, recurses := true, named := ["avocet/instr.spans"], apart := false, laid := [("avocet/instr.spans", laid_avocet_instr_spans)] }
def BodyTargetsSaid : Prop := bodyTargetsRow.holds Tryd.pinned (OpenSpec.ofChange bodyTargetsSpec)

/-- ITS FALSE NEIGHBOUR: 'it returns false'. Refute it at one input. -/
def bodyTargetsWrong : ChangeSpec := { name := "bodyTargets", fn := fun _ => fun
  | [d1, d2, d3] => { results := [.lit (.bool false)], args := [d1, d2, d3] }
  | _ => none }
def BodyTargetsWrongFalsely : Prop := bodyTargetsRow.holds Tryd.pinned (OpenSpec.ofChange bodyTargetsWrong)

/-- 'avocetlaw06.BodyDeeper': WHATEVER THE INPUT: true; the input reads as it did. -/
def bodyDeeperSpec : ChangeSpec := { name := "bodyDeeper", fn := fun _ => fun
  | [d1, d2] => { results := [.lit (.bool true)], args := [d1, d2] }
  | _ => none }
def bodyDeeperRow : OpenClaim := { program := "ytklnkkejkeelaaadoor", sum := "421a326be74de128df5259c4c32607e0e9ad05af6e2d792d9840d071169f4bb1", func := "avocet/avocetlaw06.BodyDeeper", spec := "bodyDeeper", unfollowed := true, recurses := true, named := ["avocet/instr.spans"], apart := false, laid := [("avocet/instr.spans", laid_avocet_instr_spans)] }
def BodyDeeperSaid : Prop := bodyDeeperRow.holds Tryd.pinned (OpenSpec.ofChange bodyDeeperSpec)

/-- ITS FALSE NEIGHBOUR: 'it returns false'. Refute it at one input. -/
def bodyDeeperWrong : ChangeSpec := { name := "bodyDeeper", fn := fun _ => fun
  | [d1, d2] => { results := [.lit (.bool false)], args := [d1, d2] }
  | _ => none }
def BodyDeeperWrongFalsely : Prop := bodyDeeperRow.holds Tryd.pinned (OpenSpec.ofChange bodyDeeperWrong)

/-- 'avocetlaw06.BodyRows': WHATEVER THE INPUT: true; the input reads as it did. -/
def bodyRowsSpec : ChangeSpec := { name := "bodyRows", fn := fun _ => fun
  | [d1, d2] => { results := [.lit (.bool true)], args := [d1, d2] }
  | _ => none }
def bodyRowsRow : OpenClaim := { program := "ytklnkkejkeelaaadoor", sum := "421a326be74de128df5259c4c32607e0e9ad05af6e2d792d9840d071169f4bb1", func := "avocet/avocetlaw06.BodyRows", spec := "bodyRows", unfollowed := true, recurses := true, named := ["avocet/instr.spans"], apart := false, laid := [("avocet/instr.spans", laid_avocet_instr_spans)] }
def BodyRowsSaid : Prop := bodyRowsRow.holds Tryd.pinned (OpenSpec.ofChange bodyRowsSpec)

/-- ITS FALSE NEIGHBOUR: 'it returns false'. Refute it at one input. -/
def bodyRowsWrong : ChangeSpec := { name := "bodyRows", fn := fun _ => fun
  | [d1, d2] => { results := [.lit (.bool false)], args := [d1, d2] }
  | _ => none }
def BodyRowsWrongFalsely : Prop := bodyRowsRow.holds Tryd.pinned (OpenSpec.ofChange bodyRowsWrong)

/-- 'avocetlaw05.InstrBack': WHATEVER THE INPUT: true; the input reads as it did. -/
def instrBackSpec : ChangeSpec := { name := "instrBack", fn := fun _ => fun
  | [d1, d2, d3] => { results := [.lit (.bool true)], args := [d1, d2, d3] }
  | _ => none }
def instrBackRow : OpenClaim := { program := "ytklnkkejkeelaaadoor", sum := "421a326be74de128df5259c4c32607e0e9ad05af6e2d792d9840d071169f4bb1", func := "avocet/avocetlaw05.InstrBack", spec := "instrBack", unfollowed := true, recurses := true, named := ["avocet/instr.spans"], apart := false, laid := [("avocet/instr.spans", laid_avocet_instr_spans)] }
def InstrBackSaid : Prop := instrBackRow.holds Tryd.pinned (OpenSpec.ofChange instrBackSpec)

/-- ITS FALSE NEIGHBOUR: 'it returns false'. Refute it at one input. -/
def instrBackWrong : ChangeSpec := { name := "instrBack", fn := fun _ => fun
  | [d1, d2, d3] => { results := [.lit (.bool false)], args := [d1, d2, d3] }
  | _ => none }
def InstrBackWrongFalsely : Prop := instrBackRow.holds Tryd.pinned (OpenSpec.ofChange instrBackWrong)

/-- 'avocetlaw05.InstrTold': WHATEVER THE INPUT: true; the input reads as it did. -/
def instrToldSpec : ChangeSpec := { name := "instrTold", fn := fun _ => fun
  | [d] => { results := [.lit (.bool true)], args := [d] }
  | _ => none }
def instrToldRow : OpenClaim := { program := "ytklnkkejkeelaaadoor", sum := "421a326be74de128df5259c4c32607e0e9ad05af6e2d792d9840d071169f4bb1", func := "avocet/avocetlaw05.InstrTold", spec := "instrTold", unfollowed := true, recurses := true, named := ["avocet/instr.spans"], apart := false, laid := [("avocet/instr.spans", laid_avocet_instr_spans)] }
def InstrToldSaid : Prop := instrToldRow.holds Tryd.pinned (OpenSpec.ofChange instrToldSpec)

/-- ITS FALSE NEIGHBOUR: 'it returns false'. Refute it at one input. -/
def instrToldWrong : ChangeSpec := { name := "instrTold", fn := fun _ => fun
  | [d] => { results := [.lit (.bool false)], args := [d] }
  | _ => none }
def InstrToldWrongFalsely : Prop := instrToldRow.holds Tryd.pinned (OpenSpec.ofChange instrToldWrong)

/-- 'avocetlaw05.InstrRow': WHATEVER THE INPUT: true; the input reads as it did. -/
def instrRowSpec : ChangeSpec := { name := "instrRow", fn := fun _ => fun
  | [d] => { results := [.lit (.bool true)], args := [d] }
  | _ => none }
def instrRowRow : OpenClaim := { program := "ytklnkkejkeelaaadoor", sum := "421a326be74de128df5259c4c32607e0e9ad05af6e2d792d9840d071169f4bb1", func := "avocet/avocetlaw05.InstrRow", spec := "instrRow", unfollowed := true, recurses := true, named := ["avocet/instr.spans"], apart := false, laid := [("avocet/instr.spans", laid_avocet_instr_spans)] }
def InstrRowSaid : Prop := instrRowRow.holds Tryd.pinned (OpenSpec.ofChange instrRowSpec)

/-- ITS FALSE NEIGHBOUR: 'it returns false'. Refute it at one input. -/
def instrRowWrong : ChangeSpec := { name := "instrRow", fn := fun _ => fun
  | [d] => { results := [.lit (.bool false)], args := [d] }
  | _ => none }
def InstrRowWrongFalsely : Prop := instrRowRow.holds Tryd.pinned (OpenSpec.ofChange instrRowWrong)

/-- 'avocetlaw05.InstrSame': WHATEVER THE INPUT: true; the input reads as it did. -/
def instrSameSpec : ChangeSpec := { name := "instrSame", fn := fun _ => fun
  | [d1, d2] => { results := [.lit (.bool true)], args := [d1, d2] }
  | _ => none }
def instrSameRow : OpenClaim := { program := "ytklnkkejkeelaaadoor", sum := "421a326be74de128df5259c4c32607e0e9ad05af6e2d792d9840d071169f4bb1", func := "avocet/avocetlaw05.InstrSame", spec := "instrSame", unfollowed := true, recurses := true, named := ["avocet/instr.spans"], apart := false, laid := [("avocet/instr.spans", laid_avocet_instr_spans)] }
def InstrSameSaid : Prop := instrSameRow.holds Tryd.pinned (OpenSpec.ofChange instrSameSpec)

/-- ITS FALSE NEIGHBOUR: 'it returns false'. Refute it at one input. -/
def instrSameWrong : ChangeSpec := { name := "instrSame", fn := fun _ => fun
  | [d1, d2] => { results := [.lit (.bool false)], args := [d1, d2] }
  | _ => none }
def InstrSameWrongFalsely : Prop := instrSameRow.holds Tryd.pinned (OpenSpec.ofChange instrSameWrong)

/-- 'avocetlaw05.InstrIs': WHATEVER THE INPUT: true; the input reads as it did. -/
def instrIsSpec : ChangeSpec := { name := "instrIs", fn := fun _ => fun
  | [d1, d2, d3, d4, d5] => { results := [.lit (.bool true)], args := [d1, d2, d3, d4, d5] }
  | _ => none }
def instrIsRow : OpenClaim := { program := "ytklnkkejkeelaaadoor", sum := "421a326be74de128df5259c4c32607e0e9ad05af6e2d792d9840d071169f4bb1", func := "avocet/avocetlaw05.InstrIs", spec := "instrIs", unfollowed := true, recurses := true, named := ["avocet/instr.spans", "avocet/instr.rows"], apart := false, laid := [("avocet/instr.spans", laid_avocet_instr_spans), ("avocet/instr.rows", laid_avocet_instr_rows)] }
def InstrIsSaid : Prop := instrIsRow.holds Tryd.pinned (OpenSpec.ofChange instrIsSpec)

/-- ITS FALSE NEIGHBOUR: 'it returns false'. Refute it at one input. -/
def instrIsWrong : ChangeSpec := { name := "instrIs", fn := fun _ => fun
  | [d1, d2, d3, d4, d5] => { results := [.lit (.bool false)], args := [d1, d2, d3, d4, d5] }
  | _ => none }
def InstrIsWrongFalsely : Prop := instrIsRow.holds Tryd.pinned (OpenSpec.ofChange instrIsWrong)

/-- 'avocetlaw05.InstrOps': WHATEVER THE INPUT: true; the input reads as it did. -/
def instrOpsSpec : ChangeSpec := { name := "instrOps", fn := fun _ => fun
  | [d] => { results := [.lit (.bool true)], args := [d] }
  | _ => none }
def instrOpsRow : OpenClaim := { program := "ytklnkkejkeelaaadoor", sum := "421a326be74de128df5259c4c32607e0e9ad05af6e2d792d9840d071169f4bb1", func := "avocet/avocetlaw05.InstrOps", spec := "instrOps", unfollowed := true, recurses := true, named := ["avocet/instr.spans", "avocet/instr.rows"], apart := false, laid := [("avocet/instr.spans", laid_avocet_instr_spans), ("avocet/instr.rows", laid_avocet_instr_rows)] }
def InstrOpsSaid : Prop := instrOpsRow.holds Tryd.pinned (OpenSpec.ofChange instrOpsSpec)

/-- ITS FALSE NEIGHBOUR: 'it returns false'. Refute it at one input. -/
def instrOpsWrong : ChangeSpec := { name := "instrOps", fn := fun _ => fun
  | [d] => { results := [.lit (.bool false)], args := [d] }
  | _ => none }
def InstrOpsWrongFalsely : Prop := instrOpsRow.holds Tryd.pinned (OpenSpec.ofChange instrOpsWrong)

/-- 'avocetlaw06.BodyBack': WHATEVER THE INPUT: true; the input reads as it did. -/
def bodyBackSpec : ChangeSpec := { name := "bodyBack", fn := fun _ => fun
  | [d1, d2, d3] => { results := [.lit (.bool true)], args := [d1, d2, d3] }
  | _ => none }
def bodyBackRow : OpenClaim := { program := "ytklnkkejkeelaaadoor", sum := "421a326be74de128df5259c4c32607e0e9ad05af6e2d792d9840d071169f4bb1", func := "avocet/avocetlaw06.BodyBack", spec := "bodyBack", unfollowed := true, recurses := true, named := ["avocet/instr.spans"], apart := false, laid := [("avocet/instr.spans", laid_avocet_instr_spans)] }
def BodyBackSaid : Prop := bodyBackRow.holds Tryd.pinned (OpenSpec.ofChange bodyBackSpec)

/-- ITS FALSE NEIGHBOUR: 'it returns false'. Refute it at one input. -/
def bodyBackWrong : ChangeSpec := { name := "bodyBack", fn := fun _ => fun
  | [d1, d2, d3] => { results := [.lit (.bool false)], args := [d1, d2, d3] }
  | _ => none }
def BodyBackWrongFalsely : Prop := bodyBackRow.holds Tryd.pinned (OpenSpec.ofChange bodyBackWrong)

/-- 'avocetlaw06.BodyIs': WHATEVER THE INPUT: true; the input reads as it did. -/
def bodyIsSpec : ChangeSpec := { name := "bodyIs", fn := fun _ => fun
  | [d1, d2, d3, d4, d5] => { results := [.lit (.bool true)], args := [d1, d2, d3, d4, d5] }
  | _ => none }
def bodyIsRow : OpenClaim := { program := "ytklnkkejkeelaaadoor", sum := "421a326be74de128df5259c4c32607e0e9ad05af6e2d792d9840d071169f4bb1", func := "avocet/avocetlaw06.BodyIs", spec := "bodyIs", unfollowed := true, recurses := true, named := ["avocet/instr.spans"], apart := false, laid := [("avocet/instr.spans", laid_avocet_instr_spans)] }
def BodyIsSaid : Prop := bodyIsRow.holds Tryd.pinned (OpenSpec.ofChange bodyIsSpec)

/-- ITS FALSE NEIGHBOUR: 'it returns false'. Refute it at one input. -/
def bodyIsWrong : ChangeSpec := { name := "bodyIs", fn := fun _ => fun
  | [d1, d2, d3, d4, d5] => { results := [.lit (.bool false)], args := [d1, d2, d3, d4, d5] }
  | _ => none }
def BodyIsWrongFalsely : Prop := bodyIsRow.holds Tryd.pinned (OpenSpec.ofChange bodyIsWrong)

/- THE SECOND FORM. 'bulk': how many values and letters a reading holds, each counted each time it is reached (what is shared counts as often as it is met; a slice's spare places count too). A statement '..UptoSaid' is the law's where the arguments, and the package variables that the reading takes, are together of bulk at most 1048576: NARROWER than '..Said'. Prove '..Said' where nothing that the law and all that it calls make is longer than what came in: it says more and counts as full. Else prove '..UptoSaid'. A law counts once. -/
mutual
def uptoBulk {H : Type} : DataW H → Nat
  | .lit (.string bytes) => bytes.length + 1
  | .lit _ => 1
  | .nil => 1
  | .ptr d => uptoBulk d + 1
  | .slice elems spare => uptoBulkAll elems + uptoBulkAll spare + 1
  | .agg parts => uptoBulkAll parts + 1
  | .iface _ d => uptoBulk d + 1
  | .map entries => uptoBulkEntries entries + 1
  | .held _ => 1
def uptoBulkAll {H : Type} : List (DataW H) → Nat
  | [] => 0
  | d :: r => uptoBulk d + uptoBulkAll r
def uptoBulkEntries {H : Type} : List (Lit × DataW H) → Nat
  | [] => 0
  | x :: r => uptoBulkEntry x + uptoBulkEntries r
def uptoBulkEntry {H : Type} : Lit × DataW H → Nat
  | (.string bytes, d) => bytes.length + uptoBulk d + 1
  | (_, d) => uptoBulk d + 1
 end
def uptoSmall : (H : Type) → List (DataW H) → Bool := fun _ ds => decide (uptoBulkAll ds ≤ 1048576)
def OpenSpec.upto (s : _root_.Go.ChangeSpec) : _root_.Go.OpenSpec := { _root_.Go.OpenSpec.ofChange s with cond := some uptoSmall }

/-- 'avocetlaw06.BodyNests', WHERE WHAT IT READS IS OF BULK AT MOST 1048576: true; the input reads as it did. -/
def bodyNestsUptoRow : OpenClaim := { program := "ytklnkkejkeelaaadoor", sum := "421a326be74de128df5259c4c32607e0e9ad05af6e2d792d9840d071169f4bb1", func := "avocet/avocetlaw06.BodyNests", spec := "bodyNests", unfollowed := true, recurses := true, named := ["avocet/instr.spans"], apart := false, laid := [("avocet/instr.spans", laid_avocet_instr_spans)], narrowed := true }
def BodyNestsUptoSaid : Prop := bodyNestsUptoRow.holds Tryd.pinned (OpenSpec.upto bodyNestsSpec)

/-- 'avocetlaw06.BodyTargets', WHERE WHAT IT READS IS OF BULK AT MOST 1048576: true; the input reads as it did. -/
def bodyTargetsUptoRow : OpenClaim := { program := "ytklnkkejkeelaaadoor", sum := "421a326be74de128df5259c4c32607e0e9ad05af6e2d792d9840d071169f4bb1", func := "avocet/avocetlaw06.BodyTargets", spec := "bodyTargets", unfollowed := true, recurses := true, named := ["avocet/instr.spans"], apart := false, laid := [("avocet/instr.spans", laid_avocet_instr_spans)], narrowed := true }
def BodyTargetsUptoSaid : Prop := bodyTargetsUptoRow.holds Tryd.pinned (OpenSpec.upto bodyTargetsSpec)

/-- 'avocetlaw06.BodyDeeper', WHERE WHAT IT READS IS OF BULK AT MOST 1048576: true; the input reads as it did. -/
def bodyDeeperUptoRow : OpenClaim := { program := "ytklnkkejkeelaaadoor", sum := "421a326be74de128df5259c4c32607e0e9ad05af6e2d792d9840d071169f4bb1", func := "avocet/avocetlaw06.BodyDeeper", spec := "bodyDeeper", unfollowed := true, recurses := true, named := ["avocet/instr.spans"], apart := false, laid := [("avocet/instr.spans", laid_avocet_instr_spans)], narrowed := true }
def BodyDeeperUptoSaid : Prop := bodyDeeperUptoRow.holds Tryd.pinned (OpenSpec.upto bodyDeeperSpec)

/-- 'avocetlaw06.BodyRows', WHERE WHAT IT READS IS OF BULK AT MOST 1048576: true; the input reads as it did. -/
def bodyRowsUptoRow : OpenClaim := { program := "ytklnkkejkeelaaadoor", sum := "421a326be74de128df5259c4c32607e0e9ad05af6e2d792d9840d071169f4bb1", func := "avocet/avocetlaw06.BodyRows", spec := "bodyRows", unfollowed := true, recurses := true, named := ["avocet/instr.spans"], apart := false, laid := [("avocet/instr.spans", laid_avocet_instr_spans)], narrowed := true }
def BodyRowsUptoSaid : Prop := bodyRowsUptoRow.holds Tryd.pinned (OpenSpec.upto bodyRowsSpec)

/-- 'avocetlaw05.InstrBack', WHERE WHAT IT READS IS OF BULK AT MOST 1048576: true; the input reads as it did. -/
def instrBackUptoRow : OpenClaim := { program := "ytklnkkejkeelaaadoor", sum := "421a326be74de128df5259c4c32607e0e9ad05af6e2d792d9840d071169f4bb1", func := "avocet/avocetlaw05.InstrBack", spec := "instrBack", unfollowed := true, recurses := true, named := ["avocet/instr.spans"], apart := false, laid := [("avocet/instr.spans", laid_avocet_instr_spans)], narrowed := true }
def InstrBackUptoSaid : Prop := instrBackUptoRow.holds Tryd.pinned (OpenSpec.upto instrBackSpec)

/-- 'avocetlaw05.InstrTold', WHERE WHAT IT READS IS OF BULK AT MOST 1048576: true; the input reads as it did. -/
def instrToldUptoRow : OpenClaim := { program := "ytklnkkejkeelaaadoor", sum := "421a326be74de128df5259c4c32607e0e9ad05af6e2d792d9840d071169f4bb1", func := "avocet/avocetlaw05.InstrTold", spec := "instrTold", unfollowed := true, recurses := true, named := ["avocet/instr.spans"], apart := false, laid := [("avocet/instr.spans", laid_avocet_instr_spans)], narrowed := true }
def InstrToldUptoSaid : Prop := instrToldUptoRow.holds Tryd.pinned (OpenSpec.upto instrToldSpec)

/-- 'avocetlaw05.InstrRow', WHERE WHAT IT READS IS OF BULK AT MOST 1048576: true; the input reads as it did. -/
def instrRowUptoRow : OpenClaim := { program := "ytklnkkejkeelaaadoor", sum := "421a326be74de128df5259c4c32607e0e9ad05af6e2d792d9840d071169f4bb1", func := "avocet/avocetlaw05.InstrRow", spec := "instrRow", unfollowed := true, recurses := true, named := ["avocet/instr.spans"], apart := false, laid := [("avocet/instr.spans", laid_avocet_instr_spans)], narrowed := true }
def InstrRowUptoSaid : Prop := instrRowUptoRow.holds Tryd.pinned (OpenSpec.upto instrRowSpec)

/-- 'avocetlaw05.InstrSame', WHERE WHAT IT READS IS OF BULK AT MOST 1048576: true; the input reads as it did. -/
def instrSameUptoRow : OpenClaim := { program := "ytklnkkejkeelaaadoor", sum := "421a326be74de128df5259c4c32607e0e9ad05af6e2d792d9840d071169f4bb1", func := "avocet/avocetlaw05.InstrSame", spec := "instrSame", unfollowed := true, recurses := true, named := ["avocet/instr.spans"], apart := false, laid := [("avocet/instr.spans", laid_avocet_instr_spans)], narrowed := true }
def InstrSameUptoSaid : Prop := instrSameUptoRow.holds Tryd.pinned (OpenSpec.upto instrSameSpec)

/-- 'avocetlaw05.InstrIs', WHERE WHAT IT READS IS OF BULK AT MOST 1048576: true; the input reads as it did. -/
def instrIsUptoRow : OpenClaim := { program := "ytklnkkejkeelaaadoor", sum := "421a326be74de128df5259c4c32607e0e9ad05af6e2d792d9840d071169f4bb1", func := "avocet/avocetlaw05.InstrIs", spec := "instrIs", unfollowed := true, recurses := true, named := ["avocet/instr.spans", "avocet/instr.rows"], apart := false, laid := [("avocet/instr.spans", laid_avocet_instr_spans), ("avocet/instr.rows", laid_avocet_instr_rows)], narrowed := true }
def InstrIsUptoSaid : Prop := instrIsUptoRow.holds Tryd.pinned (OpenSpec.upto instrIsSpec)

/-- 'avocetlaw05.InstrOps', WHERE WHAT IT READS IS OF BULK AT MOST 1048576: true; the input reads as it did. -/
def instrOpsUptoRow : OpenClaim := { program := "ytklnkkejkeelaaadoor", sum := "421a326be74de128df5259c4c32607e0e9ad05af6e2d792d9840d071169f4bb1", func := "avocet/avocetlaw05.InstrOps", spec := "instrOps", unfollowed := true, recurses := true, named := ["avocet/instr.spans", "avocet/instr.rows"], apart := false, laid := [("avocet/instr.spans", laid_avocet_instr_spans), ("avocet/instr.rows", laid_avocet_instr_rows)], narrowed := true }
def InstrOpsUptoSaid : Prop := instrOpsUptoRow.holds Tryd.pinned (OpenSpec.upto instrOpsSpec)

/-- 'avocetlaw06.BodyBack', WHERE WHAT IT READS IS OF BULK AT MOST 1048576: true; the input reads as it did. -/
def bodyBackUptoRow : OpenClaim := { program := "ytklnkkejkeelaaadoor", sum := "421a326be74de128df5259c4c32607e0e9ad05af6e2d792d9840d071169f4bb1", func := "avocet/avocetlaw06.BodyBack", spec := "bodyBack", unfollowed := true, recurses := true, named := ["avocet/instr.spans"], apart := false, laid := [("avocet/instr.spans", laid_avocet_instr_spans)], narrowed := true }
def BodyBackUptoSaid : Prop := bodyBackUptoRow.holds Tryd.pinned (OpenSpec.upto bodyBackSpec)

/-- 'avocetlaw06.BodyIs', WHERE WHAT IT READS IS OF BULK AT MOST 1048576: true; the input reads as it did. -/
def bodyIsUptoRow : OpenClaim := { program := "ytklnkkejkeelaaadoor", sum := "421a326be74de128df5259c4c32607e0e9ad05af6e2d792d9840d071169f4bb1", func := "avocet/avocetlaw06.BodyIs", spec := "bodyIs", unfollowed := true, recurses := true, named := ["avocet/instr.spans"], apart := false, laid := [("avocet/instr.spans", laid_avocet_instr_spans)], narrowed := true }
def BodyIsUptoSaid : Prop := bodyIsUptoRow.holds Tryd.pinned (OpenSpec.upto bodyIsSpec)

end Rows
end Go.Proofs.YtklnkkejkeelaaaDoor
