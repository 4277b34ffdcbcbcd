/-
  DERIVED. GIVEN WITH THE SEED: THE CARDS: each row of YtfpioigggjnffaaGreatDoorRows.lean that lists a variable, with what it lists TIED to the program's text (the seventh form; the later family's looks); each row that meets fmt, with fmt's text TOLD by the authors' own Lean function (tested against real Go, not proved from fmt's source: count such statements apart). THE CARD IS WHAT COUNTS. Prove the row's statement (the work); the ties are given (YtfpioigggjnffaaGreatDoorTie.lean); close each card by the builder's one call (the guide's Derived/Test/ToyasCard.lean, 'card_holds'). Laid BY PROGRAM, IN A SANDBOX (cutbox-door.mjs). By AI agents, Wed Nov 11 2026. No macro, syntax, notation, axiom, sorry.
-/
import Derived.Test.YtfpioigggjnffaaGreatDoorRows
import GoSem.ClaimSeven
namespace Go.Proofs.YtfpioigggjnffaaGreatDoor
namespace Rows

/-- THE TIED CARD OF 'avocetlaw10.CheckStep'. -/
def checkStepCard : Claim7 := { stood := { row := checkStepRow, standIns := [], harness := (true, "e9181e910716d7009dd7b2fd6ac3a7de6152ae4641aee237ebc00dfbf8a83c59"), looks := false }, kinds := [], alts := [], laidByText := true, laidKinds := [.data, .data], laidTests := true, laidLooks := .later }
def CheckStepCardSaid : Prop := Claim7.holds Tryz.pinned (.plain (OpenSpec.ofChange checkStepSpec)) checkStepCard

/-- THE TIED CARD OF 'avocetlaw10.CheckBody'. -/
def checkBodyCard : Claim7 := { stood := { row := checkBodyRow, standIns := [], harness := (true, "e9181e910716d7009dd7b2fd6ac3a7de6152ae4641aee237ebc00dfbf8a83c59"), looks := false }, kinds := [], alts := [], laidByText := true, laidKinds := [.data, .data], laidTests := true, laidLooks := .later }
def CheckBodyCardSaid : Prop := Claim7.holds Tryz.pinned (.plain (OpenSpec.ofChange checkBodySpec)) checkBodyCard

/-- THE TIED CARD OF 'avocetlaw12.SideIs'. -/
def sideIsCard : Claim7 := { stood := { row := sideIsRow, standIns := [], harness := (true, "e9181e910716d7009dd7b2fd6ac3a7de6152ae4641aee237ebc00dfbf8a83c59"), looks := false }, kinds := [], alts := [], laidByText := true, laidKinds := [.data, .data], laidTests := true, laidLooks := .later }
def SideIsCardSaid : Prop := Claim7.holds Tryz.pinned (.plain (OpenSpec.ofChange sideIsSpec)) sideIsCard

/-- THE TIED CARD OF 'avocetlaw12.SideOrder'. -/
def sideOrderCard : Claim7 := { stood := { row := sideOrderRow, standIns := [], harness := (true, "e9181e910716d7009dd7b2fd6ac3a7de6152ae4641aee237ebc00dfbf8a83c59"), looks := false }, kinds := [], alts := [], laidByText := true, laidKinds := [.data, .data], laidTests := true, laidLooks := .later }
def SideOrderCardSaid : Prop := Claim7.holds Tryz.pinned (.plain (OpenSpec.ofChange sideOrderSpec)) sideOrderCard

/-- THE TIED CARD OF 'avocetlaw12.SideLands'. -/
def sideLandsCard : Claim7 := { stood := { row := sideLandsRow, standIns := [], harness := (true, "e9181e910716d7009dd7b2fd6ac3a7de6152ae4641aee237ebc00dfbf8a83c59"), looks := false }, kinds := [], alts := [], laidByText := true, laidKinds := [.data, .data], laidTests := true, laidLooks := .later }
def SideLandsCardSaid : Prop := Claim7.holds Tryz.pinned (.plain (OpenSpec.ofChange sideLandsSpec)) sideLandsCard

/-- THE TIED CARD OF 'avocetlaw12.SideMoves'. -/
def sideMovesCard : Claim7 := { stood := { row := sideMovesRow, standIns := [], harness := (true, "e9181e910716d7009dd7b2fd6ac3a7de6152ae4641aee237ebc00dfbf8a83c59"), looks := false }, kinds := [], alts := [], laidByText := true, laidKinds := [.data, .data], laidTests := true, laidLooks := .later }
def SideMovesCardSaid : Prop := Claim7.holds Tryz.pinned (.plain (OpenSpec.ofChange sideMovesSpec)) sideMovesCard

/-- THE TIED CARD OF 'avocetlaw12.SideCounts'. -/
def sideCountsCard : Claim7 := { stood := { row := sideCountsRow, standIns := [], harness := (true, "e9181e910716d7009dd7b2fd6ac3a7de6152ae4641aee237ebc00dfbf8a83c59"), looks := false }, kinds := [], alts := [], laidByText := true, laidKinds := [.data, .data], laidTests := true, laidLooks := .later }
def SideCountsCardSaid : Prop := Claim7.holds Tryz.pinned (.plain (OpenSpec.ofChange sideCountsSpec)) sideCountsCard

/-- THE TIED CARD OF 'avocetlaw12.SideBack'. -/
def sideBackCard : Claim7 := { stood := { row := sideBackRow, standIns := [], harness := (true, "e9181e910716d7009dd7b2fd6ac3a7de6152ae4641aee237ebc00dfbf8a83c59"), looks := false }, kinds := [], alts := [], laidByText := true, laidKinds := [.data, .data], laidTests := true, laidLooks := .later }
def SideBackCardSaid : Prop := Claim7.holds Tryz.pinned (.plain (OpenSpec.ofChange sideBackSpec)) sideBackCard

/-- THE SECOND FORM's CARD OF 'avocetlaw10.CheckStep'. -/
def checkStepUptoCard : Claim7 := { stood := { row := checkStepUptoRow, standIns := [], harness := (true, "e9181e910716d7009dd7b2fd6ac3a7de6152ae4641aee237ebc00dfbf8a83c59"), looks := false }, kinds := [], alts := [], laidByText := true, laidKinds := [.data, .data], laidTests := true, laidLooks := .later }
def CheckStepUptoCardSaid : Prop := Claim7.holds Tryz.pinned (.plain (OpenSpec.upto checkStepSpec)) checkStepUptoCard

/-- THE SECOND FORM's CARD OF 'avocetlaw10.CheckBody'. -/
def checkBodyUptoCard : Claim7 := { stood := { row := checkBodyUptoRow, standIns := [], harness := (true, "e9181e910716d7009dd7b2fd6ac3a7de6152ae4641aee237ebc00dfbf8a83c59"), looks := false }, kinds := [], alts := [], laidByText := true, laidKinds := [.data, .data], laidTests := true, laidLooks := .later }
def CheckBodyUptoCardSaid : Prop := Claim7.holds Tryz.pinned (.plain (OpenSpec.upto checkBodySpec)) checkBodyUptoCard

/-- THE SECOND FORM's CARD OF 'avocetlaw12.SideIs'. -/
def sideIsUptoCard : Claim7 := { stood := { row := sideIsUptoRow, standIns := [], harness := (true, "e9181e910716d7009dd7b2fd6ac3a7de6152ae4641aee237ebc00dfbf8a83c59"), looks := false }, kinds := [], alts := [], laidByText := true, laidKinds := [.data, .data], laidTests := true, laidLooks := .later }
def SideIsUptoCardSaid : Prop := Claim7.holds Tryz.pinned (.plain (OpenSpec.upto sideIsSpec)) sideIsUptoCard

/-- THE SECOND FORM's CARD OF 'avocetlaw12.SideOrder'. -/
def sideOrderUptoCard : Claim7 := { stood := { row := sideOrderUptoRow, standIns := [], harness := (true, "e9181e910716d7009dd7b2fd6ac3a7de6152ae4641aee237ebc00dfbf8a83c59"), looks := false }, kinds := [], alts := [], laidByText := true, laidKinds := [.data, .data], laidTests := true, laidLooks := .later }
def SideOrderUptoCardSaid : Prop := Claim7.holds Tryz.pinned (.plain (OpenSpec.upto sideOrderSpec)) sideOrderUptoCard

/-- THE SECOND FORM's CARD OF 'avocetlaw12.SideLands'. -/
def sideLandsUptoCard : Claim7 := { stood := { row := sideLandsUptoRow, standIns := [], harness := (true, "e9181e910716d7009dd7b2fd6ac3a7de6152ae4641aee237ebc00dfbf8a83c59"), looks := false }, kinds := [], alts := [], laidByText := true, laidKinds := [.data, .data], laidTests := true, laidLooks := .later }
def SideLandsUptoCardSaid : Prop := Claim7.holds Tryz.pinned (.plain (OpenSpec.upto sideLandsSpec)) sideLandsUptoCard

/-- THE SECOND FORM's CARD OF 'avocetlaw12.SideMoves'. -/
def sideMovesUptoCard : Claim7 := { stood := { row := sideMovesUptoRow, standIns := [], harness := (true, "e9181e910716d7009dd7b2fd6ac3a7de6152ae4641aee237ebc00dfbf8a83c59"), looks := false }, kinds := [], alts := [], laidByText := true, laidKinds := [.data, .data], laidTests := true, laidLooks := .later }
def SideMovesUptoCardSaid : Prop := Claim7.holds Tryz.pinned (.plain (OpenSpec.upto sideMovesSpec)) sideMovesUptoCard

/-- THE SECOND FORM's CARD OF 'avocetlaw12.SideCounts'. -/
def sideCountsUptoCard : Claim7 := { stood := { row := sideCountsUptoRow, standIns := [], harness := (true, "e9181e910716d7009dd7b2fd6ac3a7de6152ae4641aee237ebc00dfbf8a83c59"), looks := false }, kinds := [], alts := [], laidByText := true, laidKinds := [.data, .data], laidTests := true, laidLooks := .later }
def SideCountsUptoCardSaid : Prop := Claim7.holds Tryz.pinned (.plain (OpenSpec.upto sideCountsSpec)) sideCountsUptoCard

/-- THE SECOND FORM's CARD OF 'avocetlaw12.SideBack'. -/
def sideBackUptoCard : Claim7 := { stood := { row := sideBackUptoRow, standIns := [], harness := (true, "e9181e910716d7009dd7b2fd6ac3a7de6152ae4641aee237ebc00dfbf8a83c59"), looks := false }, kinds := [], alts := [], laidByText := true, laidKinds := [.data, .data], laidTests := true, laidLooks := .later }
def SideBackUptoCardSaid : Prop := Claim7.holds Tryz.pinned (.plain (OpenSpec.upto sideBackSpec)) sideBackUptoCard
end Rows
end Go.Proofs.YtfpioigggjnffaaGreatDoor
