/-
  DERIVED. GIVEN WITH THE SEED: THE CARDS: each row of YtklnkkejkeelaaaDoorRows.lean that lists a variable, with what it lists TIED to the program's text (the seventh form; the later family's looks); each row that meets fmt, with fmt's text TOLD by the authors' own Lean function (tested against real Go, not proved from fmt's source: count such statements apart). THE CARD IS WHAT COUNTS. Prove the row's statement (the work); the ties are given (YtklnkkejkeelaaaDoorTie.lean); close each card by the builder's one call (the guide's Derived/Test/ToyasCard.lean, 'card_holds'). Laid BY PROGRAM, IN A SANDBOX (cutbox-door.mjs). By AI agents, Wed Nov 11 2026. No macro, syntax, notation, axiom, sorry.
-/
import Derived.Test.YtklnkkejkeelaaaDoorRows
import GoSem.ClaimSeven
namespace Go.Proofs.YtklnkkejkeelaaaDoor
namespace Rows

/-- THE TIED CARD OF 'avocetlaw06.BodyNests'. -/
def bodyNestsCard : Claim7 := { stood := { row := bodyNestsRow, standIns := [], harness := (true, "cb3551cf36f624c5419fbcf7175bd5f65c1f8d2d60cb9fd2f641013f60f08a40"), looks := false }, kinds := [], alts := [], laidByText := true, laidKinds := [.data], laidTests := true, laidLooks := .later }
def BodyNestsCardSaid : Prop := Claim7.holds Tryd.pinned (.plain (OpenSpec.ofChange bodyNestsSpec)) bodyNestsCard

/-- THE TIED CARD OF 'avocetlaw06.BodyTargets'. -/
def bodyTargetsCard : Claim7 := { stood := { row := bodyTargetsRow, standIns := [], harness := (true, "cb3551cf36f624c5419fbcf7175bd5f65c1f8d2d60cb9fd2f641013f60f08a40"), looks := false }, kinds := [], alts := [], laidByText := true, laidKinds := [.data], laidTests := true, laidLooks := .later }
def BodyTargetsCardSaid : Prop := Claim7.holds Tryd.pinned (.plain (OpenSpec.ofChange bodyTargetsSpec)) bodyTargetsCard

/-- THE TIED CARD OF 'avocetlaw06.BodyDeeper'. -/
def bodyDeeperCard : Claim7 := { stood := { row := bodyDeeperRow, standIns := [], harness := (true, "cb3551cf36f624c5419fbcf7175bd5f65c1f8d2d60cb9fd2f641013f60f08a40"), looks := false }, kinds := [], alts := [], laidByText := true, laidKinds := [.data], laidTests := true, laidLooks := .later }
def BodyDeeperCardSaid : Prop := Claim7.holds Tryd.pinned (.plain (OpenSpec.ofChange bodyDeeperSpec)) bodyDeeperCard

/-- THE TIED CARD OF 'avocetlaw06.BodyRows'. -/
def bodyRowsCard : Claim7 := { stood := { row := bodyRowsRow, standIns := [], harness := (true, "cb3551cf36f624c5419fbcf7175bd5f65c1f8d2d60cb9fd2f641013f60f08a40"), looks := false }, kinds := [], alts := [], laidByText := true, laidKinds := [.data], laidTests := true, laidLooks := .later }
def BodyRowsCardSaid : Prop := Claim7.holds Tryd.pinned (.plain (OpenSpec.ofChange bodyRowsSpec)) bodyRowsCard

/-- THE TIED CARD OF 'avocetlaw05.InstrBack'. -/
def instrBackCard : Claim7 := { stood := { row := instrBackRow, standIns := [], harness := (true, "cb3551cf36f624c5419fbcf7175bd5f65c1f8d2d60cb9fd2f641013f60f08a40"), looks := false }, kinds := [], alts := [], laidByText := true, laidKinds := [.data], laidTests := true, laidLooks := .later }
def InstrBackCardSaid : Prop := Claim7.holds Tryd.pinned (.plain (OpenSpec.ofChange instrBackSpec)) instrBackCard

/-- THE TIED CARD OF 'avocetlaw05.InstrTold'. -/
def instrToldCard : Claim7 := { stood := { row := instrToldRow, standIns := [], harness := (true, "cb3551cf36f624c5419fbcf7175bd5f65c1f8d2d60cb9fd2f641013f60f08a40"), looks := false }, kinds := [], alts := [], laidByText := true, laidKinds := [.data], laidTests := true, laidLooks := .later }
def InstrToldCardSaid : Prop := Claim7.holds Tryd.pinned (.plain (OpenSpec.ofChange instrToldSpec)) instrToldCard

/-- THE TIED CARD OF 'avocetlaw05.InstrRow'. -/
def instrRowCard : Claim7 := { stood := { row := instrRowRow, standIns := [], harness := (true, "cb3551cf36f624c5419fbcf7175bd5f65c1f8d2d60cb9fd2f641013f60f08a40"), looks := false }, kinds := [], alts := [], laidByText := true, laidKinds := [.data], laidTests := true, laidLooks := .later }
def InstrRowCardSaid : Prop := Claim7.holds Tryd.pinned (.plain (OpenSpec.ofChange instrRowSpec)) instrRowCard

/-- THE TIED CARD OF 'avocetlaw05.InstrSame'. -/
def instrSameCard : Claim7 := { stood := { row := instrSameRow, standIns := [], harness := (true, "cb3551cf36f624c5419fbcf7175bd5f65c1f8d2d60cb9fd2f641013f60f08a40"), looks := false }, kinds := [], alts := [], laidByText := true, laidKinds := [.data], laidTests := true, laidLooks := .later }
def InstrSameCardSaid : Prop := Claim7.holds Tryd.pinned (.plain (OpenSpec.ofChange instrSameSpec)) instrSameCard

/-- THE TIED CARD OF 'avocetlaw05.InstrIs'. -/
def instrIsCard : Claim7 := { stood := { row := instrIsRow, standIns := [], harness := (true, "cb3551cf36f624c5419fbcf7175bd5f65c1f8d2d60cb9fd2f641013f60f08a40"), looks := false }, kinds := [], alts := [], laidByText := true, laidKinds := [.data, .data], laidTests := true, laidLooks := .later }
def InstrIsCardSaid : Prop := Claim7.holds Tryd.pinned (.plain (OpenSpec.ofChange instrIsSpec)) instrIsCard

/-- THE TIED CARD OF 'avocetlaw05.InstrOps'. -/
def instrOpsCard : Claim7 := { stood := { row := instrOpsRow, standIns := [], harness := (true, "cb3551cf36f624c5419fbcf7175bd5f65c1f8d2d60cb9fd2f641013f60f08a40"), looks := false }, kinds := [], alts := [], laidByText := true, laidKinds := [.data, .data], laidTests := true, laidLooks := .later }
def InstrOpsCardSaid : Prop := Claim7.holds Tryd.pinned (.plain (OpenSpec.ofChange instrOpsSpec)) instrOpsCard

/-- THE TIED CARD OF 'avocetlaw06.BodyBack'. -/
def bodyBackCard : Claim7 := { stood := { row := bodyBackRow, standIns := [], harness := (true, "cb3551cf36f624c5419fbcf7175bd5f65c1f8d2d60cb9fd2f641013f60f08a40"), looks := false }, kinds := [], alts := [], laidByText := true, laidKinds := [.data], laidTests := true, laidLooks := .later }
def BodyBackCardSaid : Prop := Claim7.holds Tryd.pinned (.plain (OpenSpec.ofChange bodyBackSpec)) bodyBackCard

/-- THE TIED CARD OF 'avocetlaw06.BodyIs'. -/
def bodyIsCard : Claim7 := { stood := { row := bodyIsRow, standIns := [], harness := (true, "cb3551cf36f624c5419fbcf7175bd5f65c1f8d2d60cb9fd2f641013f60f08a40"), looks := false }, kinds := [], alts := [], laidByText := true, laidKinds := [.data], laidTests := true, laidLooks := .later }
def BodyIsCardSaid : Prop := Claim7.holds Tryd.pinned (.plain (OpenSpec.ofChange bodyIsSpec)) bodyIsCard

/-- THE SECOND FORM's CARD OF 'avocetlaw06.BodyNests'. -/
def bodyNestsUptoCard : Claim7 := { stood := { row := bodyNestsUptoRow, standIns := [], harness := (true, "cb3551cf36f624c5419fbcf7175bd5f65c1f8d2d60cb9fd2f641013f60f08a40"), looks := false }, kinds := [], alts := [], laidByText := true, laidKinds := [.data], laidTests := true, laidLooks := .later }
def BodyNestsUptoCardSaid : Prop := Claim7.holds Tryd.pinned (.plain (OpenSpec.upto bodyNestsSpec)) bodyNestsUptoCard

/-- THE SECOND FORM's CARD OF 'avocetlaw06.BodyTargets'. -/
def bodyTargetsUptoCard : Claim7 := { stood := { row := bodyTargetsUptoRow, standIns := [], harness := (true, "cb3551cf36f624c5419fbcf7175bd5f65c1f8d2d60cb9fd2f641013f60f08a40"), looks := false }, kinds := [], alts := [], laidByText := true, laidKinds := [.data], laidTests := true, laidLooks := .later }
def BodyTargetsUptoCardSaid : Prop := Claim7.holds Tryd.pinned (.plain (OpenSpec.upto bodyTargetsSpec)) bodyTargetsUptoCard

/-- THE SECOND FORM's CARD OF 'avocetlaw06.BodyDeeper'. -/
def bodyDeeperUptoCard : Claim7 := { stood := { row := bodyDeeperUptoRow, standIns := [], harness := (true, "cb3551cf36f624c5419fbcf7175bd5f65c1f8d2d60cb9fd2f641013f60f08a40"), looks := false }, kinds := [], alts := [], laidByText := true, laidKinds := [.data], laidTests := true, laidLooks := .later }
def BodyDeeperUptoCardSaid : Prop := Claim7.holds Tryd.pinned (.plain (OpenSpec.upto bodyDeeperSpec)) bodyDeeperUptoCard

/-- THE SECOND FORM's CARD OF 'avocetlaw06.BodyRows'. -/
def bodyRowsUptoCard : Claim7 := { stood := { row := bodyRowsUptoRow, standIns := [], harness := (true, "cb3551cf36f624c5419fbcf7175bd5f65c1f8d2d60cb9fd2f641013f60f08a40"), looks := false }, kinds := [], alts := [], laidByText := true, laidKinds := [.data], laidTests := true, laidLooks := .later }
def BodyRowsUptoCardSaid : Prop := Claim7.holds Tryd.pinned (.plain (OpenSpec.upto bodyRowsSpec)) bodyRowsUptoCard

/-- THE SECOND FORM's CARD OF 'avocetlaw05.InstrBack'. -/
def instrBackUptoCard : Claim7 := { stood := { row := instrBackUptoRow, standIns := [], harness := (true, "cb3551cf36f624c5419fbcf7175bd5f65c1f8d2d60cb9fd2f641013f60f08a40"), looks := false }, kinds := [], alts := [], laidByText := true, laidKinds := [.data], laidTests := true, laidLooks := .later }
def InstrBackUptoCardSaid : Prop := Claim7.holds Tryd.pinned (.plain (OpenSpec.upto instrBackSpec)) instrBackUptoCard

/-- THE SECOND FORM's CARD OF 'avocetlaw05.InstrTold'. -/
def instrToldUptoCard : Claim7 := { stood := { row := instrToldUptoRow, standIns := [], harness := (true, "cb3551cf36f624c5419fbcf7175bd5f65c1f8d2d60cb9fd2f641013f60f08a40"), looks := false }, kinds := [], alts := [], laidByText := true, laidKinds := [.data], laidTests := true, laidLooks := .later }
def InstrToldUptoCardSaid : Prop := Claim7.holds Tryd.pinned (.plain (OpenSpec.upto instrToldSpec)) instrToldUptoCard

/-- THE SECOND FORM's CARD OF 'avocetlaw05.InstrRow'. -/
def instrRowUptoCard : Claim7 := { stood := { row := instrRowUptoRow, standIns := [], harness := (true, "cb3551cf36f624c5419fbcf7175bd5f65c1f8d2d60cb9fd2f641013f60f08a40"), looks := false }, kinds := [], alts := [], laidByText := true, laidKinds := [.data], laidTests := true, laidLooks := .later }
def InstrRowUptoCardSaid : Prop := Claim7.holds Tryd.pinned (.plain (OpenSpec.upto instrRowSpec)) instrRowUptoCard

/-- THE SECOND FORM's CARD OF 'avocetlaw05.InstrSame'. -/
def instrSameUptoCard : Claim7 := { stood := { row := instrSameUptoRow, standIns := [], harness := (true, "cb3551cf36f624c5419fbcf7175bd5f65c1f8d2d60cb9fd2f641013f60f08a40"), looks := false }, kinds := [], alts := [], laidByText := true, laidKinds := [.data], laidTests := true, laidLooks := .later }
def InstrSameUptoCardSaid : Prop := Claim7.holds Tryd.pinned (.plain (OpenSpec.upto instrSameSpec)) instrSameUptoCard

/-- THE SECOND FORM's CARD OF 'avocetlaw05.InstrIs'. -/
def instrIsUptoCard : Claim7 := { stood := { row := instrIsUptoRow, standIns := [], harness := (true, "cb3551cf36f624c5419fbcf7175bd5f65c1f8d2d60cb9fd2f641013f60f08a40"), looks := false }, kinds := [], alts := [], laidByText := true, laidKinds := [.data, .data], laidTests := true, laidLooks := .later }
def InstrIsUptoCardSaid : Prop := Claim7.holds Tryd.pinned (.plain (OpenSpec.upto instrIsSpec)) instrIsUptoCard

/-- THE SECOND FORM's CARD OF 'avocetlaw05.InstrOps'. -/
def instrOpsUptoCard : Claim7 := { stood := { row := instrOpsUptoRow, standIns := [], harness := (true, "cb3551cf36f624c5419fbcf7175bd5f65c1f8d2d60cb9fd2f641013f60f08a40"), looks := false }, kinds := [], alts := [], laidByText := true, laidKinds := [.data, .data], laidTests := true, laidLooks := .later }
def InstrOpsUptoCardSaid : Prop := Claim7.holds Tryd.pinned (.plain (OpenSpec.upto instrOpsSpec)) instrOpsUptoCard

/-- THE SECOND FORM's CARD OF 'avocetlaw06.BodyBack'. -/
def bodyBackUptoCard : Claim7 := { stood := { row := bodyBackUptoRow, standIns := [], harness := (true, "cb3551cf36f624c5419fbcf7175bd5f65c1f8d2d60cb9fd2f641013f60f08a40"), looks := false }, kinds := [], alts := [], laidByText := true, laidKinds := [.data], laidTests := true, laidLooks := .later }
def BodyBackUptoCardSaid : Prop := Claim7.holds Tryd.pinned (.plain (OpenSpec.upto bodyBackSpec)) bodyBackUptoCard

/-- THE SECOND FORM's CARD OF 'avocetlaw06.BodyIs'. -/
def bodyIsUptoCard : Claim7 := { stood := { row := bodyIsUptoRow, standIns := [], harness := (true, "cb3551cf36f624c5419fbcf7175bd5f65c1f8d2d60cb9fd2f641013f60f08a40"), looks := false }, kinds := [], alts := [], laidByText := true, laidKinds := [.data], laidTests := true, laidLooks := .later }
def BodyIsUptoCardSaid : Prop := Claim7.holds Tryd.pinned (.plain (OpenSpec.upto bodyIsSpec)) bodyIsUptoCard
end Rows
end Go.Proofs.YtklnkkejkeelaaaDoor
