/-
  DERIVED. GIVEN WITH THE SEED: THE CARDS: each row of YtcohlmdnahdnaaaGreatDoorRows.lean that lists a variable, with what it lists TIED to the program's text (the seventh form; the later family's looks); each row that meets fmt, with fmt's text TOLD by the authors' own Lean function (tested against real Go, not proved from fmt's source: count such statements apart). THE CARD IS WHAT COUNTS. Prove the row's statement (the work); the ties are given (YtcohlmdnahdnaaaGreatDoorTie.lean); close each card by the builder's one call (the guide's Derived/Test/ToyasCard.lean, 'card_holds'). Laid BY PROGRAM, IN A SANDBOX (cutbox-door.mjs). By AI agents, Wed Nov 11 2026. No macro, syntax, notation, axiom, sorry.
-/
import Derived.Test.YtcohlmdnahdnaaaGreatDoorRows
import GoSem.ClaimSeven
namespace Go.Proofs.YtcohlmdnahdnaaaGreatDoor
namespace Rows

/-- THE TIED CARD OF 'halyardtop.TopSolved'. -/
def topSolvedCard : Claim7 := { stood := { row := topSolvedRow, standIns := [], harness := (true, "c87fbe7b1a43fee3149242986d3437fd9b375284148ddf80d6c608458d87dbd4"), looks := false }, kinds := [], alts := [], laidByText := true, laidKinds := [.data, .data, .data, .data, .pinned], laidTests := true, laidLooks := .later }
def TopSolvedCardSaid : Prop := Claim7.holds Tryz.pinned (.plain (OpenSpec.ofChange topSolvedSpec)) topSolvedCard

/-- THE TIED CARD OF 'halyardtop.TopUnsat'. -/
def topUnsatCard : Claim7 := { stood := { row := topUnsatRow, standIns := [], harness := (true, "c87fbe7b1a43fee3149242986d3437fd9b375284148ddf80d6c608458d87dbd4"), looks := false }, kinds := [], alts := [], laidByText := true, laidKinds := [.data, .data, .data, .data, .pinned], laidTests := true, laidLooks := .later }
def TopUnsatCardSaid : Prop := Claim7.holds Tryz.pinned (.plain (OpenSpec.ofChange topUnsatSpec)) topUnsatCard

/-- THE TIED CARD OF 'halyardtop.TopRoom'. -/
def topRoomCard : Claim7 := { stood := { row := topRoomRow, standIns := [], harness := (true, "c87fbe7b1a43fee3149242986d3437fd9b375284148ddf80d6c608458d87dbd4"), looks := false }, kinds := [], alts := [], laidByText := true, laidKinds := [.data, .data, .data, .data, .pinned], laidTests := true, laidLooks := .later }
def TopRoomCardSaid : Prop := Claim7.holds Tryz.pinned (.plain (OpenSpec.ofChange topRoomSpec)) topRoomCard

/-- THE SECOND FORM's CARD OF 'halyardtop.TopSolved'. -/
def topSolvedUptoCard : Claim7 := { stood := { row := topSolvedUptoRow, standIns := [], harness := (true, "c87fbe7b1a43fee3149242986d3437fd9b375284148ddf80d6c608458d87dbd4"), looks := false }, kinds := [], alts := [], laidByText := true, laidKinds := [.data, .data, .data, .data, .pinned], laidTests := true, laidLooks := .later }
def TopSolvedUptoCardSaid : Prop := Claim7.holds Tryz.pinned (.plain (OpenSpec.upto topSolvedSpec)) topSolvedUptoCard

/-- THE SECOND FORM's CARD OF 'halyardtop.TopUnsat'. -/
def topUnsatUptoCard : Claim7 := { stood := { row := topUnsatUptoRow, standIns := [], harness := (true, "c87fbe7b1a43fee3149242986d3437fd9b375284148ddf80d6c608458d87dbd4"), looks := false }, kinds := [], alts := [], laidByText := true, laidKinds := [.data, .data, .data, .data, .pinned], laidTests := true, laidLooks := .later }
def TopUnsatUptoCardSaid : Prop := Claim7.holds Tryz.pinned (.plain (OpenSpec.upto topUnsatSpec)) topUnsatUptoCard

/-- THE SECOND FORM's CARD OF 'halyardtop.TopRoom'. -/
def topRoomUptoCard : Claim7 := { stood := { row := topRoomUptoRow, standIns := [], harness := (true, "c87fbe7b1a43fee3149242986d3437fd9b375284148ddf80d6c608458d87dbd4"), looks := false }, kinds := [], alts := [], laidByText := true, laidKinds := [.data, .data, .data, .data, .pinned], laidTests := true, laidLooks := .later }
def TopRoomUptoCardSaid : Prop := Claim7.holds Tryz.pinned (.plain (OpenSpec.upto topRoomSpec)) topRoomUptoCard
end Rows
end Go.Proofs.YtcohlmdnahdnaaaGreatDoor
