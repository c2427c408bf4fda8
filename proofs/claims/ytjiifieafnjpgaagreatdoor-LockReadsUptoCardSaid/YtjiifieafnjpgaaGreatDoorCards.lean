/-
  DERIVED. GIVEN WITH THE SEED: THE CARDS: each row of YtjiifieafnjpgaaGreatDoorRows.lean that lists a variable, with what it lists TIED to the program's text (the seventh form; the later family's looks); each row that meets fmt, with fmt's text TOLD by the authors' own Lean function (tested against real Go, not proved from fmt's source: count such statements apart). THE CARD IS WHAT COUNTS. Prove the row's statement (the work); the ties are given (YtjiifieafnjpgaaGreatDoorTie.lean); close each card by the builder's one call (the guide's Derived/Test/ToyasCard.lean, 'card_holds'). Laid BY PROGRAM, IN A SANDBOX (cutbox-door.mjs). By AI agents, Wed Nov 11 2026. No macro, syntax, notation, axiom, sorry.
-/
import Derived.Test.YtjiifieafnjpgaaGreatDoorRows
import GoSem.ClaimSeven
namespace Go.Proofs.YtjiifieafnjpgaaGreatDoor
namespace Rows

/-- THE TIED CARD OF 'halyardlaw07.LockReads'. -/
def lockReadsCard : Claim7 := { stood := { row := lockReadsRow, standIns := [], harness := (true, "661eb4e46d4ece52befacd4b7763b2beeeeb127ebd27ff20453abc7a1ab27acc"), looks := true }, kinds := [], alts := [], laidByText := true, laidKinds := [.data, .data, .data, .data, .sentinel, .sentinel, .pinned], laidTests := true, laidLooks := .later }
def LockReadsCardSaid : Prop := Claim7.holds Tryz.pinned (.plain (OpenSpec.ofChange lockReadsSpec)) lockReadsCard

/-- THE SECOND FORM's CARD OF 'halyardlaw07.LockReads'. -/
def lockReadsUptoCard : Claim7 := { stood := { row := lockReadsUptoRow, standIns := [], harness := (true, "661eb4e46d4ece52befacd4b7763b2beeeeb127ebd27ff20453abc7a1ab27acc"), looks := true }, kinds := [], alts := [], laidByText := true, laidKinds := [.data, .data, .data, .data, .sentinel, .sentinel, .pinned], laidTests := true, laidLooks := .later }
def LockReadsUptoCardSaid : Prop := Claim7.holds Tryz.pinned (.plain (OpenSpec.upto lockReadsSpec)) lockReadsUptoCard
end Rows
end Go.Proofs.YtjiifieafnjpgaaGreatDoor
