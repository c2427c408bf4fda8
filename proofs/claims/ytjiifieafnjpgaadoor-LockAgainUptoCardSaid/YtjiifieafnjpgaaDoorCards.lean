/-
  DERIVED. GIVEN WITH THE SEED: THE CARDS: each row of YtjiifieafnjpgaaDoorRows.lean that lists a variable, with what it lists TIED to the program's text (the seventh form; the later family's looks); each row that meets fmt, with fmt's text TOLD by the authors' own Lean function (tested against real Go, not proved from fmt's source: count such statements apart). THE CARD IS WHAT COUNTS. Prove the row's statement (the work); the ties are given (YtjiifieafnjpgaaDoorTie.lean); close each card by the builder's one call (the guide's Derived/Test/ToyasCard.lean, 'card_holds'). Laid BY PROGRAM, IN A SANDBOX (cutbox-door.mjs). By AI agents, Wed Nov 11 2026. No macro, syntax, notation, axiom, sorry.
-/
import Derived.Test.YtjiifieafnjpgaaDoorRows
import GoSem.ClaimSeven
namespace Go.Proofs.YtjiifieafnjpgaaDoor
namespace Rows

/-- THE TIED CARD OF 'halyardlaw07.LockMay'. -/
def lockMayCard : Claim7 := { stood := { row := lockMayRow, standIns := [], harness := (true, "4c5861f9d429f0f4f0150ee3012ebf69c843a2e02961168a0ed51d503a704fad"), looks := true }, kinds := [], alts := [], laidByText := true, laidKinds := [.data, .data, .data, .data, .sentinel, .sentinel, .pinned], laidTests := true, laidLooks := .later }
def LockMayCardSaid : Prop := Claim7.holds Tryd.pinned (.plain (OpenSpec.ofChange lockMaySpec)) lockMayCard

/-- THE TIED CARD OF 'halyardlaw07.LockAgain'. -/
def lockAgainCard : Claim7 := { stood := { row := lockAgainRow, standIns := [], harness := (true, "4c5861f9d429f0f4f0150ee3012ebf69c843a2e02961168a0ed51d503a704fad"), looks := true }, kinds := [], alts := [], laidByText := true, laidKinds := [.data, .data, .data, .data, .sentinel, .sentinel, .pinned], laidTests := true, laidLooks := .later }
def LockAgainCardSaid : Prop := Claim7.holds Tryd.pinned (.plain (OpenSpec.ofChange lockAgainSpec)) lockAgainCard

/-- THE TIED CARD OF 'halyardlaw07.LockTexts'. -/
def lockTextsCard : Claim7 := { stood := { row := lockTextsRow, standIns := [], harness := (true, "4c5861f9d429f0f4f0150ee3012ebf69c843a2e02961168a0ed51d503a704fad"), looks := true }, kinds := [], alts := [], laidByText := true, laidKinds := [.data, .data, .data, .data, .sentinel, .sentinel, .pinned], laidTests := true, laidLooks := .later }
def LockTextsCardSaid : Prop := Claim7.holds Tryd.pinned (.plain (OpenSpec.ofChange lockTextsSpec)) lockTextsCard

/-- THE SECOND FORM's CARD OF 'halyardlaw07.LockMay'. -/
def lockMayUptoCard : Claim7 := { stood := { row := lockMayUptoRow, standIns := [], harness := (true, "4c5861f9d429f0f4f0150ee3012ebf69c843a2e02961168a0ed51d503a704fad"), looks := true }, kinds := [], alts := [], laidByText := true, laidKinds := [.data, .data, .data, .data, .sentinel, .sentinel, .pinned], laidTests := true, laidLooks := .later }
def LockMayUptoCardSaid : Prop := Claim7.holds Tryd.pinned (.plain (OpenSpec.upto lockMaySpec)) lockMayUptoCard

/-- THE SECOND FORM's CARD OF 'halyardlaw07.LockAgain'. -/
def lockAgainUptoCard : Claim7 := { stood := { row := lockAgainUptoRow, standIns := [], harness := (true, "4c5861f9d429f0f4f0150ee3012ebf69c843a2e02961168a0ed51d503a704fad"), looks := true }, kinds := [], alts := [], laidByText := true, laidKinds := [.data, .data, .data, .data, .sentinel, .sentinel, .pinned], laidTests := true, laidLooks := .later }
def LockAgainUptoCardSaid : Prop := Claim7.holds Tryd.pinned (.plain (OpenSpec.upto lockAgainSpec)) lockAgainUptoCard

/-- THE SECOND FORM's CARD OF 'halyardlaw07.LockTexts'. -/
def lockTextsUptoCard : Claim7 := { stood := { row := lockTextsUptoRow, standIns := [], harness := (true, "4c5861f9d429f0f4f0150ee3012ebf69c843a2e02961168a0ed51d503a704fad"), looks := true }, kinds := [], alts := [], laidByText := true, laidKinds := [.data, .data, .data, .data, .sentinel, .sentinel, .pinned], laidTests := true, laidLooks := .later }
def LockTextsUptoCardSaid : Prop := Claim7.holds Tryd.pinned (.plain (OpenSpec.upto lockTextsSpec)) lockTextsUptoCard
end Rows
end Go.Proofs.YtjiifieafnjpgaaDoor
