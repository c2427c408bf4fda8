/-
  DERIVED. GIVEN WITH THE SEED: THE CARDS: each row of YtdogacgpfnolfaaGreatDoorRows.lean that lists a variable, with what it lists TIED to the program's text (the seventh form; the later family's looks); each row that meets fmt, with fmt's text TOLD by the authors' own Lean function (tested against real Go, not proved from fmt's source: count such statements apart). THE CARD IS WHAT COUNTS. Prove the row's statement (the work); the ties are given (YtdogacgpfnolfaaGreatDoorTie.lean); close each card by the builder's one call (the guide's Derived/Test/ToyasCard.lean, 'card_holds'). Laid BY PROGRAM, IN A SANDBOX (cutbox-door.mjs). By AI agents, Wed Nov 11 2026. No macro, syntax, notation, axiom, sorry.
-/
import Derived.Test.YtdogacgpfnolfaaGreatDoorRows
import GoSem.ClaimSeven
namespace Go.Proofs.YtdogacgpfnolfaaGreatDoor
namespace Rows

/-- THE TIED CARD OF 'halyardlaw18.JournalQuiet'. -/
def journalQuietCard : Claim7 := { stood := { row := journalQuietRow, standIns := [], harness := (true, "7974c66a52b0eba8a7c0362444d221d63d01fc642b3379fcb1f4ef02bb764dc1"), looks := false }, kinds := [], alts := [], laidByText := true, laidKinds := [.data, .pinned], laidTests := true, laidLooks := .later }
def JournalQuietCardSaid : Prop := Claim7.holds Tryz.pinned (.plain (OpenSpec.ofChange journalQuietSpec)) journalQuietCard

/-- THE TIED CARD OF 'halyardlaw18.JournalStill'. -/
def journalStillCard : Claim7 := { stood := { row := journalStillRow, standIns := [], harness := (true, "7974c66a52b0eba8a7c0362444d221d63d01fc642b3379fcb1f4ef02bb764dc1"), looks := false }, kinds := [], alts := [], laidByText := true, laidKinds := [.data, .pinned], laidTests := true, laidLooks := .later }
def JournalStillCardSaid : Prop := Claim7.holds Tryz.pinned (.plain (OpenSpec.ofChange journalStillSpec)) journalStillCard

/-- THE TIED CARD OF 'halyardlaw18.JournalAll'. -/
def journalAllCard : Claim7 := { stood := { row := journalAllRow, standIns := [], harness := (true, "7974c66a52b0eba8a7c0362444d221d63d01fc642b3379fcb1f4ef02bb764dc1"), looks := false }, kinds := [], alts := [], laidByText := true, laidKinds := [.data, .pinned], laidTests := true, laidLooks := .later }
def JournalAllCardSaid : Prop := Claim7.holds Tryz.pinned (.plain (OpenSpec.ofChange journalAllSpec)) journalAllCard

/-- THE SECOND FORM's CARD OF 'halyardlaw18.JournalQuiet'. -/
def journalQuietUptoCard : Claim7 := { stood := { row := journalQuietUptoRow, standIns := [], harness := (true, "7974c66a52b0eba8a7c0362444d221d63d01fc642b3379fcb1f4ef02bb764dc1"), looks := false }, kinds := [], alts := [], laidByText := true, laidKinds := [.data, .pinned], laidTests := true, laidLooks := .later }
def JournalQuietUptoCardSaid : Prop := Claim7.holds Tryz.pinned (.plain (OpenSpec.upto journalQuietSpec)) journalQuietUptoCard

/-- THE SECOND FORM's CARD OF 'halyardlaw18.JournalStill'. -/
def journalStillUptoCard : Claim7 := { stood := { row := journalStillUptoRow, standIns := [], harness := (true, "7974c66a52b0eba8a7c0362444d221d63d01fc642b3379fcb1f4ef02bb764dc1"), looks := false }, kinds := [], alts := [], laidByText := true, laidKinds := [.data, .pinned], laidTests := true, laidLooks := .later }
def JournalStillUptoCardSaid : Prop := Claim7.holds Tryz.pinned (.plain (OpenSpec.upto journalStillSpec)) journalStillUptoCard

/-- THE SECOND FORM's CARD OF 'halyardlaw18.JournalAll'. -/
def journalAllUptoCard : Claim7 := { stood := { row := journalAllUptoRow, standIns := [], harness := (true, "7974c66a52b0eba8a7c0362444d221d63d01fc642b3379fcb1f4ef02bb764dc1"), looks := false }, kinds := [], alts := [], laidByText := true, laidKinds := [.data, .pinned], laidTests := true, laidLooks := .later }
def JournalAllUptoCardSaid : Prop := Claim7.holds Tryz.pinned (.plain (OpenSpec.upto journalAllSpec)) journalAllUptoCard
end Rows
end Go.Proofs.YtdogacgpfnolfaaGreatDoor
