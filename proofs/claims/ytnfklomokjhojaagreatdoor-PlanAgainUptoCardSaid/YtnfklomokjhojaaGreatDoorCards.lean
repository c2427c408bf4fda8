/-
  DERIVED. GIVEN WITH THE SEED: THE CARDS: each row of YtnfklomokjhojaaGreatDoorRows.lean that lists a variable, with what it lists TIED to the program's text (the seventh form; the later family's looks); each row that meets fmt, with fmt's text TOLD by the authors' own Lean function (tested against real Go, not proved from fmt's source: count such statements apart). THE CARD IS WHAT COUNTS. Prove the row's statement (the work); the ties are given (YtnfklomokjhojaaGreatDoorTie.lean); close each card by the builder's one call (the guide's Derived/Test/ToyasCard.lean, 'card_holds'). Laid BY PROGRAM, IN A SANDBOX (cutbox-door.mjs). By AI agents, Wed Nov 11 2026. No macro, syntax, notation, axiom, sorry.
-/
import Derived.Test.YtnfklomokjhojaaGreatDoorRows
import GoSem.ClaimSeven
namespace Go.Proofs.YtnfklomokjhojaaGreatDoor
namespace Rows

/-- THE TIED CARD OF 'halyardlaw01.DiskPlays'. -/
def diskPlaysCard : Claim7 := { stood := { row := diskPlaysRow, standIns := [], harness := (true, "e799944381ce3e5606fb41d0d15e8b1a2792928a1004f7935344a3eeb7b573e7"), looks := false }, kinds := [], alts := [], laidByText := true, laidKinds := [.data, .pinned], laidTests := true, laidLooks := .later }
def DiskPlaysCardSaid : Prop := Claim7.holds Tryz.pinned (.plain (OpenSpec.ofChange diskPlaysSpec)) diskPlaysCard

/-- THE TIED CARD OF 'halyardlaw01.DiskWhole'. -/
def diskWholeCard : Claim7 := { stood := { row := diskWholeRow, standIns := [], harness := (true, "e799944381ce3e5606fb41d0d15e8b1a2792928a1004f7935344a3eeb7b573e7"), looks := false }, kinds := [], alts := [], laidByText := true, laidKinds := [.data, .pinned], laidTests := true, laidLooks := .later }
def DiskWholeCardSaid : Prop := Claim7.holds Tryz.pinned (.plain (OpenSpec.ofChange diskWholeSpec)) diskWholeCard

/-- THE TIED CARD OF 'halyardlaw01.DiskOwns'. -/
def diskOwnsCard : Claim7 := { stood := { row := diskOwnsRow, standIns := [], harness := (true, "e799944381ce3e5606fb41d0d15e8b1a2792928a1004f7935344a3eeb7b573e7"), looks := false }, kinds := [], alts := [], laidByText := true, laidKinds := [.data, .pinned], laidTests := true, laidLooks := .later }
def DiskOwnsCardSaid : Prop := Claim7.holds Tryz.pinned (.plain (OpenSpec.ofChange diskOwnsSpec)) diskOwnsCard

/-- THE TIED CARD OF 'halyardlaw01.DiskLoads'. -/
def diskLoadsCard : Claim7 := { stood := { row := diskLoadsRow, standIns := [], harness := (true, "e799944381ce3e5606fb41d0d15e8b1a2792928a1004f7935344a3eeb7b573e7"), looks := false }, kinds := [], alts := [], laidByText := true, laidKinds := [.data, .pinned], laidTests := true, laidLooks := .later }
def DiskLoadsCardSaid : Prop := Claim7.holds Tryz.pinned (.plain (OpenSpec.ofChange diskLoadsSpec)) diskLoadsCard

/-- THE TIED CARD OF 'halyardlaw01.DiskSound'. -/
def diskSoundCard : Claim7 := { stood := { row := diskSoundRow, standIns := [], harness := (true, "e799944381ce3e5606fb41d0d15e8b1a2792928a1004f7935344a3eeb7b573e7"), looks := false }, kinds := [], alts := [], laidByText := true, laidKinds := [.data, .pinned], laidTests := true, laidLooks := .later }
def DiskSoundCardSaid : Prop := Claim7.holds Tryz.pinned (.plain (OpenSpec.ofChange diskSoundSpec)) diskSoundCard

/-- THE TIED CARD OF 'halyardlaw01.DiskAgain'. -/
def diskAgainCard : Claim7 := { stood := { row := diskAgainRow, standIns := [], harness := (true, "e799944381ce3e5606fb41d0d15e8b1a2792928a1004f7935344a3eeb7b573e7"), looks := false }, kinds := [], alts := [], laidByText := true, laidKinds := [.data, .pinned], laidTests := true, laidLooks := .later }
def DiskAgainCardSaid : Prop := Claim7.holds Tryz.pinned (.plain (OpenSpec.ofChange diskAgainSpec)) diskAgainCard

/-- THE TIED CARD OF 'halyardlaw17.PlanAgain'. -/
def planAgainCard : Claim7 := { stood := { row := planAgainRow, standIns := [], harness := (true, "e799944381ce3e5606fb41d0d15e8b1a2792928a1004f7935344a3eeb7b573e7"), looks := false }, kinds := [], alts := [], laidByText := true, laidKinds := [.data, .pinned], laidTests := true, laidLooks := .later }
def PlanAgainCardSaid : Prop := Claim7.holds Tryz.pinned (.plain (OpenSpec.ofChange planAgainSpec)) planAgainCard

/-- THE SECOND FORM's CARD OF 'halyardlaw01.DiskPlays'. -/
def diskPlaysUptoCard : Claim7 := { stood := { row := diskPlaysUptoRow, standIns := [], harness := (true, "e799944381ce3e5606fb41d0d15e8b1a2792928a1004f7935344a3eeb7b573e7"), looks := false }, kinds := [], alts := [], laidByText := true, laidKinds := [.data, .pinned], laidTests := true, laidLooks := .later }
def DiskPlaysUptoCardSaid : Prop := Claim7.holds Tryz.pinned (.plain (OpenSpec.upto diskPlaysSpec)) diskPlaysUptoCard

/-- THE SECOND FORM's CARD OF 'halyardlaw01.DiskWhole'. -/
def diskWholeUptoCard : Claim7 := { stood := { row := diskWholeUptoRow, standIns := [], harness := (true, "e799944381ce3e5606fb41d0d15e8b1a2792928a1004f7935344a3eeb7b573e7"), looks := false }, kinds := [], alts := [], laidByText := true, laidKinds := [.data, .pinned], laidTests := true, laidLooks := .later }
def DiskWholeUptoCardSaid : Prop := Claim7.holds Tryz.pinned (.plain (OpenSpec.upto diskWholeSpec)) diskWholeUptoCard

/-- THE SECOND FORM's CARD OF 'halyardlaw01.DiskOwns'. -/
def diskOwnsUptoCard : Claim7 := { stood := { row := diskOwnsUptoRow, standIns := [], harness := (true, "e799944381ce3e5606fb41d0d15e8b1a2792928a1004f7935344a3eeb7b573e7"), looks := false }, kinds := [], alts := [], laidByText := true, laidKinds := [.data, .pinned], laidTests := true, laidLooks := .later }
def DiskOwnsUptoCardSaid : Prop := Claim7.holds Tryz.pinned (.plain (OpenSpec.upto diskOwnsSpec)) diskOwnsUptoCard

/-- THE SECOND FORM's CARD OF 'halyardlaw01.DiskLoads'. -/
def diskLoadsUptoCard : Claim7 := { stood := { row := diskLoadsUptoRow, standIns := [], harness := (true, "e799944381ce3e5606fb41d0d15e8b1a2792928a1004f7935344a3eeb7b573e7"), looks := false }, kinds := [], alts := [], laidByText := true, laidKinds := [.data, .pinned], laidTests := true, laidLooks := .later }
def DiskLoadsUptoCardSaid : Prop := Claim7.holds Tryz.pinned (.plain (OpenSpec.upto diskLoadsSpec)) diskLoadsUptoCard

/-- THE SECOND FORM's CARD OF 'halyardlaw01.DiskSound'. -/
def diskSoundUptoCard : Claim7 := { stood := { row := diskSoundUptoRow, standIns := [], harness := (true, "e799944381ce3e5606fb41d0d15e8b1a2792928a1004f7935344a3eeb7b573e7"), looks := false }, kinds := [], alts := [], laidByText := true, laidKinds := [.data, .pinned], laidTests := true, laidLooks := .later }
def DiskSoundUptoCardSaid : Prop := Claim7.holds Tryz.pinned (.plain (OpenSpec.upto diskSoundSpec)) diskSoundUptoCard

/-- THE SECOND FORM's CARD OF 'halyardlaw01.DiskAgain'. -/
def diskAgainUptoCard : Claim7 := { stood := { row := diskAgainUptoRow, standIns := [], harness := (true, "e799944381ce3e5606fb41d0d15e8b1a2792928a1004f7935344a3eeb7b573e7"), looks := false }, kinds := [], alts := [], laidByText := true, laidKinds := [.data, .pinned], laidTests := true, laidLooks := .later }
def DiskAgainUptoCardSaid : Prop := Claim7.holds Tryz.pinned (.plain (OpenSpec.upto diskAgainSpec)) diskAgainUptoCard

/-- THE SECOND FORM's CARD OF 'halyardlaw17.PlanAgain'. -/
def planAgainUptoCard : Claim7 := { stood := { row := planAgainUptoRow, standIns := [], harness := (true, "e799944381ce3e5606fb41d0d15e8b1a2792928a1004f7935344a3eeb7b573e7"), looks := false }, kinds := [], alts := [], laidByText := true, laidKinds := [.data, .pinned], laidTests := true, laidLooks := .later }
def PlanAgainUptoCardSaid : Prop := Claim7.holds Tryz.pinned (.plain (OpenSpec.upto planAgainSpec)) planAgainUptoCard
end Rows
end Go.Proofs.YtnfklomokjhojaaGreatDoor
