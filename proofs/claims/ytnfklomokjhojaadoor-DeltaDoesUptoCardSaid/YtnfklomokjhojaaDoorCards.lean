/-
  DERIVED. GIVEN WITH THE SEED: THE CARDS: each row of YtnfklomokjhojaaDoorRows.lean that lists a variable, with what it lists TIED to the program's text (the seventh form; the later family's looks); each row that meets fmt, with fmt's text TOLD by the authors' own Lean function (tested against real Go, not proved from fmt's source: count such statements apart). THE CARD IS WHAT COUNTS. Prove the row's statement (the work); the ties are given (YtnfklomokjhojaaDoorTie.lean); close each card by the builder's one call (the guide's Derived/Test/ToyasCard.lean, 'card_holds'). Laid BY PROGRAM, IN A SANDBOX (cutbox-door.mjs). By AI agents, Wed Nov 11 2026. No macro, syntax, notation, axiom, sorry.
-/
import Derived.Test.YtnfklomokjhojaaDoorRows
import GoSem.ClaimSeven
namespace Go.Proofs.YtnfklomokjhojaaDoor
namespace Rows

/-- THE TIED CARD OF 'halyardlaw16.DeltaTells'. -/
def deltaTellsCard : Claim7 := { stood := { row := deltaTellsRow, standIns := [], harness := (true, "f500241f984530c8b6a9ef41ee8461541c13cdd9021a43cfb9e286f3ca2a0dcc"), looks := false }, kinds := [], alts := [], laidByText := true, laidKinds := [.data, .pinned], laidTests := true, laidLooks := .later }
def DeltaTellsCardSaid : Prop := Claim7.holds Tryd.pinned (.plain (OpenSpec.ofChange deltaTellsSpec)) deltaTellsCard

/-- THE TIED CARD OF 'halyardlaw16.DeltaLeast'. -/
def deltaLeastCard : Claim7 := { stood := { row := deltaLeastRow, standIns := [], harness := (true, "f500241f984530c8b6a9ef41ee8461541c13cdd9021a43cfb9e286f3ca2a0dcc"), looks := false }, kinds := [], alts := [], laidByText := true, laidKinds := [.data, .pinned], laidTests := true, laidLooks := .later }
def DeltaLeastCardSaid : Prop := Claim7.holds Tryd.pinned (.plain (OpenSpec.ofChange deltaLeastSpec)) deltaLeastCard

/-- THE TIED CARD OF 'halyardlaw16.DeltaBack'. -/
def deltaBackCard : Claim7 := { stood := { row := deltaBackRow, standIns := [], harness := (true, "f500241f984530c8b6a9ef41ee8461541c13cdd9021a43cfb9e286f3ca2a0dcc"), looks := false }, kinds := [], alts := [], laidByText := true, laidKinds := [.data, .pinned], laidTests := true, laidLooks := .later }
def DeltaBackCardSaid : Prop := Claim7.holds Tryd.pinned (.plain (OpenSpec.ofChange deltaBackSpec)) deltaBackCard

/-- THE TIED CARD OF 'halyardlaw01.DiskCut'. -/
def diskCutCard : Claim7 := { stood := { row := diskCutRow, standIns := [], harness := (true, "f500241f984530c8b6a9ef41ee8461541c13cdd9021a43cfb9e286f3ca2a0dcc"), looks := false }, kinds := [], alts := [], laidByText := true, laidKinds := [.data, .pinned], laidTests := true, laidLooks := .later }
def DiskCutCardSaid : Prop := Claim7.holds Tryd.pinned (.plain (OpenSpec.ofChange diskCutSpec)) diskCutCard

/-- THE TIED CARD OF 'halyardlaw16.DeltaDoes'. -/
def deltaDoesCard : Claim7 := { stood := { row := deltaDoesRow, standIns := [], harness := (true, "f500241f984530c8b6a9ef41ee8461541c13cdd9021a43cfb9e286f3ca2a0dcc"), looks := false }, kinds := [], alts := [], laidByText := true, laidKinds := [.data, .pinned], laidTests := true, laidLooks := .later }
def DeltaDoesCardSaid : Prop := Claim7.holds Tryd.pinned (.plain (OpenSpec.ofChange deltaDoesSpec)) deltaDoesCard

/-- THE SECOND FORM's CARD OF 'halyardlaw16.DeltaTells'. -/
def deltaTellsUptoCard : Claim7 := { stood := { row := deltaTellsUptoRow, standIns := [], harness := (true, "f500241f984530c8b6a9ef41ee8461541c13cdd9021a43cfb9e286f3ca2a0dcc"), looks := false }, kinds := [], alts := [], laidByText := true, laidKinds := [.data, .pinned], laidTests := true, laidLooks := .later }
def DeltaTellsUptoCardSaid : Prop := Claim7.holds Tryd.pinned (.plain (OpenSpec.upto deltaTellsSpec)) deltaTellsUptoCard

/-- THE SECOND FORM's CARD OF 'halyardlaw16.DeltaLeast'. -/
def deltaLeastUptoCard : Claim7 := { stood := { row := deltaLeastUptoRow, standIns := [], harness := (true, "f500241f984530c8b6a9ef41ee8461541c13cdd9021a43cfb9e286f3ca2a0dcc"), looks := false }, kinds := [], alts := [], laidByText := true, laidKinds := [.data, .pinned], laidTests := true, laidLooks := .later }
def DeltaLeastUptoCardSaid : Prop := Claim7.holds Tryd.pinned (.plain (OpenSpec.upto deltaLeastSpec)) deltaLeastUptoCard

/-- THE SECOND FORM's CARD OF 'halyardlaw16.DeltaBack'. -/
def deltaBackUptoCard : Claim7 := { stood := { row := deltaBackUptoRow, standIns := [], harness := (true, "f500241f984530c8b6a9ef41ee8461541c13cdd9021a43cfb9e286f3ca2a0dcc"), looks := false }, kinds := [], alts := [], laidByText := true, laidKinds := [.data, .pinned], laidTests := true, laidLooks := .later }
def DeltaBackUptoCardSaid : Prop := Claim7.holds Tryd.pinned (.plain (OpenSpec.upto deltaBackSpec)) deltaBackUptoCard

/-- THE SECOND FORM's CARD OF 'halyardlaw01.DiskCut'. -/
def diskCutUptoCard : Claim7 := { stood := { row := diskCutUptoRow, standIns := [], harness := (true, "f500241f984530c8b6a9ef41ee8461541c13cdd9021a43cfb9e286f3ca2a0dcc"), looks := false }, kinds := [], alts := [], laidByText := true, laidKinds := [.data, .pinned], laidTests := true, laidLooks := .later }
def DiskCutUptoCardSaid : Prop := Claim7.holds Tryd.pinned (.plain (OpenSpec.upto diskCutSpec)) diskCutUptoCard

/-- THE SECOND FORM's CARD OF 'halyardlaw16.DeltaDoes'. -/
def deltaDoesUptoCard : Claim7 := { stood := { row := deltaDoesUptoRow, standIns := [], harness := (true, "f500241f984530c8b6a9ef41ee8461541c13cdd9021a43cfb9e286f3ca2a0dcc"), looks := false }, kinds := [], alts := [], laidByText := true, laidKinds := [.data, .pinned], laidTests := true, laidLooks := .later }
def DeltaDoesUptoCardSaid : Prop := Claim7.holds Tryd.pinned (.plain (OpenSpec.upto deltaDoesSpec)) deltaDoesUptoCard
end Rows
end Go.Proofs.YtnfklomokjhojaaDoor
