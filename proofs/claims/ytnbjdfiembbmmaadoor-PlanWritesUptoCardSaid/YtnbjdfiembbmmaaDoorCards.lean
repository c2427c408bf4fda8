/-
  DERIVED. GIVEN WITH THE SEED: THE CARDS: each row of YtnbjdfiembbmmaaDoorRows.lean that lists a variable, with what it lists TIED to the program's text (the seventh form; the later family's looks); each row that meets fmt, with fmt's text TOLD by the authors' own Lean function (tested against real Go, not proved from fmt's source: count such statements apart). THE CARD IS WHAT COUNTS. Prove the row's statement (the work); the ties are given (YtnbjdfiembbmmaaDoorTie.lean); close each card by the builder's one call (the guide's Derived/Test/ToyasCard.lean, 'card_holds'). Laid BY PROGRAM, IN A SANDBOX (cutbox-door.mjs). By AI agents, Wed Nov 11 2026. No macro, syntax, notation, axiom, sorry.
-/
import Derived.Test.YtnbjdfiembbmmaaDoorRows
import GoSem.ClaimSeven
namespace Go.Proofs.YtnbjdfiembbmmaaDoor
namespace Rows

/-- THE TIED CARD OF 'halyardlaw17.PlanWrites'. -/
def planWritesCard : Claim7 := { stood := { row := planWritesRow, standIns := [], harness := (true, "ebc197c8a91245190498eacdd843b06576b944cd746bf4acab920c80e4f7c733"), looks := true }, kinds := [], alts := [], laidByText := true, laidKinds := [.data, .pinned], laidTests := true, laidLooks := .later }
def PlanWritesCardSaid : Prop := Claim7.holds Tryd.pinned (.plain (OpenSpec.ofChange planWritesSpec)) planWritesCard

/-- THE TIED CARD OF 'halyardlaw17.PlanReads'. -/
def planReadsCard : Claim7 := { stood := { row := planReadsRow, standIns := [], harness := (true, "ebc197c8a91245190498eacdd843b06576b944cd746bf4acab920c80e4f7c733"), looks := true }, kinds := [], alts := [], laidByText := true, laidKinds := [.data, .pinned], laidTests := true, laidLooks := .later }
def PlanReadsCardSaid : Prop := Claim7.holds Tryd.pinned (.plain (OpenSpec.ofChange planReadsSpec)) planReadsCard

/-- THE TIED CARD OF 'halyardlaw17.PlanBack'. -/
def planBackCard : Claim7 := { stood := { row := planBackRow, standIns := [], harness := (true, "ebc197c8a91245190498eacdd843b06576b944cd746bf4acab920c80e4f7c733"), looks := true }, kinds := [], alts := [], laidByText := true, laidKinds := [.data, .pinned], laidTests := true, laidLooks := .later }
def PlanBackCardSaid : Prop := Claim7.holds Tryd.pinned (.plain (OpenSpec.ofChange planBackSpec)) planBackCard

/-- THE TIED CARD OF 'halyardlaw17.PlanCut'. -/
def planCutCard : Claim7 := { stood := { row := planCutRow, standIns := [], harness := (true, "ebc197c8a91245190498eacdd843b06576b944cd746bf4acab920c80e4f7c733"), looks := true }, kinds := [], alts := [], laidByText := true, laidKinds := [.data, .pinned], laidTests := true, laidLooks := .later }
def PlanCutCardSaid : Prop := Claim7.holds Tryd.pinned (.plain (OpenSpec.ofChange planCutSpec)) planCutCard

/-- THE TIED CARD OF 'halyardlaw04.ScanLines'. -/
def scanLinesCard : Claim7 := { stood := { row := scanLinesRow, standIns := [], harness := (true, "ebc197c8a91245190498eacdd843b06576b944cd746bf4acab920c80e4f7c733"), looks := true }, kinds := [], alts := [], laidByText := true, laidKinds := [.data, .data, .data, .data, .sentinel, .sentinel, .pinned], laidTests := true, laidLooks := .later }
def ScanLinesCardSaid : Prop := Claim7.holds Tryd.pinned (.plain (OpenSpec.ofChange scanLinesSpec)) scanLinesCard

/-- THE TIED CARD OF 'halyardlaw04.ScanWords'. -/
def scanWordsCard : Claim7 := { stood := { row := scanWordsRow, standIns := [], harness := (true, "ebc197c8a91245190498eacdd843b06576b944cd746bf4acab920c80e4f7c733"), looks := true }, kinds := [], alts := [], laidByText := true, laidKinds := [.data, .data, .data, .data, .sentinel, .sentinel, .pinned], laidTests := true, laidLooks := .later }
def ScanWordsCardSaid : Prop := Claim7.holds Tryd.pinned (.plain (OpenSpec.ofChange scanWordsSpec)) scanWordsCard

/-- THE TIED CARD OF 'halyardlaw04.ScanParts'. -/
def scanPartsCard : Claim7 := { stood := { row := scanPartsRow, standIns := [], harness := (true, "ebc197c8a91245190498eacdd843b06576b944cd746bf4acab920c80e4f7c733"), looks := true }, kinds := [], alts := [], laidByText := true, laidKinds := [.data, .data, .data, .data, .sentinel, .sentinel, .pinned], laidTests := true, laidLooks := .later }
def ScanPartsCardSaid : Prop := Claim7.holds Tryd.pinned (.plain (OpenSpec.ofChange scanPartsSpec)) scanPartsCard

/-- THE TIED CARD OF 'halyardlaw04.ScanJoins'. -/
def scanJoinsCard : Claim7 := { stood := { row := scanJoinsRow, standIns := [], harness := (true, "ebc197c8a91245190498eacdd843b06576b944cd746bf4acab920c80e4f7c733"), looks := true }, kinds := [], alts := [], laidByText := true, laidKinds := [.data, .data, .data, .data, .sentinel, .sentinel, .pinned], laidTests := true, laidLooks := .later }
def ScanJoinsCardSaid : Prop := Claim7.holds Tryd.pinned (.plain (OpenSpec.ofChange scanJoinsSpec)) scanJoinsCard

/-- THE TIED CARD OF 'halyardlaw04.ScanBack'. -/
def scanBackCard : Claim7 := { stood := { row := scanBackRow, standIns := [], harness := (true, "ebc197c8a91245190498eacdd843b06576b944cd746bf4acab920c80e4f7c733"), looks := true }, kinds := [], alts := [], laidByText := true, laidKinds := [.data, .data, .data, .data, .sentinel, .sentinel, .pinned], laidTests := true, laidLooks := .later }
def ScanBackCardSaid : Prop := Claim7.holds Tryd.pinned (.plain (OpenSpec.ofChange scanBackSpec)) scanBackCard

/-- THE SECOND FORM's CARD OF 'halyardlaw17.PlanWrites'. -/
def planWritesUptoCard : Claim7 := { stood := { row := planWritesUptoRow, standIns := [], harness := (true, "ebc197c8a91245190498eacdd843b06576b944cd746bf4acab920c80e4f7c733"), looks := true }, kinds := [], alts := [], laidByText := true, laidKinds := [.data, .pinned], laidTests := true, laidLooks := .later }
def PlanWritesUptoCardSaid : Prop := Claim7.holds Tryd.pinned (.plain (OpenSpec.upto planWritesSpec)) planWritesUptoCard

/-- THE SECOND FORM's CARD OF 'halyardlaw17.PlanReads'. -/
def planReadsUptoCard : Claim7 := { stood := { row := planReadsUptoRow, standIns := [], harness := (true, "ebc197c8a91245190498eacdd843b06576b944cd746bf4acab920c80e4f7c733"), looks := true }, kinds := [], alts := [], laidByText := true, laidKinds := [.data, .pinned], laidTests := true, laidLooks := .later }
def PlanReadsUptoCardSaid : Prop := Claim7.holds Tryd.pinned (.plain (OpenSpec.upto planReadsSpec)) planReadsUptoCard

/-- THE SECOND FORM's CARD OF 'halyardlaw17.PlanBack'. -/
def planBackUptoCard : Claim7 := { stood := { row := planBackUptoRow, standIns := [], harness := (true, "ebc197c8a91245190498eacdd843b06576b944cd746bf4acab920c80e4f7c733"), looks := true }, kinds := [], alts := [], laidByText := true, laidKinds := [.data, .pinned], laidTests := true, laidLooks := .later }
def PlanBackUptoCardSaid : Prop := Claim7.holds Tryd.pinned (.plain (OpenSpec.upto planBackSpec)) planBackUptoCard

/-- THE SECOND FORM's CARD OF 'halyardlaw17.PlanCut'. -/
def planCutUptoCard : Claim7 := { stood := { row := planCutUptoRow, standIns := [], harness := (true, "ebc197c8a91245190498eacdd843b06576b944cd746bf4acab920c80e4f7c733"), looks := true }, kinds := [], alts := [], laidByText := true, laidKinds := [.data, .pinned], laidTests := true, laidLooks := .later }
def PlanCutUptoCardSaid : Prop := Claim7.holds Tryd.pinned (.plain (OpenSpec.upto planCutSpec)) planCutUptoCard

/-- THE SECOND FORM's CARD OF 'halyardlaw04.ScanLines'. -/
def scanLinesUptoCard : Claim7 := { stood := { row := scanLinesUptoRow, standIns := [], harness := (true, "ebc197c8a91245190498eacdd843b06576b944cd746bf4acab920c80e4f7c733"), looks := true }, kinds := [], alts := [], laidByText := true, laidKinds := [.data, .data, .data, .data, .sentinel, .sentinel, .pinned], laidTests := true, laidLooks := .later }
def ScanLinesUptoCardSaid : Prop := Claim7.holds Tryd.pinned (.plain (OpenSpec.upto scanLinesSpec)) scanLinesUptoCard

/-- THE SECOND FORM's CARD OF 'halyardlaw04.ScanWords'. -/
def scanWordsUptoCard : Claim7 := { stood := { row := scanWordsUptoRow, standIns := [], harness := (true, "ebc197c8a91245190498eacdd843b06576b944cd746bf4acab920c80e4f7c733"), looks := true }, kinds := [], alts := [], laidByText := true, laidKinds := [.data, .data, .data, .data, .sentinel, .sentinel, .pinned], laidTests := true, laidLooks := .later }
def ScanWordsUptoCardSaid : Prop := Claim7.holds Tryd.pinned (.plain (OpenSpec.upto scanWordsSpec)) scanWordsUptoCard

/-- THE SECOND FORM's CARD OF 'halyardlaw04.ScanParts'. -/
def scanPartsUptoCard : Claim7 := { stood := { row := scanPartsUptoRow, standIns := [], harness := (true, "ebc197c8a91245190498eacdd843b06576b944cd746bf4acab920c80e4f7c733"), looks := true }, kinds := [], alts := [], laidByText := true, laidKinds := [.data, .data, .data, .data, .sentinel, .sentinel, .pinned], laidTests := true, laidLooks := .later }
def ScanPartsUptoCardSaid : Prop := Claim7.holds Tryd.pinned (.plain (OpenSpec.upto scanPartsSpec)) scanPartsUptoCard

/-- THE SECOND FORM's CARD OF 'halyardlaw04.ScanJoins'. -/
def scanJoinsUptoCard : Claim7 := { stood := { row := scanJoinsUptoRow, standIns := [], harness := (true, "ebc197c8a91245190498eacdd843b06576b944cd746bf4acab920c80e4f7c733"), looks := true }, kinds := [], alts := [], laidByText := true, laidKinds := [.data, .data, .data, .data, .sentinel, .sentinel, .pinned], laidTests := true, laidLooks := .later }
def ScanJoinsUptoCardSaid : Prop := Claim7.holds Tryd.pinned (.plain (OpenSpec.upto scanJoinsSpec)) scanJoinsUptoCard

/-- THE SECOND FORM's CARD OF 'halyardlaw04.ScanBack'. -/
def scanBackUptoCard : Claim7 := { stood := { row := scanBackUptoRow, standIns := [], harness := (true, "ebc197c8a91245190498eacdd843b06576b944cd746bf4acab920c80e4f7c733"), looks := true }, kinds := [], alts := [], laidByText := true, laidKinds := [.data, .data, .data, .data, .sentinel, .sentinel, .pinned], laidTests := true, laidLooks := .later }
def ScanBackUptoCardSaid : Prop := Claim7.holds Tryd.pinned (.plain (OpenSpec.upto scanBackSpec)) scanBackUptoCard
end Rows
end Go.Proofs.YtnbjdfiembbmmaaDoor
