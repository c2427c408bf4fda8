/-
  DERIVED. GIVEN WITH THE SEED: THE CARDS: each row of YthbepoeohjddnaaDoorRows.lean that lists a variable, with what it lists TIED to the program's text (the seventh form; the later family's looks); each row that meets fmt, with fmt's text TOLD by the authors' own Lean function (tested against real Go, not proved from fmt's source: count such statements apart). THE CARD IS WHAT COUNTS. Prove the row's statement (the work); the ties are given (YthbepoeohjddnaaDoorTie.lean); close each card by the builder's one call (the guide's Derived/Test/ToyasCard.lean, 'card_holds'). Laid BY PROGRAM, IN A SANDBOX (cutbox-door.mjs). By AI agents, Wed Nov 11 2026. No macro, syntax, notation, axiom, sorry.
-/
import Derived.Test.YthbepoeohjddnaaDoorRows
import GoSem.ClaimSeven
namespace Go.Proofs.YthbepoeohjddnaaDoor
namespace Rows

/-- THE TIED CARD OF 'halyardlaw02.VersRanks'. -/
def versRanksCard : Claim7 := { stood := { row := versRanksRow, standIns := [], harness := (true, "7c2eeee6fd7ecffcd46be199cc5d2683db52bf5254a0cb17e8e1ab73c029680d"), looks := true }, kinds := [], alts := [], laidByText := true, laidKinds := [.data, .data, .data], laidTests := true, laidLooks := .later }
def VersRanksCardSaid : Prop := Claim7.holds Tryd.pinned (.plain (OpenSpec.ofChange versRanksSpec)) versRanksCard

/-- THE TIED CARD OF 'halyardlaw02.VersOrder'. -/
def versOrderCard : Claim7 := { stood := { row := versOrderRow, standIns := [], harness := (true, "7c2eeee6fd7ecffcd46be199cc5d2683db52bf5254a0cb17e8e1ab73c029680d"), looks := true }, kinds := [], alts := [], laidByText := true, laidKinds := [.data, .data, .data], laidTests := true, laidLooks := .later }
def VersOrderCardSaid : Prop := Claim7.holds Tryd.pinned (.plain (OpenSpec.ofChange versOrderSpec)) versOrderCard

/-- THE TIED CARD OF 'halyardlaw02.VersRow'. -/
def versRowCard : Claim7 := { stood := { row := versRowRow, standIns := [], harness := (true, "7c2eeee6fd7ecffcd46be199cc5d2683db52bf5254a0cb17e8e1ab73c029680d"), looks := true }, kinds := [], alts := [], laidByText := true, laidKinds := [.data, .data, .data], laidTests := true, laidLooks := .later }
def VersRowCardSaid : Prop := Claim7.holds Tryd.pinned (.plain (OpenSpec.ofChange versRowSpec)) versRowCard

/-- THE TIED CARD OF 'halyardlaw02.VersNext'. -/
def versNextCard : Claim7 := { stood := { row := versNextRow, standIns := [], harness := (true, "7c2eeee6fd7ecffcd46be199cc5d2683db52bf5254a0cb17e8e1ab73c029680d"), looks := true }, kinds := [], alts := [], laidByText := true, laidKinds := [.data, .data, .data], laidTests := true, laidLooks := .later }
def VersNextCardSaid : Prop := Claim7.holds Tryd.pinned (.plain (OpenSpec.ofChange versNextSpec)) versNextCard

/-- THE TIED CARD OF 'halyardlaw02.VersReads'. -/
def versReadsCard : Claim7 := { stood := { row := versReadsRow, standIns := [], harness := (true, "7c2eeee6fd7ecffcd46be199cc5d2683db52bf5254a0cb17e8e1ab73c029680d"), looks := true }, kinds := [], alts := [], laidByText := true, laidKinds := [.data, .data, .data, .data, .sentinel, .sentinel, .pinned], laidTests := true, laidLooks := .later }
def VersReadsCardSaid : Prop := Claim7.holds Tryd.pinned (.plain (OpenSpec.ofChange versReadsSpec)) versReadsCard

/-- THE TIED CARD OF 'halyardlaw02.VersWrites'. -/
def versWritesCard : Claim7 := { stood := { row := versWritesRow, standIns := [], harness := (true, "7c2eeee6fd7ecffcd46be199cc5d2683db52bf5254a0cb17e8e1ab73c029680d"), looks := true }, kinds := [], alts := [], laidByText := true, laidKinds := [.data, .data, .data, .data, .sentinel, .sentinel, .pinned], laidTests := true, laidLooks := .later }
def VersWritesCardSaid : Prop := Claim7.holds Tryd.pinned (.plain (OpenSpec.ofChange versWritesSpec)) versWritesCard

/-- THE SECOND FORM's CARD OF 'halyardlaw02.VersRanks'. -/
def versRanksUptoCard : Claim7 := { stood := { row := versRanksUptoRow, standIns := [], harness := (true, "7c2eeee6fd7ecffcd46be199cc5d2683db52bf5254a0cb17e8e1ab73c029680d"), looks := true }, kinds := [], alts := [], laidByText := true, laidKinds := [.data, .data, .data], laidTests := true, laidLooks := .later }
def VersRanksUptoCardSaid : Prop := Claim7.holds Tryd.pinned (.plain (OpenSpec.upto versRanksSpec)) versRanksUptoCard

/-- THE SECOND FORM's CARD OF 'halyardlaw02.VersOrder'. -/
def versOrderUptoCard : Claim7 := { stood := { row := versOrderUptoRow, standIns := [], harness := (true, "7c2eeee6fd7ecffcd46be199cc5d2683db52bf5254a0cb17e8e1ab73c029680d"), looks := true }, kinds := [], alts := [], laidByText := true, laidKinds := [.data, .data, .data], laidTests := true, laidLooks := .later }
def VersOrderUptoCardSaid : Prop := Claim7.holds Tryd.pinned (.plain (OpenSpec.upto versOrderSpec)) versOrderUptoCard

/-- THE SECOND FORM's CARD OF 'halyardlaw02.VersRow'. -/
def versRowUptoCard : Claim7 := { stood := { row := versRowUptoRow, standIns := [], harness := (true, "7c2eeee6fd7ecffcd46be199cc5d2683db52bf5254a0cb17e8e1ab73c029680d"), looks := true }, kinds := [], alts := [], laidByText := true, laidKinds := [.data, .data, .data], laidTests := true, laidLooks := .later }
def VersRowUptoCardSaid : Prop := Claim7.holds Tryd.pinned (.plain (OpenSpec.upto versRowSpec)) versRowUptoCard

/-- THE SECOND FORM's CARD OF 'halyardlaw02.VersNext'. -/
def versNextUptoCard : Claim7 := { stood := { row := versNextUptoRow, standIns := [], harness := (true, "7c2eeee6fd7ecffcd46be199cc5d2683db52bf5254a0cb17e8e1ab73c029680d"), looks := true }, kinds := [], alts := [], laidByText := true, laidKinds := [.data, .data, .data], laidTests := true, laidLooks := .later }
def VersNextUptoCardSaid : Prop := Claim7.holds Tryd.pinned (.plain (OpenSpec.upto versNextSpec)) versNextUptoCard

/-- THE SECOND FORM's CARD OF 'halyardlaw02.VersReads'. -/
def versReadsUptoCard : Claim7 := { stood := { row := versReadsUptoRow, standIns := [], harness := (true, "7c2eeee6fd7ecffcd46be199cc5d2683db52bf5254a0cb17e8e1ab73c029680d"), looks := true }, kinds := [], alts := [], laidByText := true, laidKinds := [.data, .data, .data, .data, .sentinel, .sentinel, .pinned], laidTests := true, laidLooks := .later }
def VersReadsUptoCardSaid : Prop := Claim7.holds Tryd.pinned (.plain (OpenSpec.upto versReadsSpec)) versReadsUptoCard

/-- THE SECOND FORM's CARD OF 'halyardlaw02.VersWrites'. -/
def versWritesUptoCard : Claim7 := { stood := { row := versWritesUptoRow, standIns := [], harness := (true, "7c2eeee6fd7ecffcd46be199cc5d2683db52bf5254a0cb17e8e1ab73c029680d"), looks := true }, kinds := [], alts := [], laidByText := true, laidKinds := [.data, .data, .data, .data, .sentinel, .sentinel, .pinned], laidTests := true, laidLooks := .later }
def VersWritesUptoCardSaid : Prop := Claim7.holds Tryd.pinned (.plain (OpenSpec.upto versWritesSpec)) versWritesUptoCard
end Rows
end Go.Proofs.YthbepoeohjddnaaDoor
