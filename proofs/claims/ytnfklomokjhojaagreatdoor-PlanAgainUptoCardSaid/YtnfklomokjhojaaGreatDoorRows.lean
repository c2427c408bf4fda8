/-
  NARROWER THAN 'FOR EVERY INPUT', by the rows' own cells (each row's printed sentence says how): DiskPlays: laid · DiskWhole: laid · DiskOwns: laid · DiskLoads: laid · DiskSound: laid · DiskAgain: laid · PlanAgain: laid.
  DERIVED. THE GIVEN ROWS OF THIS SEAT. 7 by the template 'for every input the law returns true; each argument reads behind the call as it read before'; 0 by the template 'total and deterministic' (their statements: YtnfklomokjhojaaGreatDoorTotals.lean).
  GIVEN WITH THE SEED: the statements are not yours to turn. If you find one false, say at which input.
  Laid BY PROGRAM, IN A SANDBOX (cutbox-rows.mjs): the forced cells as the released guide's own fill.sh prints them over the translation 26d83ce4f2ae16f4… (all of the seat's roots in one cut). By AI agents, Wed Nov 11 2026. No macro, syntax, notation, axiom, sorry.
-/
import Derived.Test.YtnfklomokjhojaaGreatDoorChecked
import GoSem.PinnedTables
import GoSem.Claim
import GoSem.ClaimJoined
import GoSem.ClaimMapViews
import Derived.JoinedTies
import Derived.KernelRfl
namespace Go.Proofs.YtnfklomokjhojaaGreatDoor
/- THE CELL 'sum', in the pinned program and in every row, IS THE sha256 OF THE DUMP (.gsa) THAT YtnfklomokjhojaaGreatDoorProg.lean LOADS. Nothing in Lean hashes anything: it is a label: what it is worth is what the hold of that sum in a sandbox is worth. -/
noncomputable def Tryz.pinned : Pinned := { name := "ytnfklomokjhojaagreatdoor", sum := "26d83ce4f2ae16f4eb5a79cad4961b341d573f238e957c8e176cd607bbb12a33", checked := Tryz.checked }
namespace Rows
def none {H : Type} : Left H := { results := [], args := [] }

/- WHAT THE LISTED PACKAGE-LEVEL VARIABLES READ AS WHEN THE CALL BEGINS. Each datum BY PROGRAM (the guide's laid-datum.mjs) off the statement by which the dump's own 'gosem.cut.vars' lays the variable. In a bare row this is a premise. The card (YtnfklomokjhojaaGreatDoorCards.lean) ties it to the program's text. -/
def laid_unicode_utf8_acceptRanges {H : Type} : DataW H := .agg [.agg [.lit (.int .u8 128), .lit (.int .u8 191)], .agg [.lit (.int .u8 160), .lit (.int .u8 191)], .agg [.lit (.int .u8 128), .lit (.int .u8 159)], .agg [.lit (.int .u8 144), .lit (.int .u8 191)], .agg [.lit (.int .u8 128), .lit (.int .u8 143)], .agg [.lit (.int .u8 0), .lit (.int .u8 0)], .agg [.lit (.int .u8 0), .lit (.int .u8 0)], .agg [.lit (.int .u8 0), .lit (.int .u8 0)], .agg [.lit (.int .u8 0), .lit (.int .u8 0)], .agg [.lit (.int .u8 0), .lit (.int .u8 0)], .agg [.lit (.int .u8 0), .lit (.int .u8 0)], .agg [.lit (.int .u8 0), .lit (.int .u8 0)], .agg [.lit (.int .u8 0), .lit (.int .u8 0)], .agg [.lit (.int .u8 0), .lit (.int .u8 0)], .agg [.lit (.int .u8 0), .lit (.int .u8 0)], .agg [.lit (.int .u8 0), .lit (.int .u8 0)]]
/-- One of Go's own tables, pinned by name: the form's constant. -/
def laid_unicode_utf8_first : DataW Unit := Go.Pinned.utf8First

/-- 'halyardlaw01.DiskPlays': WHATEVER THE INPUT: true; the input reads as it did. -/
def diskPlaysSpec : ChangeSpec := { name := "diskPlays", fn := fun _ => fun
  | [d] => { results := [.lit (.bool true)], args := [d] }
  | _ => none }
def diskPlaysRow : OpenClaim := { program := "ytnfklomokjhojaagreatdoor", sum := "26d83ce4f2ae16f4eb5a79cad4961b341d573f238e957c8e176cd607bbb12a33", func := "halyard/halyardlaw01.DiskPlays", spec := "diskPlays", inPlace := ["internal/bytealg.CountString", "internal/bytealg.IndexByteString", "internal/bytealg.IndexString", "internal/bytealg.abigen_runtime_cmpstring"], unfollowed := true, recurses := true, named := ["unicode/utf8.first", "unicode/utf8.acceptRanges", "internal/bytealg.MaxLen"], apart := false, laid := [("unicode/utf8.acceptRanges", laid_unicode_utf8_acceptRanges), ("unicode/utf8.first", laid_unicode_utf8_first)] }
def DiskPlaysSaid : Prop := diskPlaysRow.holds Tryz.pinned (OpenSpec.ofChange diskPlaysSpec)

/-- ITS FALSE NEIGHBOUR: 'it returns false'. Refute it at one input. -/
def diskPlaysWrong : ChangeSpec := { name := "diskPlays", fn := fun _ => fun
  | [d] => { results := [.lit (.bool false)], args := [d] }
  | _ => none }
def DiskPlaysWrongFalsely : Prop := diskPlaysRow.holds Tryz.pinned (OpenSpec.ofChange diskPlaysWrong)

/-- 'halyardlaw01.DiskWhole': WHATEVER THE INPUT: true; the input reads as it did. -/
def diskWholeSpec : ChangeSpec := { name := "diskWhole", fn := fun _ => fun
  | [d1, d2] => { results := [.lit (.bool true)], args := [d1, d2] }
  | _ => none }
def diskWholeRow : OpenClaim := { program := "ytnfklomokjhojaagreatdoor", sum := "26d83ce4f2ae16f4eb5a79cad4961b341d573f238e957c8e176cd607bbb12a33", func := "halyard/halyardlaw01.DiskWhole", spec := "diskWhole", inPlace := ["internal/bytealg.CountString", "internal/bytealg.IndexByteString", "internal/bytealg.IndexString", "internal/bytealg.abigen_runtime_cmpstring"], unfollowed := true, recurses := true, named := ["unicode/utf8.first", "unicode/utf8.acceptRanges", "internal/bytealg.MaxLen"], apart := false, laid := [("unicode/utf8.acceptRanges", laid_unicode_utf8_acceptRanges), ("unicode/utf8.first", laid_unicode_utf8_first)] }
def DiskWholeSaid : Prop := diskWholeRow.holds Tryz.pinned (OpenSpec.ofChange diskWholeSpec)

/-- ITS FALSE NEIGHBOUR: 'it returns false'. Refute it at one input. -/
def diskWholeWrong : ChangeSpec := { name := "diskWhole", fn := fun _ => fun
  | [d1, d2] => { results := [.lit (.bool false)], args := [d1, d2] }
  | _ => none }
def DiskWholeWrongFalsely : Prop := diskWholeRow.holds Tryz.pinned (OpenSpec.ofChange diskWholeWrong)

/-- 'halyardlaw01.DiskOwns': WHATEVER THE INPUT: true; the input reads as it did. -/
def diskOwnsSpec : ChangeSpec := { name := "diskOwns", fn := fun _ => fun
  | [d] => { results := [.lit (.bool true)], args := [d] }
  | _ => none }
def diskOwnsRow : OpenClaim := { program := "ytnfklomokjhojaagreatdoor", sum := "26d83ce4f2ae16f4eb5a79cad4961b341d573f238e957c8e176cd607bbb12a33", func := "halyard/halyardlaw01.DiskOwns", spec := "diskOwns", inPlace := ["internal/bytealg.CountString", "internal/bytealg.IndexByteString", "internal/bytealg.IndexString", "internal/bytealg.abigen_runtime_cmpstring"], unfollowed := true, recurses := true, named := ["unicode/utf8.first", "unicode/utf8.acceptRanges", "internal/bytealg.MaxLen"], apart := false, laid := [("unicode/utf8.acceptRanges", laid_unicode_utf8_acceptRanges), ("unicode/utf8.first", laid_unicode_utf8_first)] }
def DiskOwnsSaid : Prop := diskOwnsRow.holds Tryz.pinned (OpenSpec.ofChange diskOwnsSpec)

/-- ITS FALSE NEIGHBOUR: 'it returns false'. Refute it at one input. -/
def diskOwnsWrong : ChangeSpec := { name := "diskOwns", fn := fun _ => fun
  | [d] => { results := [.lit (.bool false)], args := [d] }
  | _ => none }
def DiskOwnsWrongFalsely : Prop := diskOwnsRow.holds Tryz.pinned (OpenSpec.ofChange diskOwnsWrong)

/-- 'halyardlaw01.DiskLoads': WHATEVER THE INPUT: true; the input reads as it did. -/
def diskLoadsSpec : ChangeSpec := { name := "diskLoads", fn := fun _ => fun
  | [d1, d2] => { results := [.lit (.bool true)], args := [d1, d2] }
  | _ => none }
def diskLoadsRow : OpenClaim := { program := "ytnfklomokjhojaagreatdoor", sum := "26d83ce4f2ae16f4eb5a79cad4961b341d573f238e957c8e176cd607bbb12a33", func := "halyard/halyardlaw01.DiskLoads", spec := "diskLoads", inPlace := ["internal/bytealg.CountString", "internal/bytealg.IndexByteString", "internal/bytealg.IndexString", "internal/bytealg.abigen_runtime_cmpstring"], unfollowed := true, recurses := true, named := ["unicode/utf8.first", "unicode/utf8.acceptRanges", "internal/bytealg.MaxLen"], apart := false, laid := [("unicode/utf8.acceptRanges", laid_unicode_utf8_acceptRanges), ("unicode/utf8.first", laid_unicode_utf8_first)] }
def DiskLoadsSaid : Prop := diskLoadsRow.holds Tryz.pinned (OpenSpec.ofChange diskLoadsSpec)

/-- ITS FALSE NEIGHBOUR: 'it returns false'. Refute it at one input. -/
def diskLoadsWrong : ChangeSpec := { name := "diskLoads", fn := fun _ => fun
  | [d1, d2] => { results := [.lit (.bool false)], args := [d1, d2] }
  | _ => none }
def DiskLoadsWrongFalsely : Prop := diskLoadsRow.holds Tryz.pinned (OpenSpec.ofChange diskLoadsWrong)

/-- 'halyardlaw01.DiskSound': WHATEVER THE INPUT: true; the input reads as it did. -/
def diskSoundSpec : ChangeSpec := { name := "diskSound", fn := fun _ => fun
  | [d] => { results := [.lit (.bool true)], args := [d] }
  | _ => none }
def diskSoundRow : OpenClaim := { program := "ytnfklomokjhojaagreatdoor", sum := "26d83ce4f2ae16f4eb5a79cad4961b341d573f238e957c8e176cd607bbb12a33", func := "halyard/halyardlaw01.DiskSound", spec := "diskSound", inPlace := ["internal/bytealg.CountString", "internal/bytealg.IndexByteString", "internal/bytealg.IndexString", "internal/bytealg.abigen_runtime_cmpstring"], unfollowed := true, recurses := true, named := ["unicode/utf8.first", "unicode/utf8.acceptRanges", "internal/bytealg.MaxLen"], apart := false, laid := [("unicode/utf8.acceptRanges", laid_unicode_utf8_acceptRanges), ("unicode/utf8.first", laid_unicode_utf8_first)] }
def DiskSoundSaid : Prop := diskSoundRow.holds Tryz.pinned (OpenSpec.ofChange diskSoundSpec)

/-- ITS FALSE NEIGHBOUR: 'it returns false'. Refute it at one input. -/
def diskSoundWrong : ChangeSpec := { name := "diskSound", fn := fun _ => fun
  | [d] => { results := [.lit (.bool false)], args := [d] }
  | _ => none }
def DiskSoundWrongFalsely : Prop := diskSoundRow.holds Tryz.pinned (OpenSpec.ofChange diskSoundWrong)

/-- 'halyardlaw01.DiskAgain': WHATEVER THE INPUT: true; the input reads as it did. -/
def diskAgainSpec : ChangeSpec := { name := "diskAgain", fn := fun _ => fun
  | [d1, d2] => { results := [.lit (.bool true)], args := [d1, d2] }
  | _ => none }
def diskAgainRow : OpenClaim := { program := "ytnfklomokjhojaagreatdoor", sum := "26d83ce4f2ae16f4eb5a79cad4961b341d573f238e957c8e176cd607bbb12a33", func := "halyard/halyardlaw01.DiskAgain", spec := "diskAgain", inPlace := ["internal/bytealg.CountString", "internal/bytealg.IndexByteString", "internal/bytealg.IndexString", "internal/bytealg.abigen_runtime_cmpstring"], unfollowed := true, recurses := true, named := ["unicode/utf8.first", "unicode/utf8.acceptRanges", "internal/bytealg.MaxLen"], apart := false, laid := [("unicode/utf8.acceptRanges", laid_unicode_utf8_acceptRanges), ("unicode/utf8.first", laid_unicode_utf8_first)] }
def DiskAgainSaid : Prop := diskAgainRow.holds Tryz.pinned (OpenSpec.ofChange diskAgainSpec)

/-- ITS FALSE NEIGHBOUR: 'it returns false'. Refute it at one input. -/
def diskAgainWrong : ChangeSpec := { name := "diskAgain", fn := fun _ => fun
  | [d1, d2] => { results := [.lit (.bool false)], args := [d1, d2] }
  | _ => none }
def DiskAgainWrongFalsely : Prop := diskAgainRow.holds Tryz.pinned (OpenSpec.ofChange diskAgainWrong)

/-- 'halyardlaw17.PlanAgain': WHATEVER THE INPUT: true; the input reads as it did. -/
def planAgainSpec : ChangeSpec := { name := "planAgain", fn := fun _ => fun
  | [d1, d2, d3] => { results := [.lit (.bool true)], args := [d1, d2, d3] }
  | _ => none }
def planAgainRow : OpenClaim := { program := "ytnfklomokjhojaagreatdoor", sum := "26d83ce4f2ae16f4eb5a79cad4961b341d573f238e957c8e176cd607bbb12a33", func := "halyard/halyardlaw17.PlanAgain", spec := "planAgain", inPlace := ["internal/bytealg.IndexByteString", "internal/bytealg.IndexString", "internal/abi.NoEscape", "internal/bytealg.CountString", "internal/bytealg.abigen_runtime_cmpstring"], unfollowed := true, recurses := true, named := ["unicode/utf8.first", "unicode/utf8.acceptRanges", "internal/bytealg.MaxLen"], apart := false, laid := [("unicode/utf8.acceptRanges", laid_unicode_utf8_acceptRanges), ("unicode/utf8.first", laid_unicode_utf8_first)] }
def PlanAgainSaid : Prop := planAgainRow.holds Tryz.pinned (OpenSpec.ofChange planAgainSpec)

/-- ITS FALSE NEIGHBOUR: 'it returns false'. Refute it at one input. -/
def planAgainWrong : ChangeSpec := { name := "planAgain", fn := fun _ => fun
  | [d1, d2, d3] => { results := [.lit (.bool false)], args := [d1, d2, d3] }
  | _ => none }
def PlanAgainWrongFalsely : Prop := planAgainRow.holds Tryz.pinned (OpenSpec.ofChange planAgainWrong)

/- THE SECOND FORM. 'bulk': how many values and letters a reading holds, each counted each time it is reached (what is shared counts as often as it is met; a slice's spare places count too). A statement '..UptoSaid' is the law's where the arguments, and the package variables that the reading takes, are together of bulk at most 1048576: NARROWER than '..Said'. Prove '..Said' where nothing that the law and all that it calls make is longer than what came in: it says more and counts as full. Else prove '..UptoSaid'. A law counts once. -/
mutual
def uptoBulk {H : Type} : DataW H → Nat
  | .lit (.string bytes) => bytes.length + 1
  | .lit _ => 1
  | .nil => 1
  | .ptr d => uptoBulk d + 1
  | .slice elems spare => uptoBulkAll elems + uptoBulkAll spare + 1
  | .agg parts => uptoBulkAll parts + 1
  | .iface _ d => uptoBulk d + 1
  | .map entries => uptoBulkEntries entries + 1
  | .held _ => 1
def uptoBulkAll {H : Type} : List (DataW H) → Nat
  | [] => 0
  | d :: r => uptoBulk d + uptoBulkAll r
def uptoBulkEntries {H : Type} : List (Lit × DataW H) → Nat
  | [] => 0
  | x :: r => uptoBulkEntry x + uptoBulkEntries r
def uptoBulkEntry {H : Type} : Lit × DataW H → Nat
  | (.string bytes, d) => bytes.length + uptoBulk d + 1
  | (_, d) => uptoBulk d + 1
 end
def uptoSmall : (H : Type) → List (DataW H) → Bool := fun _ ds => decide (uptoBulkAll ds ≤ 1048576)
def OpenSpec.upto (s : _root_.Go.ChangeSpec) : _root_.Go.OpenSpec := { _root_.Go.OpenSpec.ofChange s with cond := some uptoSmall }

/-- 'halyardlaw01.DiskPlays', WHERE WHAT IT READS IS OF BULK AT MOST 1048576: true; the input reads as it did. -/
def diskPlaysUptoRow : OpenClaim := { program := "ytnfklomokjhojaagreatdoor", sum := "26d83ce4f2ae16f4eb5a79cad4961b341d573f238e957c8e176cd607bbb12a33", func := "halyard/halyardlaw01.DiskPlays", spec := "diskPlays", inPlace := ["internal/bytealg.CountString", "internal/bytealg.IndexByteString", "internal/bytealg.IndexString", "internal/bytealg.abigen_runtime_cmpstring"], unfollowed := true, recurses := true, named := ["unicode/utf8.first", "unicode/utf8.acceptRanges", "internal/bytealg.MaxLen"], apart := false, laid := [("unicode/utf8.acceptRanges", laid_unicode_utf8_acceptRanges), ("unicode/utf8.first", laid_unicode_utf8_first)], narrowed := true }
def DiskPlaysUptoSaid : Prop := diskPlaysUptoRow.holds Tryz.pinned (OpenSpec.upto diskPlaysSpec)

/-- 'halyardlaw01.DiskWhole', WHERE WHAT IT READS IS OF BULK AT MOST 1048576: true; the input reads as it did. -/
def diskWholeUptoRow : OpenClaim := { program := "ytnfklomokjhojaagreatdoor", sum := "26d83ce4f2ae16f4eb5a79cad4961b341d573f238e957c8e176cd607bbb12a33", func := "halyard/halyardlaw01.DiskWhole", spec := "diskWhole", inPlace := ["internal/bytealg.CountString", "internal/bytealg.IndexByteString", "internal/bytealg.IndexString", "internal/bytealg.abigen_runtime_cmpstring"], unfollowed := true, recurses := true, named := ["unicode/utf8.first", "unicode/utf8.acceptRanges", "internal/bytealg.MaxLen"], apart := false, laid := [("unicode/utf8.acceptRanges", laid_unicode_utf8_acceptRanges), ("unicode/utf8.first", laid_unicode_utf8_first)], narrowed := true }
def DiskWholeUptoSaid : Prop := diskWholeUptoRow.holds Tryz.pinned (OpenSpec.upto diskWholeSpec)

/-- 'halyardlaw01.DiskOwns', WHERE WHAT IT READS IS OF BULK AT MOST 1048576: true; the input reads as it did. -/
def diskOwnsUptoRow : OpenClaim := { program := "ytnfklomokjhojaagreatdoor", sum := "26d83ce4f2ae16f4eb5a79cad4961b341d573f238e957c8e176cd607bbb12a33", func := "halyard/halyardlaw01.DiskOwns", spec := "diskOwns", inPlace := ["internal/bytealg.CountString", "internal/bytealg.IndexByteString", "internal/bytealg.IndexString", "internal/bytealg.abigen_runtime_cmpstring"], unfollowed := true, recurses := true, named := ["unicode/utf8.first", "unicode/utf8.acceptRanges", "internal/bytealg.MaxLen"], apart := false, laid := [("unicode/utf8.acceptRanges", laid_unicode_utf8_acceptRanges), ("unicode/utf8.first", laid_unicode_utf8_first)], narrowed := true }
def DiskOwnsUptoSaid : Prop := diskOwnsUptoRow.holds Tryz.pinned (OpenSpec.upto diskOwnsSpec)

/-- 'halyardlaw01.DiskLoads', WHERE WHAT IT READS IS OF BULK AT MOST 1048576: true; the input reads as it did. -/
def diskLoadsUptoRow : OpenClaim := { program := "ytnfklomokjhojaagreatdoor", sum := "26d83ce4f2ae16f4eb5a79cad4961b341d573f238e957c8e176cd607bbb12a33", func := "halyard/halyardlaw01.DiskLoads", spec := "diskLoads", inPlace := ["internal/bytealg.CountString", "internal/bytealg.IndexByteString", "internal/bytealg.IndexString", "internal/bytealg.abigen_runtime_cmpstring"], unfollowed := true, recurses := true, named := ["unicode/utf8.first", "unicode/utf8.acceptRanges", "internal/bytealg.MaxLen"], apart := false, laid := [("unicode/utf8.acceptRanges", laid_unicode_utf8_acceptRanges), ("unicode/utf8.first", laid_unicode_utf8_first)], narrowed := true }
def DiskLoadsUptoSaid : Prop := diskLoadsUptoRow.holds Tryz.pinned (OpenSpec.upto diskLoadsSpec)

/-- 'halyardlaw01.DiskSound', WHERE WHAT IT READS IS OF BULK AT MOST 1048576: true; the input reads as it did. -/
def diskSoundUptoRow : OpenClaim := { program := "ytnfklomokjhojaagreatdoor", sum := "26d83ce4f2ae16f4eb5a79cad4961b341d573f238e957c8e176cd607bbb12a33", func := "halyard/halyardlaw01.DiskSound", spec := "diskSound", inPlace := ["internal/bytealg.CountString", "internal/bytealg.IndexByteString", "internal/bytealg.IndexString", "internal/bytealg.abigen_runtime_cmpstring"], unfollowed := true, recurses := true, named := ["unicode/utf8.first", "unicode/utf8.acceptRanges", "internal/bytealg.MaxLen"], apart := false, laid := [("unicode/utf8.acceptRanges", laid_unicode_utf8_acceptRanges), ("unicode/utf8.first", laid_unicode_utf8_first)], narrowed := true }
def DiskSoundUptoSaid : Prop := diskSoundUptoRow.holds Tryz.pinned (OpenSpec.upto diskSoundSpec)

/-- 'halyardlaw01.DiskAgain', WHERE WHAT IT READS IS OF BULK AT MOST 1048576: true; the input reads as it did. -/
def diskAgainUptoRow : OpenClaim := { program := "ytnfklomokjhojaagreatdoor", sum := "26d83ce4f2ae16f4eb5a79cad4961b341d573f238e957c8e176cd607bbb12a33", func := "halyard/halyardlaw01.DiskAgain", spec := "diskAgain", inPlace := ["internal/bytealg.CountString", "internal/bytealg.IndexByteString", "internal/bytealg.IndexString", "internal/bytealg.abigen_runtime_cmpstring"], unfollowed := true, recurses := true, named := ["unicode/utf8.first", "unicode/utf8.acceptRanges", "internal/bytealg.MaxLen"], apart := false, laid := [("unicode/utf8.acceptRanges", laid_unicode_utf8_acceptRanges), ("unicode/utf8.first", laid_unicode_utf8_first)], narrowed := true }
def DiskAgainUptoSaid : Prop := diskAgainUptoRow.holds Tryz.pinned (OpenSpec.upto diskAgainSpec)

/-- 'halyardlaw17.PlanAgain', WHERE WHAT IT READS IS OF BULK AT MOST 1048576: true; the input reads as it did. -/
def planAgainUptoRow : OpenClaim := { program := "ytnfklomokjhojaagreatdoor", sum := "26d83ce4f2ae16f4eb5a79cad4961b341d573f238e957c8e176cd607bbb12a33", func := "halyard/halyardlaw17.PlanAgain", spec := "planAgain", inPlace := ["internal/bytealg.IndexByteString", "internal/bytealg.IndexString", "internal/abi.NoEscape", "internal/bytealg.CountString", "internal/bytealg.abigen_runtime_cmpstring"], unfollowed := true, recurses := true, named := ["unicode/utf8.first", "unicode/utf8.acceptRanges", "internal/bytealg.MaxLen"], apart := false, laid := [("unicode/utf8.acceptRanges", laid_unicode_utf8_acceptRanges), ("unicode/utf8.first", laid_unicode_utf8_first)], narrowed := true }
def PlanAgainUptoSaid : Prop := planAgainUptoRow.holds Tryz.pinned (OpenSpec.upto planAgainSpec)

end Rows
end Go.Proofs.YtnfklomokjhojaaGreatDoor
