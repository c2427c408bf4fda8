/- Join: the program's and the document's. -/
import Derived.Test.YtjiifieafnjpgaaDoorScL
import Derived.Test.YtjiifieafnjpgaaDoorScanJP
import Derived.Test.YtjiifieafnjpgaaDoorBuilder
namespace Go.Proofs.YtjiifieafnjpgaaDoor
open Go.RowKit
set_option linter.unusedSimpArgs false
set_option linter.unusedVariables false
/-- What Join answers. -/
def joinRes (ls : List (List (List UInt8))) : Value := if Scan.joinOk ls = true then .tuple #[sv (Scan.unlines ls), .int .i64 0] else .tuple #[.string ByteArray.empty, .int .i64 22]
theorem bs_append (a b : List UInt8) : bs a ++ bs b = bs (a ++ b) := by
  apply ByteArray.ext
  apply Array.toList_inj.1
  simp [bs]
theorem builderAt_below {T e : TypeId} {B b : Nat} {p : Value} {xs : List Value} {w w' : World} (h : Go.Lib.BuilderAt T e B b p xs w) (hb : Below w.heap.size w w') : Go.Lib.BuilderAt T e B b p xs w' := by
  obtain ⟨hB, v, hbk, hown, hne⟩ := h
  have hlt : b < w.heap.size := by
    rcases Nat.lt_or_ge b w.heap.size with h' | h'
    · exact h'
    · simp [Array.getElem?_eq_none h'] at hbk
  exact ⟨hB, v, by rw [hb.block b hlt]; exact hbk, hown.kept (Below.grow hb) (by cases v.ownBlock <;> simp), hne⟩
theorem build_below {B b : Nat} {xs : List Value} {w w' : World} (h : Build B b xs w) (hb : Below w.heap.size w w') : Build B b xs w' := by
  rcases h with h | h
  · exact Or.inl (builderAt_below h hb)
  · exact Or.inr (builderAt_below h hb)
end Go.Proofs.YtjiifieafnjpgaaDoor

namespace Go.Proofs.YtjiifieafnjpgaaDoor
open Go.RowKit
set_option linter.unusedSimpArgs false
set_option linter.unusedVariables false
theorem bs_size (l : List UInt8) : (bs l).size = l.length := by show l.toArray.size = _; simp
/-- A sum of texts as a run. -/
theorem bs_add (a b : List UInt8) (h : a.length + b.length ≤ 9223372036854775807) (w : World) : (Op.stringOp .add (bs a) (bs b)).run Tryd.prog w = .ok (.string (bs (a ++ b))) w := by
  have h1 := run_string_add_sum (P := Tryd.prog) w (bs a) (bs b) (by rw [bs_size, bs_size]; exact h)
  rw [h1]
  exact congrArg (fun x => Result.ok (Value.string x) w) (bs_append _ _)
end Go.Proofs.YtjiifieafnjpgaaDoor
