/- Small functions of texts as lines of words: are two lists the same? is a text a word? -/
import Derived.Test.YtjiifieafnjpgaaDoorChecked
import Derived.Test.YtjiifieafnjpgaaDoorRead
import Derived.Test.YtjiifieafnjpgaaDoorScanP
import Derived.Handy
import Derived.BigQuiet
import Derived.WalkMore
import Derived.WalkLawsBesides
import Derived.WalkSpells
import Derived.Outline
import Derived.Lib.Hide
namespace Go.Proofs.YtjiifieafnjpgaaDoor
open Go.RowKit
set_option linter.unusedSimpArgs false
set_option linter.unusedVariables false
/-- A reading callee in a reading region, met after some draws. -/
theorem quiet_in {P : Program} {f : FuncId} {args : Array Value} {w : World} {m x : Nat} {v : Value}
    (h : Calls P f args (w.drewN (m + x)) fun e w' => e = .returned v ∧ ∃ k, w' = (w.drewN (m + x)).drewN k) : Calls P f args (w.drewN (m + x)) fun e w'' => e = .returned v ∧ ∃ n, w'' = w.drewN (m + n) :=
  h.mono fun _ _ ⟨he, k, hk⟩ => ⟨he, x + k, by rw [hk, World.drewN_drewN, Nat.add_assoc]⟩
theorem take_eq_of {α : Type} {la lb : List α} (hl : la.length = lb.length) {k : Nat} (h : la.take k = lb.take k) (hk : la.length ≤ k) : la = lb := by
  rw [List.take_of_length_le hk, List.take_of_length_le (by omega)] at h; exact h
theorem take_ne_of {α : Type} {la lb : List α} {k : Nat} {x y : α} (hx : la[k]? = some x) (hy : lb[k]? = some y) (h : x ≠ y) : la ≠ lb := fun e => by
  subst e; rw [hx] at hy; exact h (Option.some.inj hy)
theorem take_next {α : Type} {la lb : List α} {k : Nat} {x y : α} (h : la.take k = lb.take k) (hx : la[k]? = some x) (hy : lb[k]? = some y) (e : x = y) : la.take (k + 1) = lb.take (k + 1) := by
  subst e
  rw [List.take_add_one, List.take_add_one, hx, hy, h]
end Go.Proofs.YtjiifieafnjpgaaDoor

namespace Go.Proofs.YtjiifieafnjpgaaDoor
open Go.RowKit
set_option linter.unusedSimpArgs false
set_option linter.unusedVariables false
theorem byte_at (s : ByteArray) {k : Nat} (h : k < s.size) : s.data.toList[k]? = some s[k] := by
  rw [List.getElem?_eq_getElem (by simpa using h)]; rfl
theorem bal_length (s : ByteArray) : s.data.toList.length = s.size := by simp
theorem isW_no {l : List UInt8} {k : Nat} {c : UInt8} (h : l[k]? = some c) (hc : Scan.letter c = false) : Scan.isW l = false :=
  Scan.isW_bad hc (List.mem_of_getElem? h)
theorem isW_full {l : List UInt8} (hp : 0 < l.length) {k : Nat} (h : ∀ c ∈ l.take k, Scan.letter c = true) (hk : l.length ≤ k) : Scan.isW l = true := by
  rw [List.take_of_length_le hk] at h
  exact Scan.isW_of (fun e => by rw [e] at hp; simp at hp) h
theorem take_all_next {l : List UInt8} {k : Nat} {c : UInt8} (h : ∀ c ∈ l.take k, Scan.letter c = true) (hx : l[k]? = some c) (hc : Scan.letter c = true) : ∀ c ∈ l.take (k + 1), Scan.letter c = true := by
  rw [List.take_add_one, hx]
  intro x hm
  rcases List.mem_append.1 hm with hm | hm
  · exact h x hm
  · simp at hm; subst hm; exact hc
theorem str_empty {s : ByteArray} (h : s.size = 0) : s = ByteArray.empty := by
  apply ByteArray.ext; apply Array.ext' ; have : s.data.toList.length = 0 := by rw [bal_length]; exact h
  rw [List.length_eq_zero_iff.1 this]; rfl
theorem str_ne_empty {s : ByteArray} (h : 0 < s.size) : (s.toList == ([] : List UInt8)) = false := by
  rw [beq_eq_false_iff_ne, ByteArray.toList_eq]
  intro e
  have := bal_length s
  rw [e] at this
  simp at this
  omega
end Go.Proofs.YtjiifieafnjpgaaDoor
