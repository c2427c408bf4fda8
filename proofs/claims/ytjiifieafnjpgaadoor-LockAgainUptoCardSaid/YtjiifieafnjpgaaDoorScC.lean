/- The document's split and line. -/
import Derived.Test.YtjiifieafnjpgaaDoorChecked
import Derived.Test.YtjiifieafnjpgaaDoorScA
import Derived.Test.YtjiifieafnjpgaaDoorScanLines
import Derived.Handy
import Derived.WalkMore
import Derived.WalkLawsBesides
import Derived.WalkSpells
import Derived.Outline
import Derived.Lib.Hide
import Derived.BigQuiet
namespace Go.Proofs.YtjiifieafnjpgaaDoor
open Go.RowKit
set_option linter.unusedSimpArgs false
set_option linter.unusedVariables false
/-- A part of a text. -/
def seg (T : List UInt8) (f k : Nat) : List UInt8 := (T.drop f).take (k - f)
theorem extract_seg (s : ByteArray) (f k : Nat) : Value.string (s.extract f k) = sv (seg s.data.toList f k) := by
  unfold sv bs seg
  congr 1
  apply ByteArray.ext
  apply Array.toList_inj.1
  simp [List.extract]
theorem seg_full (T : List UInt8) (f : Nat) : seg T f T.length = T.drop f := by
  unfold seg
  rw [List.take_of_length_le (by simp)]
theorem seg_next {T : List UInt8} {f k : Nat} {c d : UInt8} (hf : f ≤ k) (hc : T[k]? = some c) (hd : c ≠ d) (h : d ∉ seg T f k) : d ∉ seg T f (k + 1) := by
  have e : seg T f (k + 1) = seg T f k ++ [c] := by
    unfold seg
    rw [show k + 1 - f = (k - f) + 1 by omega, List.take_add_one, List.getElem?_drop, show f + (k - f) = k by omega, hc]
    rfl
  rw [e]
  intro hm
  rcases List.mem_append.1 hm with hm | hm
  · exact h hm
  · simp at hm; exact hd hm.symm
theorem cuts_seg {T : List UInt8} {f k : Nat} {d : UInt8} (hf : f ≤ k) (hc : T[k]? = some d) (h : d ∉ seg T f k) : Cut.cuts d (T.drop f) = seg T f k :: Cut.cuts d (T.drop (k + 1)) := by
  have hk := List.getElem?_eq_some_iff.1 hc
  have e : T.drop f = seg T f k ++ d :: T.drop (k + 1) := by
    have e1 : T.drop f = seg T f k ++ (T.drop f).drop (k - f) := (List.take_append_drop _ _).symm
    rw [List.drop_drop, show f + (k - f) = k by omega, List.drop_eq_getElem_cons hk.1, hk.2] at e1
    exact e1
  rw [e, Cut.cuts_append h]
theorem seg_nil (T : List UInt8) (k : Nat) : seg T k k = [] := by simp [seg]
/-- Where a run of split stands. -/
structure Sp (T : List UInt8) (d : UInt8) (f k : Nat) (ps : List (List UInt8)) : Prop where
  eq : Cut.cuts d T = ps ++ Cut.cuts d (T.drop f)
  fk : f ≤ k
  le : k ≤ T.length
  free : d ∉ seg T f k
  len : ps.length ≤ k
theorem Sp.start (T : List UInt8) (d : UInt8) : Sp T d 0 0 [] := ⟨by simp, Nat.le_refl _, Nat.zero_le _, by simp [seg], Nat.le_refl _⟩
theorem Sp.miss {T d f k ps c} (h : Sp T d f k ps) (hc : T[k]? = some c) (hd : c ≠ d) : Sp T d f (k + 1) ps :=
  ⟨h.eq, by have := h.fk; omega, (List.getElem?_eq_some_iff.1 hc).1, seg_next h.fk hc hd h.free, by have := h.len; omega⟩
theorem Sp.hit {T d f k ps} (h : Sp T d f k ps) (hc : T[k]? = some d) : Sp T d (k + 1) (k + 1) (ps ++ [seg T f k]) :=
  ⟨by rw [h.eq, cuts_seg h.fk hc h.free]; simp, Nat.le_refl _, (List.getElem?_eq_some_iff.1 hc).1, by rw [seg_nil]; simp, by have := h.len; simp; omega⟩
theorem Sp.done {T d f k ps} (h : Sp T d f k ps) (hk : k = T.length) : Cut.cuts d T = ps ++ [seg T f T.length] := by
  have hf := h.free
  rw [hk, seg_full] at hf
  rw [h.eq, Cut.cuts_one hf, seg_full]
end Go.Proofs.YtjiifieafnjpgaaDoor

namespace Go.Proofs.YtjiifieafnjpgaaDoor
open Go.RowKit
set_option linter.unusedSimpArgs false
set_option linter.unusedVariables false
theorem all_take_full {α : Type} {f : α → Bool} {l : List α} {k : Nat} (h : ∀ c ∈ l.take k, f c = true) (hk : l.length ≤ k) : l.all f = true := by
  rw [List.take_of_length_le hk] at h
  exact List.all_eq_true.2 h
theorem all_no {α : Type} {f : α → Bool} {l : List α} {k : Nat} {c : α} (h : l[k]? = some c) (hc : f c = false) : l.all f = false := by
  rw [List.all_eq_false]
  exact ⟨c, List.mem_of_getElem? h, by simp [hc]⟩
theorem all_take_next {α : Type} {f : α → Bool} {l : List α} {k : Nat} {c : α} (h : ∀ c ∈ l.take k, f c = true) (hx : l[k]? = some c) (hc : f c = true) : ∀ c ∈ l.take (k + 1), f c = true := by
  rw [List.take_add_one, hx]
  intro x hm
  rcases List.mem_append.1 hm with hm | hm
  · exact h x hm
  · simp at hm; subst hm; exact hc
/-- What line of the document answers. -/
def LinePost (s : ByteArray) (w : World) (e : Ending) (w' : World) : Prop := Below w.heap.size w w' ∧
  ((Scan.lineOk s.data.toList = false ∧ e = .returned (.tuple #[.slice none 0 0, .bool false])) ∨
   (Scan.lineOk s.data.toList = true ∧ ∃ v, e = .returned (.tuple #[v, .bool true]) ∧ w'.ownsRow w.heap.size 9 1 v (Cut.cuts 32 s.data.toList).length ((Cut.cuts 32 s.data.toList).map sv)))
end Go.Proofs.YtjiifieafnjpgaaDoor
