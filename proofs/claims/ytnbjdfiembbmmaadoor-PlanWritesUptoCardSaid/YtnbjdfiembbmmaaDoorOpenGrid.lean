/- A list of lists of texts that came in: what its rows hold, and its bulk. -/
import Derived.Test.YtnbjdfiembbmmaaDoorChecked
import Derived.Test.YtnbjdfiembbmmaaDoorRows
import Derived.WideShapes
import Derived.Test.YtnbjdfiembbmmaaDoorRead
import Derived.Test.YtnbjdfiembbmmaaDoorScanJP
import Derived.Deep.Strs
import Derived.OpenShut
namespace Go.Proofs.YtnbjdfiembbmmaaDoor
open Go.RowKit Go.Deep Go.ChangeShapes Go.WideShapes
set_option linter.unusedSimpArgs false
set_option linter.unusedVariables false
theorem cell_lt {w : World} {a : Addr} {v : Value} (h : w.cell? a = some v) : a.block < w.heap.size := by
  refine Decidable.byContradiction fun hh => ?_
  unfold World.cell? at h
  rw [Array.getElem?_eq_none (by simpa using hh)] at h
  exact absurd h (by simp)
theorem bulk_strs {H : Type} (Sx : Nat → ByteArray) (n : Nat) : (Cut.glue 32 ((List.range n).map fun i => (Sx i).data.toList)).length ≤ Rows.uptoBulkAll (H := H) ((List.range n).map fun i => .lit (.string (Sx i).data.toList)) := by
  have key : ∀ l : List (List UInt8), (Cut.glue 32 l).length ≤ Rows.uptoBulkAll (H := H) (l.map fun x => .lit (.string x)) := by
    intro l
    induction l with
    | nil => simp [Cut.glue]
    | cons x r ih =>
      cases r with
      | nil => simp [Cut.glue, Rows.uptoBulkAll, Rows.uptoBulk]
      | cons y r =>
        have e : (Cut.glue 32 (x :: y :: r)).length = x.length + ((Cut.glue 32 (y :: r)).length + 1) := by
          show (x ++ 32 :: Cut.glue 32 (y :: r)).length = _
          simp
        rw [e, List.map_cons, Rows.uptoBulkAll, Rows.uptoBulk]
        omega
  have := key ((List.range n).map fun i => (Sx i).data.toList)
  rw [List.map_map] at this
  exact this
theorem open_line {H : Type} {enc : TypeId × Value → H} {W : World} {base fuel : Nat} {spare : Nat → Bool} {held : Bool} {v : Value} {d : DataW H} {p : List MemPlace}
    (h : DataW.trod enc Tryd.prog W base spare held fuel 38 [v] = some (d, p)) : ∃ l, Row W W.heap.size v (l.map sv) ∧ (Cut.glue 32 l).length + 1 ≤ Rows.uptoBulk d := by
  rcases open_strs Tryd.underlying38 Tryd.underlying9 (by kernel_rfl) h with ⟨hv, hx⟩ | ⟨a, len, cap, m, Sx, hv, hb, hl, hm, hmm, hx, hc⟩
  · simp only [List.cons.injEq, and_true] at hv
    subst hv
    cases hx
    exact ⟨[], Row.nil _ _, by simp [Cut.glue, Rows.uptoBulk]⟩
  · simp only [List.cons.injEq, and_true] at hv
    subst hv
    simp only [Prod.mk.injEq] at hx
    obtain ⟨rfl, _⟩ := hx
    have hlm : len ≤ m := by rw [hmm]; split <;> omega
    refine ⟨(List.range len).map fun i => (Sx i).data.toList, ⟨some a, cap, by simp, by simpa using hl, fun i u hu => ?_⟩, ?_⟩
    · rw [List.map_map, List.getElem?_map] at hu
      by_cases hi : i < len
      · rw [List.getElem?_range hi] at hu
        simp at hu
        subst hu
        have := (hc i (by omega)).1
        exact ⟨a, rfl, by have := cell_lt this; rwa [add_block] at this, this⟩
      · rw [List.getElem?_eq_none (by simpa using hi)] at hu
        simp at hu
    · have := bulk_strs (H := H) Sx len
      rw [Rows.uptoBulk]
      omega
theorem bulk_grid {H : Type} (L : Nat → List (List UInt8)) (D : Nat → DataW H) (n : Nat) (h : ∀ i, i < n → (Cut.glue 32 (L i)).length + 1 ≤ Rows.uptoBulk (D i)) :
    (Scan.unlines ((List.range n).map L)).length ≤ Rows.uptoBulkAll ((List.range n).map D) := by
  have key : ∀ l : List Nat, (∀ i ∈ l, i < n) → (Scan.unlines (l.map L)).length ≤ Rows.uptoBulkAll (l.map D) := by
    intro l
    induction l with
    | nil => intro _; simp [Scan.unlines]
    | cons x r ih =>
      intro hx
      have e : Scan.unlines ((x :: r).map L) = Cut.glue 32 (L x) ++ 10 :: Scan.unlines (r.map L) := by simp [Scan.unlines, Scan.unline]
      have h1 := h x (hx x List.mem_cons_self)
      have h2 := ih fun i hi => hx i (List.mem_cons_of_mem _ hi)
      rw [e, List.map_cons, Rows.uptoBulkAll]
      simp only [List.length_append, List.length_cons]
      omega
  exact key _ fun i hi => List.mem_range.1 hi
set_option maxRecDepth 100000 in
theorem open_grid {H : Type} {enc : TypeId × Value → H} {W : World} {base : Nat} {v : Value} {d : DataW H} {p : List MemPlace}
    (hv : Value.okWide Tryd.prog W .any base 34 v) (h : DataW.Trod enc Tryd.prog W 0 (fun _ => true) true 34 v d p) :
    ∃ ls, Grid W W.heap.size v ls ∧ (Scan.unlines ls).length ≤ Rows.uptoBulk d := by
  obtain ⟨fuel, hf⟩ := h
  obtain ⟨ao, n0, c0, rfl⟩ : ∃ ao n c, v = .slice ao n c := okWide_slice Tryd.underlying34 hv
  rcases open_slice1 Tryd.underlying34 (by kernel_rfl) hf with ⟨hv, hx⟩ | ⟨a, len, cap, m, n, V, D, Pl, hv, hb, hl, hm, hmm, hx, hc⟩
  · have hv' : Value.slice ao n0 c0 = .slice none 0 0 := by simpa [Value.cells] using hv
    rw [hv']
    cases hx
    exact ⟨[], ⟨[], Row.nil _ _, rfl, fun i u l hu hl => by simp at hu⟩, by simp [Scan.unlines]⟩
  · have hv' : Value.slice ao n0 c0 = .slice (some a) len cap := by simpa [Value.cells] using hv
    rw [hv']
    simp only [Prod.mk.injEq] at hx
    obtain ⟨rfl, _⟩ := hx
    have hlm : len ≤ m := by rw [hmm]; split <;> omega
    obtain ⟨L, hL⟩ := choose_lt (α := List (List UInt8)) (n := len) (p := fun i l => Row W W.heap.size (V i) (l.map sv) ∧ (Cut.glue 32 l).length + 1 ≤ Rows.uptoBulk (D i)) fun i hi => open_line (hc i (by omega)).2
    refine ⟨(List.range len).map L, ⟨(List.range len).map V, ⟨some a, cap, by simp, by simpa using hl, fun i u hu => ?_⟩, by simp, fun i u l hu hl => ?_⟩, ?_⟩
    · rw [List.getElem?_map] at hu
      by_cases hi : i < len
      · rw [List.getElem?_range hi] at hu
        simp at hu
        subst hu
        have := (hc i (by omega)).1
        exact ⟨a, rfl, by have := cell_lt this; rwa [add_block] at this, this⟩
      · rw [List.getElem?_eq_none (by simpa using hi)] at hu
        simp at hu
    · rw [List.getElem?_map] at hu hl
      by_cases hi : i < len
      · rw [List.getElem?_range hi] at hu hl
        simp at hu hl
        subst hu; subst hl
        exact (hL i hi).1
      · rw [List.getElem?_eq_none (by simpa using hi)] at hu
        simp at hu
    · have := bulk_grid L D len fun i hi => (hL i hi).2
      rw [Rows.uptoBulk]
      omega
end Go.Proofs.YtnbjdfiembbmmaaDoor
