/- Rows of files in memory. -/
import Derived.Test.YtdogacgpfnolfaaGreatDoorDiskP
import Derived.Test.YtdogacgpfnolfaaGreatDoorRead
namespace Go.Proofs.YtdogacgpfnolfaaGreatDoor
open Go.RowKit
set_option linter.unusedSimpArgs false
set_option linter.unusedVariables false
/-- The slice v has the files ds, in blocks below B. -/
structure Files (w : World) (B : Nat) (v : Value) (ds : List Disk.Fl) : Prop where
  is : ∃ a cap, v = .slice a ds.length cap ∧ ∀ (i : Nat) d, ds[i]? = some d → ∃ bk o, a = some ⟨bk, o, none⟩ ∧ bk < B ∧
    w.cell? ⟨bk, o + i * 3, none⟩ = some (.string (bs d.path)) ∧ w.cell? ⟨bk, o + i * 3 + 1, none⟩ = some (.bool d.dir) ∧ w.cell? ⟨bk, o + i * 3 + 2, none⟩ = some (.string (bs d.data))
theorem Files.nil (w : World) (B : Nat) : Files w B (.slice none 0 0) [] := ⟨none, 0, rfl, fun i d h => by simp at h⟩
theorem Files.form {w : World} {B : Nat} {v : Value} {ds : List Disk.Fl} (h : Files w B v ds) : ∃ a cap, v = .slice a ds.length cap := by
  obtain ⟨a, cap, rfl, _⟩ := h.is
  exact ⟨a, cap, rfl⟩
theorem Files.at {w : World} {B : Nat} {v : Value} {ds : List Disk.Fl} (h : Files w B v ds) (hn : 0 < ds.length) : ∃ bk o cap, v = .slice (some ⟨bk, o, none⟩) ds.length cap ∧ bk < B ∧ ∀ (i : Nat) d, ds[i]? = some d →
    w.cell? ⟨bk, o + i * 3, none⟩ = some (.string (bs d.path)) ∧ w.cell? ⟨bk, o + i * 3 + 1, none⟩ = some (.bool d.dir) ∧ w.cell? ⟨bk, o + i * 3 + 2, none⟩ = some (.string (bs d.data)) := by
  obtain ⟨a, cap, rfl, hc⟩ := h.is
  obtain ⟨bk, o, ha, hB, _⟩ := hc 0 ds[0] (List.getElem?_eq_getElem hn)
  subst ha
  refine ⟨bk, o, cap, rfl, hB, fun i d hd => ?_⟩
  obtain ⟨bk', o', ha', _, h1, h2, h3⟩ := hc i d hd
  cases ha'
  exact ⟨h1, h2, h3⟩
theorem Files.below {w w' : World} {n B : Nat} {v : Value} {ds : List Disk.Fl} (h : Files w B v ds) (hb : Below n w w') (hB : B ≤ n) : Files w' B v ds := by
  obtain ⟨a, cap, rfl, hc⟩ := h.is
  refine ⟨a, cap, rfl, fun i d hd => ?_⟩
  obtain ⟨bk, o, ha, hb', h1, h2, h3⟩ := hc i d hd
  refine ⟨bk, o, ha, hb', ?_, ?_, ?_⟩
  · rw [hb.cell (p := ⟨bk, o + i * 3, none⟩) (by show bk < n; omega)]; exact h1
  · rw [hb.cell (p := ⟨bk, o + i * 3 + 1, none⟩) (by show bk < n; omega)]; exact h2
  · rw [hb.cell (p := ⟨bk, o + i * 3 + 2, none⟩) (by show bk < n; omega)]; exact h3
theorem Files.mono {w : World} {B B' : Nat} {v : Value} {ds : List Disk.Fl} (h : Files w B v ds) (hB : B ≤ B') : Files w B' v ds := by
  obtain ⟨a, cap, rfl, hc⟩ := h.is
  refine ⟨a, cap, rfl, fun i d hd => ?_⟩
  obtain ⟨bk, o, ha, hb', h1⟩ := hc i d hd
  exact ⟨bk, o, ha, by omega, h1⟩
theorem Files.drewN {w : World} {B : Nat} {v : Value} {ds : List Disk.Fl} (h : Files w B v ds) (q : Nat) : Files (w.drewN q) B v ds := ⟨h.is⟩
theorem Files.alloc {w : World} {B : Nat} {v : Value} {ds : List Disk.Fl} (h : Files w B v ds) (hB : B ≤ w.heap.size) (o : Obj) : Files (w.alloc o) B v ds := h.below ((Below.refl _ w).alloc (Nat.le_refl _) o) hB
end Go.Proofs.YtdogacgpfnolfaaGreatDoor
