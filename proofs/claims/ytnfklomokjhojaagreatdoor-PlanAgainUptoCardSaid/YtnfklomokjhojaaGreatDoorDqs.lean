/- Rows of what is asked of a disk, in memory. -/
import Derived.Test.YtnfklomokjhojaaGreatDoorDiskM
import Derived.Test.YtnfklomokjhojaaGreatDoorRead
namespace Go.Proofs.YtnfklomokjhojaaGreatDoor
open Go.RowKit
set_option linter.unusedSimpArgs false
set_option linter.unusedVariables false
/-- The slice v has the deeds ds, in blocks below B. -/
structure Dqs (w : World) (B : Nat) (v : Value) (ds : List Disk.Dq) : Prop where
  is : ∃ a cap, v = .slice a ds.length cap ∧ ∀ (i : Nat) d, ds[i]? = some d → ∃ bk o, a = some ⟨bk, o, none⟩ ∧ bk < B ∧
    w.cell? ⟨bk, o + i * 5, none⟩ = some (.int .i64 d.kind) ∧ w.cell? ⟨bk, o + i * 5 + 1, none⟩ = some (.string (bs d.path)) ∧ w.cell? ⟨bk, o + i * 5 + 2, none⟩ = some (.string (bs d.to)) ∧ w.cell? ⟨bk, o + i * 5 + 3, none⟩ = some (.string (bs d.data)) ∧ w.cell? ⟨bk, o + i * 5 + 4, none⟩ = some (.int .i64 d.n)
theorem Dqs.nil (w : World) (B : Nat) : Dqs w B (.slice none 0 0) [] := ⟨none, 0, rfl, fun i d h => by simp at h⟩
theorem Dqs.form {w : World} {B : Nat} {v : Value} {ds : List Disk.Dq} (h : Dqs w B v ds) : ∃ a cap, v = .slice a ds.length cap := by
  obtain ⟨a, cap, rfl, _⟩ := h.is
  exact ⟨a, cap, rfl⟩
theorem Dqs.at {w : World} {B : Nat} {v : Value} {ds : List Disk.Dq} (h : Dqs w B v ds) (hn : 0 < ds.length) : ∃ bk o cap, v = .slice (some ⟨bk, o, none⟩) ds.length cap ∧ bk < B ∧ ∀ (i : Nat) d, ds[i]? = some d →
    w.cell? ⟨bk, o + i * 5, none⟩ = some (.int .i64 d.kind) ∧ w.cell? ⟨bk, o + i * 5 + 1, none⟩ = some (.string (bs d.path)) ∧ w.cell? ⟨bk, o + i * 5 + 2, none⟩ = some (.string (bs d.to)) ∧ w.cell? ⟨bk, o + i * 5 + 3, none⟩ = some (.string (bs d.data)) ∧ w.cell? ⟨bk, o + i * 5 + 4, none⟩ = some (.int .i64 d.n) := by
  obtain ⟨a, cap, rfl, hc⟩ := h.is
  obtain ⟨bk, o, ha, hB, _⟩ := hc 0 ds[0] (List.getElem?_eq_getElem hn)
  subst ha
  refine ⟨bk, o, cap, rfl, hB, fun i d hd => ?_⟩
  obtain ⟨bk', o', ha', _, h1⟩ := hc i d hd
  cases ha'
  exact h1
theorem Dqs.below {w w' : World} {n B : Nat} {v : Value} {ds : List Disk.Dq} (h : Dqs w B v ds) (hb : Below n w w') (hB : B ≤ n) : Dqs w' B v ds := by
  obtain ⟨a, cap, rfl, hc⟩ := h.is
  refine ⟨a, cap, rfl, fun i d hd => ?_⟩
  obtain ⟨bk, o, ha, hb', h1, h2, h3, h4, h5⟩ := hc i d hd
  have hlt : bk < n := by omega
  refine ⟨bk, o, ha, hb', ?_, ?_, ?_, ?_, ?_⟩
  · rw [hb.cell (p := ⟨bk, o + i * 5, none⟩) hlt]; exact h1
  · rw [hb.cell (p := ⟨bk, o + i * 5 + 1, none⟩) hlt]; exact h2
  · rw [hb.cell (p := ⟨bk, o + i * 5 + 2, none⟩) hlt]; exact h3
  · rw [hb.cell (p := ⟨bk, o + i * 5 + 3, none⟩) hlt]; exact h4
  · rw [hb.cell (p := ⟨bk, o + i * 5 + 4, none⟩) hlt]; exact h5
end Go.Proofs.YtnfklomokjhojaaGreatDoor
