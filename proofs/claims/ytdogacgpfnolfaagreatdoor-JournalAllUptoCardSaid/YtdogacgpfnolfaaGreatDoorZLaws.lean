/- What the laws of both disks share. -/
import Derived.Test.YtdogacgpfnolfaaGreatDoorZList1
import Derived.Test.YtdogacgpfnolfaaGreatDoorDkR
namespace Go.Proofs.YtdogacgpfnolfaaGreatDoor
open Go.RowKit Go.Maps
set_option linter.unusedSimpArgs false
set_option linter.unusedVariables false
theorem load_ok {fs : List Disk.Fl} {l : Disk.M} (h : Disk.load fs = some l) : (∀ x ∈ l, Disk.pathOk x.1 = true) ∧ l.length ≤ fs.length := by
  have hr := Disk.load_rises h
  unfold Disk.load at h
  cases hf : Disk.fill [] fs with
  | none => rw [hf] at h; exact absurd h (by simp)
  | some m =>
    rw [hf] at h
    dsimp only at h
    split at h
    · cases h
      obtain ⟨h1, h2, h3⟩ := Disk.fill_look hf
      refine ⟨fun x hx => ?_, by simpa using Disk.fill_length hf⟩
      rcases h1 _ _ (SM.look_mem hr hx) with hh | ⟨f, hf, e, _⟩
      · exact absurd hh (by simp [SM.look_nil])
      · rw [← e]; exact (Disk.fill_ok ‹_› f hf).1
    · exact absurd h (by simp)
/-- A disk that has been loaded. -/
def loadS (l : Disk.M) : Disk.S := ⟨l, [], -1⟩
theorem Dsk.loaded {w : World} {B b sd bm n N : Nat} {l : Disk.M} (h : DiskIn w b sd bm n l (.slice none 0 0) (-1)) (hB : B ≤ b) (hn : n ≤ N) (hok : ∀ x ∈ l, Disk.pathOk x.1 = true) : Dsk w B (fun k => k = sd ∨ k = bm) sd N (loadS l) ∧ ∀ k, (k = sd ∨ k = bm) → b ≤ k := by
  have h1 := h.sdb; have h2 := h.bmb; have h3 := h.sdl; have h4 := h.bml
  refine ⟨⟨bm, n, .slice none 0 0, ⟨hn, Nat.zero_le _, by show (-1 : Int) ≤ _; decide, hok⟩, ⟨h.mono hB, World.ownsRow_nil _ _ _ _, by simp [Value.ownBlock], by simp [Value.ownBlock], Or.inl rfl, Or.inr rfl, fun g hg => (by cases hg), fun k hk => ?_⟩⟩, fun k hk => ?_⟩
  · rcases hk with rfl | rfl
    · exact ⟨by omega, h3⟩
    · exact ⟨by omega, h4⟩
  · rcases hk with rfl | rfl
    · exact h1
    · exact h2
end Go.Proofs.YtdogacgpfnolfaaGreatDoor
