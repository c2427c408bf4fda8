/- What a raw write changes: the plain law. No program stands here. -/
import Derived.Test.YtnfklomokjhojaaGreatDoorHung
namespace Go.Proofs.YtnfklomokjhojaaGreatDoor
set_option linter.unusedSimpArgs false
set_option linter.unusedVariables false
namespace Disk
/-- What is at another path is looked up as before. -/
theorem core_look (l : M) (k : Int) (x : Dq) (p : List UInt8) (h1 : p ≠ x.path) (h2 : k = 2 → p ≠ x.to) : SM.look (coreOf l k x).1.2 p = SM.look l p := by
  have hput : ∀ t, SM.look (SM.put l x.path t) p = SM.look l p := fun t => by rw [SM.look_put, if_neg h1]
  have hdel : SM.look (SM.del l x.path) p = SM.look l p := by rw [SM.look_del, if_neg h1]
  unfold coreOf
  split
  · unfold mkdirC
    repeat' split
    all_goals first | rfl | exact hput _
  split
  · unfold writeC
    repeat' split
    all_goals first | rfl | exact hput _
  split
  · rename_i h
    unfold renameC
    repeat' split
    all_goals first | rfl | (show SM.look (SM.put (SM.del l x.path) x.to _) p = _; rw [SM.look_put, if_neg (h2 h), hdel])
  · unfold removeC
    repeat' split
    all_goals first | rfl | exact hdel
/-- A raw write is refused, and nothing has changed; or it is done, and all other paths are as they were. -/
theorem asked_whole (s : S) (k : Int) (x : Dq) : (s.asked k x).2 = s ∨ ((s.asked k x).2.raws.length = s.raws.length + 1 ∧ ∀ p, p ≠ x.path → (k = 2 → p ≠ x.to) → SM.look (s.asked k x).2.l p = SM.look s.l p) := by
  have hc := core_look s.l k x
  unfold S.asked S.ask
  split
  · exact Or.inl rfl
  · split
    · refine Or.inr ⟨?_, fun p h1 h2 => hc p h1 h2⟩
      show (s.raws ++ [_]).length = _
      rw [List.length_append, List.length_singleton]
    · exact Or.inl rfl
/-- Is the file at the paths of a raw write? -/
def touched (k : Int) (x : Dq) (f : Fl) : Bool := decide (f.path = x.path) || (decide (k = 2) && decide (f.path = x.to))
theorem touched_not {k : Int} {x : Dq} {f : Fl} (h : touched k x f = false) : f.path ≠ x.path ∧ (k = 2 → f.path ≠ x.to) := by
  unfold touched at h
  simp only [Bool.or_eq_false_iff, Bool.and_eq_false_iff, decide_eq_false_iff_not] at h
  refine ⟨h.1, fun hk => ?_⟩
  rcases h.2 with h2 | h2
  · exact absurd hk h2
  · exact h2
theorem mem_fls {l : M} (h : SM.Rises l) {f : Fl} : f ∈ fls l ↔ SM.look l f.path = some f.t := by
  unfold fls
  constructor
  · intro hf
    obtain ⟨y, hy, rfl⟩ := List.mem_map.1 hf
    exact SM.look_mem h hy
  · intro hf
    exact List.mem_map.2 ⟨_, SM.look_some hf, by cases f; rfl⟩
end Disk
end Go.Proofs.YtnfklomokjhojaaGreatDoor
