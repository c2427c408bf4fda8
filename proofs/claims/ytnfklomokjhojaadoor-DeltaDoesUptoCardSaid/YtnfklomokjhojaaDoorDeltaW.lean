/- What makes one set of files another one: its laws, in plain words. -/
import Derived.Test.YtnfklomokjhojaaDoorDeltaL
namespace Go.Proofs.YtnfklomokjhojaaDoor
set_option linter.unusedSimpArgs false
set_option linter.unusedVariables false
namespace Disk
/-- A set as it was read. -/
structure Loaded (fs : List Fl) (l : M) : Prop where
  rises : SM.Rises l
  mem : ∀ f ∈ fs, SM.look l f.path = some f.t
  dirs : ∀ p t, SM.look l p = some t → t.dir = true → t.data = []
  len : l.length ≤ fs.length
theorem read_loaded {fs : List Fl} {l : M} (h : read fs = some l) : Loaded fs l := by
  unfold read at h
  split at h
  · exact absurd h (by simp)
  · rename_i m hm
    split at h
    · exact absurd h (by simp)
    · cases h
      have hr := load_rises hm
      unfold load at hm
      split at hm
      · exact absurd hm (by simp)
      · rename_i l' hl'
        split at hm
        · cases hm
          obtain ⟨h1, h2, h3⟩ := fill_look hl'
          have h4 := fill_ok hl'
          refine ⟨hr, h3, fun p t hp hd => ?_, by simpa using fill_length hl'⟩
          rcases h1 p t hp with hh | ⟨f, hf, _, e⟩
          · exact absurd hh (by simp [SM.look_nil])
          · subst e; exact (h4 f hf).2 hd
        · exact absurd hm (by simp)
theorem res_cases (before after : List Fl) : deedsRes before after = ([], 1) ∨ ∃ a b, Loaded before a ∧ Loaded after b ∧ read before = some a ∧ read after = some b ∧ deedsRes before after = (delta a b, 0) := by
  unfold deedsRes
  cases h1 : read before with
  | none => exact Or.inl rfl
  | some a =>
    cases h2 : read after with
    | none => exact Or.inl rfl
    | some b => exact Or.inr ⟨a, b, read_loaded h1, read_loaded h2, rfl, rfl, rfl⟩
theorem mem_pick {c : List UInt8 × T → Nat} {k : Nat} {f : List UInt8 × T → Dd} {l : M} {d : Dd} : d ∈ pick c k f l ↔ ∃ x ∈ l, c x = k ∧ f x = d := by
  unfold pick
  constructor
  · intro h
    obtain ⟨x, hx, e⟩ := List.mem_map.1 h
    have := List.mem_filter.1 hx
    exact ⟨x, this.1, by simpa using this.2, e⟩
  · rintro ⟨x, hx, hc, e⟩
    exact List.mem_map.2 ⟨x, List.mem_filter.2 ⟨hx, by simpa using hc⟩, e⟩
theorem mem_delta {a b : M} {d : Dd} : d ∈ delta a b ↔ d ∈ pick (cls b) 1 unl a ∨ d ∈ pick (cls b) 2 rmd a ∨ d ∈ pick (cls2 a) 3 mkd b ∨ d ∈ pick (cls2 a) 4 putd b := by
  unfold delta
  simp only [List.mem_append, List.mem_reverse]
theorem cls_zero {b : M} {p : List UInt8} {t : T} (h : SM.look b p = some t) : cls b (p, t) = 0 := by
  unfold cls
  rw [h]
  simp
theorem cls2_zero {a : M} {p : List UInt8} {t : T} (h : SM.look a p = some t) : cls2 a (p, t) = 0 := by
  unfold cls2
  rw [h]
  simp
/-- No deed is at a path at which both have the same. -/
theorem least {a b : M} (ha : SM.Rises a) (hb : SM.Rises b) {d : Dd} (hd : d ∈ delta a b) : SM.look a d.path ≠ SM.look b d.path := by
  intro he
  rcases mem_delta.1 hd with h | h | h | h
  · obtain ⟨x, hx, hc, rfl⟩ := mem_pick.1 h
    have h1 := SM.look_mem ha hx
    have he : SM.look a x.1 = SM.look b x.1 := he
    rw [h1] at he
    rw [show x = (x.1, x.2) from rfl, cls_zero he.symm] at hc
    exact absurd hc (by simp)
  · obtain ⟨x, hx, hc, rfl⟩ := mem_pick.1 h
    have h1 := SM.look_mem ha hx
    have he : SM.look a x.1 = SM.look b x.1 := he
    rw [h1] at he
    rw [show x = (x.1, x.2) from rfl, cls_zero he.symm] at hc
    exact absurd hc (by simp)
  · obtain ⟨x, hx, hc, rfl⟩ := mem_pick.1 h
    have h1 := SM.look_mem hb hx
    have he : SM.look a x.1 = SM.look b x.1 := he
    rw [h1] at he
    rw [show x = (x.1, x.2) from rfl, cls2_zero he] at hc
    exact absurd hc (by simp)
  · obtain ⟨x, hx, hc, rfl⟩ := mem_pick.1 h
    have h1 := SM.look_mem hb hx
    have he : SM.look a x.1 = SM.look b x.1 := he
    rw [h1] at he
    rw [show x = (x.1, x.2) from rfl, cls2_zero he] at hc
    exact absurd hc (by simp)
theorem delta_self {b : M} (hb : SM.Rises b) : delta b b = [] := by
  refine List.eq_nil_iff_forall_not_mem.2 fun d hd => least hb hb hd rfl
/-- Where the two part there is a deed. -/
theorem parts {a b : M} {p : List UInt8} (h : SM.look a p ≠ SM.look b p) : ∃ d ∈ delta a b, d.path = p := by
  cases ha : SM.look a p with
  | none =>
    cases hb : SM.look b p with
    | none => rw [ha, hb] at h; exact absurd rfl h
    | some y =>
      have hm := SM.look_some hb
      cases hd : y.dir
      · exact ⟨putd (p, y), mem_delta.2 (Or.inr (Or.inr (Or.inr (mem_pick.2 ⟨_, hm, by unfold cls2; simp only; rw [ha]; simp [hd], rfl⟩)))), rfl⟩
      · exact ⟨mkd (p, y), mem_delta.2 (Or.inr (Or.inr (Or.inl (mem_pick.2 ⟨_, hm, by unfold cls2; simp only; rw [ha]; simp [hd], rfl⟩)))), rfl⟩
  | some x =>
    have hm := SM.look_some ha
    cases hb : SM.look b p with
    | none =>
      cases hd : x.dir
      · exact ⟨unl (p, x), mem_delta.2 (Or.inl (mem_pick.2 ⟨_, hm, by unfold cls; simp only; rw [hb]; simp [hd], rfl⟩)), rfl⟩
      · exact ⟨rmd (p, x), mem_delta.2 (Or.inr (Or.inl (mem_pick.2 ⟨_, hm, by unfold cls; simp only; rw [hb]; simp [hd], rfl⟩))), rfl⟩
    | some y =>
      have hm2 := SM.look_some hb
      have hxy : x ≠ y := fun e => h (by rw [ha, hb, e])
      cases hd : y.dir
      · exact ⟨putd (p, y), mem_delta.2 (Or.inr (Or.inr (Or.inr (mem_pick.2 ⟨_, hm2, by unfold cls2; simp only; rw [ha]; simp [hd, hxy], rfl⟩)))), rfl⟩
      · exact ⟨mkd (p, y), mem_delta.2 (Or.inr (Or.inr (Or.inl (mem_pick.2 ⟨_, hm2, by unfold cls2; simp only; rw [ha]; simp [hd, hxy], rfl⟩)))), rfl⟩
end Disk
end Go.Proofs.YtnfklomokjhojaaDoor
