/- What lies on a disk hangs together, whatever is asked; what it tells can be loaded again: in plain words. No program stands here. -/
import Derived.Test.YtdogacgpfnolfaaGreatDoorZList1
import Derived.Test.YtdogacgpfnolfaaGreatDoorDkR
namespace Go.Proofs.YtdogacgpfnolfaaGreatDoor
set_option linter.unusedSimpArgs false
set_option linter.unusedVariables false
namespace Disk
structure Hung (l : M) : Prop where
  rises : SM.Rises l
  ok : ∀ p t, SM.look l p = some t → pathOk p = true
  dirs : ∀ p t, SM.look l p = some t → t.dir = true → t = ⟨true, []⟩
  housed : ∀ p t, SM.look l p = some t → parent p = [47] ∨ SM.look l (parent p) = some ⟨true, []⟩
theorem hung_nil : Hung [] := ⟨SM.rises_nil, fun p t h => by simp [SM.look_nil] at h, fun p t h => by simp [SM.look_nil] at h, fun p t h => by simp [SM.look_nil] at h⟩
theorem kind_two {l : M} {p : List UInt8} (h : kind l p = 2) : p = [47] ∨ ∃ t, SM.look l p = some t ∧ t.dir = true := by
  unfold kind at h
  by_cases h0 : p = [47]
  · exact Or.inl h0
  · rw [if_neg h0] at h
    cases hl : SM.look l p with
    | none => rw [hl] at h; exact absurd h (by decide)
    | some t =>
      rw [hl] at h
      refine Or.inr ⟨t, rfl, ?_⟩
      cases hd : t.dir with
      | true => rfl
      | false => dsimp only at h; rw [hd] at h; exact absurd h (by decide)
theorem kind_dir {l : M} {p : List UInt8} (h : p = [47] ∨ SM.look l p = some ⟨true, []⟩) : kind l p = 2 := by
  unfold kind
  rcases h with h | h
  · rw [if_pos h]
  · split
    · rfl
    · rw [h]; rfl
theorem not_dir {l : M} {p : List UInt8} (h : kind l p ≠ 2) : p ≠ [47] ∧ SM.look l p ≠ some ⟨true, []⟩ :=
  ⟨fun e => h (kind_dir (Or.inl e)), fun e => h (kind_dir (Or.inr e))⟩
theorem Hung.home {l : M} (h : Hung l) {p : List UInt8} (hh : homeE l p = 0) : parent p = [47] ∨ SM.look l (parent p) = some ⟨true, []⟩ := by
  unfold homeE at hh
  have hk : kind l (parent p) = 2 := by
    have h3 : kind l (parent p) = 0 ∨ kind l (parent p) = 1 ∨ kind l (parent p) = 2 := by
      unfold kind
      split
      · exact Or.inr (Or.inr rfl)
      · split
        · exact Or.inl rfl
        · split
          · exact Or.inr (Or.inr rfl)
          · exact Or.inr (Or.inl rfl)
    rcases h3 with h3 | h3 | h3
    · rw [if_pos h3] at hh; exact absurd hh (by decide)
    · rw [h3] at hh; exact absurd hh (by decide)
    · exact h3
  rcases kind_two hk with h1 | ⟨t, ht, hd⟩
  · exact Or.inl h1
  · exact Or.inr (by rw [ht, h.dirs _ _ ht hd])
theorem Hung.putDir {l : M} (h : Hung l) {p : List UInt8} (hp : pathOk p = true) (hh : homeE l p = 0) : Hung (SM.put l p ⟨true, []⟩) := by
  have hpar := h.home hh
  refine ⟨SM.rises_put h.rises _ _, fun q t hq => ?_, fun q t hq hd => ?_, fun q t hq => ?_⟩
  · rw [SM.look_put] at hq
    by_cases e : q = p
    · rw [e]; exact hp
    · rw [if_neg e] at hq; exact h.ok q t hq
  · rw [SM.look_put] at hq
    by_cases e : q = p
    · rw [if_pos e] at hq; exact (Option.some.inj hq).symm
    · rw [if_neg e] at hq; exact h.dirs q t hq hd
  · rw [SM.look_put]
    by_cases e2 : parent q = p
    · rw [if_pos e2]; exact Or.inr rfl
    · rw [if_neg e2]
      rw [SM.look_put] at hq
      by_cases e : q = p
      · rw [e]; exact hpar
      · rw [if_neg e] at hq; exact h.housed q t hq
theorem Hung.putFile {l : M} (h : Hung l) {p : List UInt8} (hp : pathOk p = true) (hh : homeE l p = 0) (hk : kind l p ≠ 2) (t : List UInt8) : Hung (SM.put l p ⟨false, t⟩) := by
  have hpar := h.home hh
  have hnd := not_dir hk
  refine ⟨SM.rises_put h.rises _ _, fun q t hq => ?_, fun q t hq hd => ?_, fun q t hq => ?_⟩
  · rw [SM.look_put] at hq
    by_cases e : q = p
    · rw [e]; exact hp
    · rw [if_neg e] at hq; exact h.ok q t hq
  · rw [SM.look_put] at hq
    by_cases e : q = p
    · rw [if_pos e] at hq; rw [← Option.some.inj hq] at hd; exact absurd hd (by simp)
    · rw [if_neg e] at hq; exact h.dirs q t hq hd
  · have hq' : parent q = [47] ∨ SM.look l (parent q) = some ⟨true, []⟩ := by
      rw [SM.look_put] at hq
      by_cases e : q = p
      · rw [e]; exact hpar
      · rw [if_neg e] at hq; exact h.housed q t hq
    rcases hq' with h1 | h1
    · exact Or.inl h1
    · refine Or.inr ?_
      rw [SM.look_put, if_neg (fun e => hnd.2 (by rw [← e]; exact h1))]
      exact h1
theorem Hung.del {l : M} (h : Hung l) {p : List UInt8} (hno : ∀ q t, SM.look l q = some t → parent q ≠ p) : Hung (SM.del l p) := by
  refine ⟨SM.rises_del h.rises _, fun q t hq => ?_, fun q t hq hd => ?_, fun q t hq => ?_⟩
  all_goals
    rw [SM.look_del] at hq
    by_cases e : q = p
    · rw [if_pos e] at hq; exact absurd hq (by simp)
    rw [if_neg e] at hq
  · exact h.ok q t hq
  · exact h.dirs q t hq hd
  · rcases h.housed q t hq with h1 | h1
    · exact Or.inl h1
    · refine Or.inr ?_
      rw [SM.look_del, if_neg (hno q t hq)]
      exact h1
theorem hung_mkdirC {l : M} (h : Hung l) (p : List UInt8) : Hung (mkdirC l p).2 := by
  unfold mkdirC
  cases hp : pathOk p
  · exact h
  · rw [if_neg (by simp)]
    by_cases hh : homeE l p = 0
    · rw [if_neg (by simpa using hh)]
      split
      · exact h
      · exact h.putDir hp hh
    · rw [if_pos hh]; exact h
theorem hung_writeC {l : M} (h : Hung l) (p t : List UInt8) : Hung (writeC l p t).2 := by
  unfold writeC
  cases hp : pathOk p
  · exact h
  · rw [if_neg (by simp)]
    by_cases hh : homeE l p = 0
    · rw [if_neg (by simpa using hh)]
      by_cases hk : kind l p = 2
      · rw [if_pos hk]; exact h
      · rw [if_neg hk]; exact h.putFile hp hh hk t
    · rw [if_pos hh]; exact h
theorem hung_removeC {l : M} (h : Hung l) (p : List UInt8) : Hung (removeC l p).2 := by
  unfold removeC
  split
  · exact h
  split
  · exact h
  split
  · exact h
  · rename_i hany
    refine h.del fun q t hq e => hany ?_
    exact List.any_eq_true.2 ⟨(q, t), SM.look_some hq, beq_iff_eq.2 e⟩
theorem hung_renameC {l : M} (h : Hung l) (p q : List UInt8) : Hung (renameC l p q).2 := by
  unfold renameC
  split
  · exact h
  split
  · exact h
  rename_i hq
  split
  · exact h
  rename_i hk0
  split
  · exact h
  rename_i hk2
  by_cases hh : homeE l q = 0
  · rw [if_neg (by simpa using hh)]
    by_cases hkq : kind l q = 2
    · rw [if_pos hkq]; exact h
    · rw [if_neg hkq]
      obtain ⟨_, xt, _, hlk⟩ := kind_one hk0 hk2
      rw [hlk]
      show Hung (SM.put (SM.del l p) q ⟨false, xt⟩)
      have hqo : pathOk q = true := by simpa using hq
      have hpf := not_dir hk2
      have hqf := not_dir hkq
      have hpar := h.home hh
      have lk : ∀ r, SM.look (SM.put (SM.del l p) q ⟨false, xt⟩) r = if r = q then some ⟨false, xt⟩ else if r = p then none else SM.look l r := fun r => by rw [SM.look_put, SM.look_del]
      have keepd : ∀ r, r = [47] ∨ SM.look l r = some ⟨true, []⟩ → r = [47] ∨ SM.look (SM.put (SM.del l p) q ⟨false, xt⟩) r = some ⟨true, []⟩ := fun r hr => by
        rcases hr with h1 | h1
        · exact Or.inl h1
        · refine Or.inr ?_
          rw [lk, if_neg (fun e => hqf.2 (by rw [← e]; exact h1)), if_neg (fun e => hpf.2 (by rw [← e]; exact h1))]
          exact h1
      refine ⟨SM.rises_put (SM.rises_del h.rises _) _ _, fun r t hr => ?_, fun r t hr hd => ?_, fun r t hr => ?_⟩
      all_goals
        rw [lk] at hr
        by_cases e : r = q
      · rw [e]; exact hqo
      · rw [if_neg e] at hr
        by_cases e2 : r = p
        · rw [if_pos e2] at hr; exact absurd hr (by simp)
        · rw [if_neg e2] at hr; exact h.ok r t hr
      · rw [if_pos e] at hr; rw [← Option.some.inj hr] at hd; exact absurd hd (by simp)
      · rw [if_neg e] at hr
        by_cases e2 : r = p
        · rw [if_pos e2] at hr; exact absurd hr (by simp)
        · rw [if_neg e2] at hr; exact h.dirs r t hr hd
      · rw [e]; exact keepd _ hpar
      · rw [if_neg e] at hr
        by_cases e2 : r = p
        · rw [if_pos e2] at hr; exact absurd hr (by simp)
        · rw [if_neg e2] at hr; exact keepd _ (h.housed r t hr)
  · rw [if_pos hh]; exact h
/-- What it tells can be loaded again. -/
theorem put_last : ∀ (l : M) (p : List UInt8) (t : T), (∀ x ∈ l, bytesBefore x.1 p = true) → SM.put l p t = l ++ [(p, t)]
  | [], p, t, _ => rfl
  | x :: r, p, t, h => by
    have h1 := h x List.mem_cons_self
    rw [SM.put, if_neg (by rw [SM.before_asymm h1]; simp), if_neg (SM.before_ne h1), put_last r p t (fun y hy => h y (List.mem_cons_of_mem _ hy))]
    rfl
theorem fill_fls : ∀ (r acc : M), SM.Rises (acc ++ r) → (∀ x ∈ r, pathOk x.1 = true ∧ (x.2.dir = true → x.2.data = [])) → fill acc (fls r) = some (acc ++ r)
  | [], acc, _, _ => by rw [List.append_nil]; rfl
  | x :: r, acc, hr, hok => by
    obtain ⟨p, t⟩ := x
    have h1 := List.pairwise_append.1 hr
    have hlast : ∀ y ∈ acc, bytesBefore y.1 p = true := fun y hy => h1.2.2 y hy _ List.mem_cons_self
    have hnone : SM.look acc p = none := by
      cases hl : SM.look acc p with
      | none => rfl
      | some u =>
        have := hlast _ (SM.look_some hl)
        rw [WideAt.bytes_irrefl] at this
        exact absurd this (by simp)
    have hx := hok _ List.mem_cons_self
    show fill acc (⟨p, t.dir, t.data⟩ :: fls r) = _
    have hbad : bad acc ⟨p, t.dir, t.data⟩ = false := by
      unfold bad
      dsimp only
      rw [hnone, hx.1]
      cases hd : t.dir with
      | false => rfl
      | true => rw [hx.2 hd]; rfl
    rw [fill, hbad]
    show fill (SM.put acc p t) (fls r) = _
    rw [put_last acc p t hlast, fill_fls r (acc ++ [(p, t)]) (by rw [List.append_assoc]; exact hr) (fun y hy => hok y (List.mem_cons_of_mem _ hy)), List.append_assoc]
    rfl
theorem load_fls {l : M} (h : Hung l) : load (fls l) = some l := by
  unfold load
  rw [fill_fls l [] h.rises (fun x hx => ⟨h.ok _ _ (SM.look_mem h.rises hx), fun hd => by have := h.dirs _ _ (SM.look_mem h.rises hx) hd; rw [this]⟩)]
  show (if housed l then some l else none) = some l
  rw [if_pos]
  unfold housed
  rw [List.all_eq_true]
  intro x hx
  rw [kind_dir (h.housed _ _ (SM.look_mem h.rises hx))]
  rfl
end Disk
end Go.Proofs.YtdogacgpfnolfaaGreatDoor
