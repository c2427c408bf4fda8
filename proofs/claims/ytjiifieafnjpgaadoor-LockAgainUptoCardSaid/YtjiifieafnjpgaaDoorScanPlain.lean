/- Plain laws of texts as lines of words: no program stands here. -/
import Derived.Test.YtjiifieafnjpgaaDoorScanP
namespace Go.Proofs.YtjiifieafnjpgaaDoor
namespace Scan
open Cut
theorem scanL_shift : ∀ (P : List (List UInt8)) (k d : Nat), scanL (k + d) P = match scanL k P with
    | .inr ls => .inr ls
    | .inl n => .inl (n + d)
  | [], k, d => rfl
  | [p], k, d => by
    simp only [scanL]
    split <;> rfl
  | p :: q :: r, k, d => by
    simp only [scanL]
    split
    · rw [show k + d + 1 = (k + 1) + d by omega, scanL_shift (q :: r) (k + 1) d]
      cases scanL (k + 1) (q :: r) <;> rfl
    · rfl
theorem scanL_form : ∀ (P : List (List UInt8)) (k : Nat) (ls : List (List (List UInt8))), P ≠ [] → scanL k P = .inr ls → P = ls.map (glue 32) ++ [[]] ∧ GoodL ls
  | [], k, ls, hne, _ => absurd rfl hne
  | [p], k, ls, _, h => by
    simp only [scanL] at h
    split at h
    · rename_i hp
      simp only [Sum.inr.injEq] at h
      subst h
      have : p = [] := by cases p with | nil => rfl | cons c r => simp at hp
      subst this
      exact ⟨rfl, fun x hx => by simp at hx⟩
    · exact absurd h (by simp)
  | p :: q :: r, k, ls, _, h => by
    simp only [scanL] at h
    split at h
    · rename_i hl
      cases hh : scanL (k + 1) (q :: r) with
      | inl n => rw [hh] at h; exact absurd h (by simp)
      | inr x =>
        rw [hh] at h
        simp only [Sum.inr.injEq] at h
        subst h
        obtain ⟨h1, h2⟩ := scanL_form (q :: r) (k + 1) x (by simp) hh
        refine ⟨by rw [h1, List.map_cons, glue_cuts]; rfl, fun ws hws => ?_⟩
        rcases List.mem_cons.1 hws with rfl | hws
        · exact ⟨cuts_ne _ _, fun p hp => List.all_eq_true.1 hl p hp⟩
        · exact h2 ws hws
    · exact absurd h (by simp)
theorem glue_lines (ls : List (List (List UInt8))) : glue 10 (ls.map (glue 32) ++ [[]]) = unlines ls := by
  rw [glue_snoc, List.append_nil, List.map_map]
  rfl
/-- What is read is that text. -/
theorem spec_form {T : List UInt8} {ls : List (List (List UInt8))} (h : spec T = .inr ls) : T = unlines ls ∧ GoodL ls := by
  obtain ⟨h1, h2⟩ := scanL_form _ _ _ (cuts_ne _ _) h
  refine ⟨?_, h2⟩
  have := congrArg (glue 10) h1
  rw [glue_cuts, glue_lines] at this
  exact this
theorem spec_append {done : List (List (List UInt8))} (h : GoodL done) (T : List UInt8) : spec (unlines done ++ T) = match spec T with
    | .inr ls => .inr (done ++ ls)
    | .inl n => .inl (n + done.length) := by
  unfold spec
  rw [cuts_unlines h, scanL_good h 1 _ (cuts_ne _ _), scanL_shift _ 1 done.length]
  cases scanL 1 (cuts 10 T) <;> rfl
/-- Two texts, one behind the other. -/
theorem spec_two {S T : List UInt8} {la : List (List (List UInt8))} (h : spec S = .inr la) : spec (S ++ T) = match spec T with
    | .inr ls => .inr (la ++ ls)
    | .inl n => .inl (n + la.length) := by
  obtain ⟨rfl, hg⟩ := spec_form h
  exact spec_append hg T
/-- A text whose line n is none: the lines ahead of it are some. -/
theorem scanL_bad : ∀ (P : List (List UInt8)) (k n : Nat), scanL k P = .inl n → ∃ done : List (List (List UInt8)), GoodL done ∧ n = k + done.length ∧ ∃ X, X ≠ [] ∧ P = done.map (glue 32) ++ X
  | [], k, n, h => by simp [scanL] at h
  | [p], k, n, h => by
    simp only [scanL] at h
    split at h
    · exact absurd h (by simp)
    · simp only [Sum.inl.injEq] at h
      exact ⟨[], fun x hx => by simp at hx, by simp [h], [p], by simp, rfl⟩
  | p :: q :: r, k, n, h => by
    simp only [scanL] at h
    split at h
    · rename_i hl
      cases hh : scanL (k + 1) (q :: r) with
      | inr x => rw [hh] at h; exact absurd h (by simp)
      | inl m =>
        rw [hh] at h
        simp only [Sum.inl.injEq] at h
        subst h
        obtain ⟨done, h1, h2, X, h3, h4⟩ := scanL_bad (q :: r) (k + 1) m hh
        refine ⟨cuts 32 p :: done, ?_, by simp; omega, X, h3, by rw [h4, List.map_cons, glue_cuts]; rfl⟩
        intro ws hws
        rcases List.mem_cons.1 hws with rfl | hws
        · exact ⟨cuts_ne _ _, fun p hp => List.all_eq_true.1 hl p hp⟩
        · exact h1 ws hws
    · simp only [Sum.inl.injEq] at h
      exact ⟨[], fun x hx => by simp at hx, by simp [h], p :: q :: r, by simp, rfl⟩
theorem glue_join (d : UInt8) : ∀ (A X : List (List UInt8)), X ≠ [] → glue d (A ++ X) = (A.map (· ++ [d])).flatten ++ glue d X
  | [], X, _ => rfl
  | a :: A, X, hX => by
    have ih := glue_join d A X hX
    obtain ⟨q, r, hq⟩ : ∃ q r, A ++ X = q :: r := by
      cases hd : A ++ X with
      | nil => exact absurd (List.append_eq_nil_iff.1 hd).2 hX
      | cons q r => exact ⟨q, r, rfl⟩
    rw [List.cons_append, hq]
    show a ++ d :: glue d (q :: r) = _
    rw [← hq, ih]
    simp
theorem spec_torn {T : List UInt8} {n : Nat} (h : spec T = .inl n) : ∃ (done : List (List (List UInt8))) (rest : List UInt8), GoodL done ∧ n = 1 + done.length ∧ T = unlines done ++ rest := by
  obtain ⟨done, h1, h2, X, h3, h4⟩ := scanL_bad _ _ _ h
  refine ⟨done, glue 10 X, h1, h2, ?_⟩
  have := congrArg (glue 10) h4
  rw [glue_cuts, glue_join _ _ _ h3, List.map_map] at this
  exact this
theorem count_unlines {done : List (List (List UInt8))} (h : GoodL done) : (unlines done).count 10 = done.length := by
  induction done with
  | nil => rfl
  | cons ws done ih =>
    have hw := h ws List.mem_cons_self
    have e : unlines (ws :: done) = glue 32 ws ++ 10 :: unlines done := by simp [unlines, unline]
    rw [e, List.count_append, List.count_cons_self, ih fun x hx => h x (List.mem_cons_of_mem _ hx), List.count_eq_zero.2 (mem_glue hw.2)]
    simp
end Scan
end Go.Proofs.YtjiifieafnjpgaaDoor
