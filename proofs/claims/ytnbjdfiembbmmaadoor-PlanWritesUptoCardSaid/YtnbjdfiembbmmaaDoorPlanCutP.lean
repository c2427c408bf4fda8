/- A plan's text that is cut somewhere: plain words. -/
import Derived.Test.YtnbjdfiembbmmaaDoorPlanLaw
import Derived.Test.YtnbjdfiembbmmaaDoorScanJP
namespace Go.Proofs.YtnbjdfiembbmmaaDoor
set_option linter.unusedSimpArgs false
set_option linter.unusedVariables false
namespace Scan
theorem unlines_cut : ∀ {ls : List (List (List UInt8))} {k : Nat}, GoodL ls → 1 ≤ k → (unlines ls)[k - 1]? = some 10 →
    ∃ n, 1 ≤ n ∧ n ≤ ls.length ∧ n = ((unlines ls).take k).count 10 ∧ (unlines ls).take k = unlines (ls.take n)
  | [], k, _, _, h => by simp [unlines] at h
  | ws :: r, k, hg, hk, h => by
    have hw := hg ws List.mem_cons_self
    have h0 := mem_glue hw.2
    have e : unlines (ws :: r) = Cut.glue 32 ws ++ (10 :: unlines r) := by simp [unlines, unline]
    have e1 : ∀ n, unlines ((ws :: r).take (n + 1)) = Cut.glue 32 ws ++ (10 :: unlines (r.take n)) := fun n => by simp [unlines, unline]
    rw [e] at h ⊢
    obtain ⟨g, hgl⟩ : ∃ g, g = Cut.glue 32 ws := ⟨_, rfl⟩
    rw [← hgl] at h h0 e1 ⊢
    by_cases hlt : k - 1 < g.length
    · rw [List.getElem?_append_left hlt] at h
      exact absurd (List.mem_of_getElem? h) h0
    have hc0 : g.count 10 = 0 := List.count_eq_zero.2 h0
    have tk : ∀ j, (g ++ (10 :: unlines r)).take (g.length + 1 + j) = g ++ (10 :: (unlines r).take j) := fun j => by
      rw [show g.length + 1 + j = g.length + (j + 1) by omega, List.take_length_add_append, List.take_succ_cons]
    by_cases hke : k = g.length + 1
    · subst hke
      have t0 := tk 0
      rw [Nat.add_zero, List.take_zero] at t0
      refine ⟨1, Nat.le_refl _, by simp, ?_, ?_⟩
      · rw [t0, List.count_append, hc0]; rfl
      · rw [t0, e1 0, List.take_zero]; rfl
    · obtain ⟨j, hj⟩ : ∃ j, k = g.length + 1 + j := ⟨k - (g.length + 1), by omega⟩
      have hj1 : 1 ≤ j := by omega
      subst hj
      have h2 : (unlines r)[j - 1]? = some 10 := by
        rw [List.getElem?_append_right (by omega), show g.length + 1 + j - 1 - g.length = (j - 1) + 1 by omega, List.getElem?_cons_succ] at h
        exact h
      obtain ⟨n, hn1, hn2, hn3, hn4⟩ := unlines_cut (fun x hx => hg x (List.mem_cons_of_mem _ hx)) hj1 h2
      refine ⟨n + 1, by omega, by simp; omega, ?_, ?_⟩
      · rw [tk, List.count_append, hc0, List.count_cons_self, ← hn3]; omega
      · rw [tk, e1 n, hn4]
theorem unlines_ends {ls : List (List (List UInt8))} (h : ls ≠ []) : ∃ r, unlines ls = r ++ [10] := by
  rcases List.eq_nil_or_concat ls with rfl | ⟨x, y, rfl⟩
  · exact absurd rfl h
  · refine ⟨unlines x ++ Cut.glue 32 y, ?_⟩
    simp [unlines, unline]
end Scan
namespace Plan
theorem chk_take : ∀ (ds : List D) (least : Int) (s : List UInt8 → Int) (n : Nat), chk least s ds = true → chk least s (ds.take n) = true
  | [], _, _, n, _ => by simp [chk]
  | d :: r, least, s, 0, _ => by simp [chk]
  | d :: r, least, s, n + 1, h => by
    simp only [chk, Bool.and_eq_true] at h
    rw [List.take_succ_cons]
    simp only [chk, Bool.and_eq_true]
    exact ⟨h.1, h.2.1, chk_take r _ _ n h.2.2⟩
theorem ok_take {ds : List D} (n : Nat) (h : ok ds = true) : ok (ds.take n) = true := chk_take ds 1 _ n h
/-- Cut behind a line. -/
theorem cut_line {ds : List D} (h : ok ds = true) {k : Nat} (hk : 1 ≤ k) (h10 : (text ds)[k - 1]? = some 10) :
    ∃ n, n ≤ ds.length ∧ ((text ds).take k).count 10 = n + 1 ∧ parse ((text ds).take k) = (0, ds.take n) := by
  rw [text_lines] at h10 ⊢
  obtain ⟨n, hn1, hn2, hn3, hn4⟩ := Scan.unlines_cut (lines_good (ok_all h)) hk h10
  obtain ⟨m, rfl⟩ : ∃ m, n = m + 1 := ⟨n - 1, by omega⟩
  refine ⟨m, by simpa using hn2, hn3.symm, ?_⟩
  rw [hn4, List.take_succ_cons, ← List.map_take, ← text_lines]
  exact parse_text (ok_take m h)
/-- Cut elsewhere. -/
theorem cut_torn {T : List UInt8} {k : Nat} (hkT : k ≤ T.length) (h10 : k = 0 ∨ T[k - 1]? ≠ some 10) : (parse (T.take k)).1 ≠ 0 ∧ (parse (T.take k)).2 = [] := by
  rcases parse_code (T.take k) with h0 | h0
  · exfalso
    have hP : parse (T.take k) = (0, (parse (T.take k)).2) := by rw [← h0]
    obtain ⟨h1, _⟩ := text_parse hP
    rw [text_lines] at h1
    obtain ⟨r, hr⟩ := Scan.unlines_ends (ls := [planW] :: (parse (T.take k)).2.map wordsOf) (by simp)
    rw [hr] at h1
    have hl := congrArg List.length h1
    rw [List.length_append, List.length_take, Nat.min_eq_left hkT] at hl
    simp only [List.length_cons, List.length_nil] at hl
    rcases h10 with h10 | h10
    · omega
    · apply h10
      have e : (T.take k)[k - 1]? = T[k - 1]? := List.getElem?_take_of_lt (by omega)
      rw [← e, ← h1, show k - 1 = r.length by omega]
      simp
  · exact h0
end Plan
end Go.Proofs.YtnbjdfiembbmmaaDoor
