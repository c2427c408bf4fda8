/- Plain words of Join: no program stands here. -/
import Derived.Test.YtjiifieafnjpgaaDoorScanPlain
import Derived.Test.YtjiifieafnjpgaaDoorScC
import Derived.Lib.Join
namespace Go.Proofs.YtjiifieafnjpgaaDoor
open Go.RowKit
set_option linter.unusedSimpArgs false
set_option linter.unusedVariables false
namespace Scan
open Cut
/-- May lines be written? -/
def joinOk (ls : List (List (List UInt8))) : Bool := ls.all fun l => !l.isEmpty && l.all isW
theorem joinOk_iff {ls : List (List (List UInt8))} : joinOk ls = true ↔ GoodL ls := by
  unfold joinOk GoodL
  rw [List.all_eq_true]
  constructor
  · intro h ws hws
    have := h ws hws
    simp only [Bool.and_eq_true, Bool.not_eq_true', List.all_eq_true] at this
    exact ⟨fun e => by rw [e] at this; simp at this, this.2⟩
  · intro h ws hws
    obtain ⟨h1, h2⟩ := h ws hws
    simp only [Bool.and_eq_true, Bool.not_eq_true', List.all_eq_true]
    exact ⟨by simpa using h1, h2⟩
theorem glue_join_lib : ∀ (l : List (List UInt8)), Go.Lib.join l [32] = glue 32 l
  | [] => rfl
  | [x] => by rw [Go.Lib.join_one]; rfl
  | x :: y :: r => by
    have ih := glue_join_lib (y :: r)
    rw [Go.Lib.join_cons] at ih ⊢
    show _ = x ++ 32 :: glue 32 (y :: r)
    rw [← ih]
    simp [Go.Lib.joinTail]
theorem unlines_take {ls : List (List (List UInt8))} {k : Nat} {l : List (List UInt8)} (h : ls[k]? = some l) : unlines (ls.take (k + 1)) = unlines (ls.take k) ++ (glue 32 l ++ [10]) := by
  rw [List.take_add_one, h]
  simp [unlines, unline]
theorem unlines_part (ls : List (List (List UInt8))) (k : Nat) : (unlines (ls.take k)).length ≤ (unlines ls).length := by
  have : unlines ls = unlines (ls.take k) ++ unlines (ls.drop k) := by
    unfold unlines
    rw [← List.flatten_append, ← List.map_append, List.take_append_drop]
  rw [this]
  simp
theorem unlines_len (ls : List (List (List UInt8))) : ls.length ≤ (unlines ls).length := by
  induction ls with
  | nil => simp
  | cons l ls ih =>
    have e : unlines (l :: ls) = glue 32 l ++ 10 :: unlines ls := by simp [unlines, unline]
    rw [e]
    simp
    omega
theorem glue_words : ∀ (l : List (List UInt8)), l.length ≤ (glue 32 l).length + 1 ∧ ∀ x ∈ l, x.length ≤ (glue 32 l).length
  | [] => ⟨by simp, fun x hx => by simp at hx⟩
  | [x] => ⟨by simp, fun y hy => by simp at hy; subst hy; exact Nat.le_refl _⟩
  | x :: y :: r => by
    obtain ⟨h1, h2⟩ := glue_words (y :: r)
    have e : (glue 32 (x :: y :: r)).length = x.length + ((glue 32 (y :: r)).length + 1) := by
      show (x ++ 32 :: glue 32 (y :: r)).length = _
      simp
    refine ⟨by rw [e]; simp only [List.length_cons] at h1 ⊢; omega, fun z hz => ?_⟩
    rw [e]
    rcases List.mem_cons.1 hz with rfl | hz
    · omega
    · have := h2 z hz; omega
theorem unlines_line {ls : List (List (List UInt8))} {k : Nat} {l : List (List UInt8)} (h : ls[k]? = some l) : (unlines (ls.take k)).length + (glue 32 l).length + 1 ≤ (unlines ls).length := by
  have h1 := unlines_part ls (k + 1)
  rw [unlines_take h] at h1
  simp at h1
  omega
theorem glue_take {l : List (List UInt8)} {j : Nat} {x : List UInt8} (h : l[j]? = some x) (hj : 0 < j) : glue 32 (l.take (j + 1)) = (glue 32 (l.take j) ++ [32]) ++ x := by
  rw [List.take_add_one, h]
  have hn : l.take j ≠ [] := by
    intro e
    have := congrArg List.length e
    have h2 := (List.getElem?_eq_some_iff.1 h).1
    rw [List.length_take, List.length_nil] at this
    omega
  rcases List.eq_nil_or_concat (l.take j) with e | ⟨r, p, e⟩
  · exact absurd e hn
  · rw [e]
    simp only [List.concat_eq_append]
    show glue 32 (r ++ [p] ++ [x]) = _
    rw [glue_snoc, glue_snoc]
    simp
theorem glue_take_le {l : List (List UInt8)} (j : Nat) : (glue 32 (l.take j)).length ≤ (glue 32 l).length := by
  by_cases hj : j < l.length
  · rcases Nat.eq_zero_or_pos j with h0 | hp
    · subst h0; simp [glue]
    · have e : l = l.take j ++ l.drop j := (List.take_append_drop j l).symm
      have hd : l.drop j ≠ [] := by intro e; have := congrArg List.length e; simp at this; omega
      have := glue_join 32 (l.take j) (l.drop j) hd
      rw [← e] at this
      rw [this]
      rcases List.eq_nil_or_concat (l.take j) with e2 | ⟨r, p, e2⟩
      · rw [e2]; simp [glue]
      · rw [e2]
        simp only [List.concat_eq_append]
        rw [glue_snoc]
        simp
  · rw [List.take_of_length_le (by omega)]; exact Nat.le_refl _
theorem joinOk_take {ls : List (List (List UInt8))} {k : Nat} {l : List (List UInt8)} (h : joinOk (ls.take k) = true) (hl : ls[k]? = some l) (h1 : 0 < l.length) (h2 : l.all isW = true) : joinOk (ls.take (k + 1)) = true := by
  rw [List.take_add_one, hl]
  unfold joinOk at h ⊢
  rw [List.all_append, h]
  simp [h2]
  exact fun e => by rw [e] at h1; simp at h1
theorem joinOk_empty {ls : List (List (List UInt8))} {k : Nat} {l : List (List UInt8)} (hl : ls[k]? = some l) (h1 : ¬ 0 < l.length) : joinOk ls = false := by
  have : l = [] := List.length_eq_zero_iff.1 (by omega)
  subst this
  exact all_no hl rfl
theorem joinOk_word {ls : List (List (List UInt8))} {k : Nat} {l : List (List UInt8)} {i : Nat} {x : List UInt8} (hl : ls[k]? = some l) (hx : l[i]? = some x) (h : isW x = false) : joinOk ls = false := by
  refine all_no hl ?_
  rw [all_no hx h]
  simp
end Scan
end Go.Proofs.YtjiifieafnjpgaaDoor
