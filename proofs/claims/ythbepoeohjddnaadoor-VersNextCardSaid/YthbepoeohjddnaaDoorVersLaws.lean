/- Plain laws of versions: the order and the places. -/
import Derived.Test.YthbepoeohjddnaaDoorVersWalks3
import Derived.Test.YthbepoeohjddnaaDoorVersCmp
namespace Go.Proofs.YthbepoeohjddnaaDoor
namespace V
theorem cmp1_neg (a b : Int) : cmp1 b a = - cmp1 a b := by unfold cmp1; split <;> split <;> (try split) <;> omega
theorem cmp1_bd (a b : Int) : -1 ≤ cmp1 a b ∧ cmp1 a b ≤ 1 := by unfold cmp1; split <;> (try split) <;> omega
theorem cmp1_zero {a b : Int} : cmp1 a b = 0 ↔ a = b := by unfold cmp1; split <;> (try split) <;> omega
theorem cmp1_lt {a b : Int} : cmp1 a b < 0 ↔ a < b := by unfold cmp1; split <;> (try split) <;> omega
theorem or3_neg (x y z : Int) : or3 (-x) (-y) (-z) = - or3 x y z := by unfold or3; repeat' split <;> omega
theorem cmp_neg (a b c a' b' c' : Int) : cmp a' b' c' a b c = - cmp a b c a' b' c' := by
  unfold cmp; rw [cmp1_neg a a', cmp1_neg b b', cmp1_neg c c', or3_neg]
theorem cmp_bd (a b c a' b' c' : Int) : -1 ≤ cmp a b c a' b' c' ∧ cmp a b c a' b' c' ≤ 1 := by
  have h1 := cmp1_bd a a'
  have h2 := cmp1_bd b b'
  have h3 := cmp1_bd c c'
  unfold cmp or3
  split
  · exact h1
  · split
    · exact h2
    · exact h3
theorem cmp_zero {a b c a' b' c' : Int} : cmp a b c a' b' c' = 0 ↔ a = a' ∧ b = b' ∧ c = c' := by
  have h1 := @cmp1_zero a a'
  have h2 := @cmp1_zero b b'
  have h3 := @cmp1_zero c c'
  unfold cmp or3
  split
  · omega
  · split <;> omega
theorem cmp_lt {a b c a' b' c' : Int} : cmp a b c a' b' c' < 0 ↔ a < a' ∨ a = a' ∧ (b < b' ∨ b = b' ∧ c < c') := by
  have h1 := @cmp1_zero a a'
  have h2 := @cmp1_zero b b'
  have h3 := @cmp1_zero c c'
  have l1 := @cmp1_lt a a'
  have l2 := @cmp1_lt b b'
  have l3 := @cmp1_lt c c'
  unfold cmp or3
  split
  · omega
  · split <;> omega
theorem rank_lt {a b c a' b' c' : Int} (h : may a b c = true) (h' : may a' b' c' = true) : cmp a b c a' b' c' < 0 ↔ rank a b c < rank a' b' c' := by
  rw [cmp_lt, rank_yes h, rank_yes h']
  have := may_iff.1 h
  have := may_iff.1 h'
  omega
theorem at_rank {a b c : Int} (h : may a b c = true) : atA (rank a b c) = a ∧ atB (rank a b c) = b ∧ atC (rank a b c) = c ∧ atOk (rank a b c) = true := by
  have hb := may_iff.1 h
  rw [rank_yes h]
  have hk : atOk ((a * 1000 + b) * 1000 + c) = true := atOk_iff.2 (by omega)
  obtain ⟨h1, h2, h3⟩ := at_yes hk
  exact ⟨by rw [h1]; omega, by rw [h2]; omega, by rw [h3]; omega, hk⟩
theorem may_at {n : Int} (h : atOk n = true) : may (atA n) (atB n) (atC n) = true := by
  have hb := atOk_iff.1 h
  obtain ⟨h1, h2, h3⟩ := at_yes h
  exact may_of (by rw [h1, h2, h3]; omega)
theorem rank_at {n : Int} (h : atOk n = true) : rank (atA n) (atB n) (atC n) = n := by
  have hb := atOk_iff.1 h
  obtain ⟨h1, h2, h3⟩ := at_yes h
  rw [rank_yes (may_at h), h1, h2, h3]; omega
theorem nx_yes {a b c : Int} (h : may a b c = true) : nx a b c = rank a b c + 1 := by rw [rank_yes h]; exact if_pos h
theorem pv_yes {a b c : Int} (h : may a b c = true) : pv a b c = rank a b c - 1 := by rw [rank_yes h]; exact if_pos h
theorem rank_bd {a b c : Int} (h : may a b c = true) : 0 ≤ rank a b c ∧ rank a b c ≤ 999999999 := by
  have := may_iff.1 h
  rw [rank_yes h]; omega
theorem same_cmp (a b c a' b' c' : Int) : same a b c a' b' c' = (cmp a b c a' b' c' == 0) := by
  rw [Bool.eq_iff_iff, same_iff, beq_iff_eq, cmp_zero]
end V
end Go.Proofs.YthbepoeohjddnaaDoor
