/- Plain words: decimal numerals, what strconv.Atoi reads of them: no program stands here. -/
import Derived.Lib.ItoaNum
import Derived.Lib.AtoiAll
namespace Go.Proofs.YtjiifieafnjpgaaDoor
namespace Num
/-- A numeral's value, behind what was read already. -/
def valFrom (n : Nat) (l : List UInt8) : Nat := l.foldl (fun n c => 10 * n + (c.toNat - 48)) n
theorem valFrom_cons (n : Nat) (c : UInt8) (l : List UInt8) : valFrom n (c :: l) = valFrom (10 * n + (c.toNat - 48)) l := by simp only [valFrom, List.foldl_cons]
theorem valFrom_snoc (n : Nat) (l : List UInt8) (c : UInt8) : valFrom n (l ++ [c]) = 10 * valFrom n l + (c.toNat - 48) := by simp [valFrom]
theorem valFrom_le (n : Nat) (l : List UInt8) : n ≤ valFrom n l := by
  induction l generalizing n with
  | nil => exact Nat.le_refl _
  | cons c l ih => rw [valFrom_cons]; have := ih (10 * n + (c.toNat - 48)); omega
def Digit (c : UInt8) : Prop := 48 ≤ c.toNat ∧ c.toNat ≤ 57
theorem ofNat_toNat {n : Nat} (h : n < 256) : (UInt8.ofNat n).toNat = n := by simp [Nat.mod_eq_of_lt h]
theorem dec_small {u : Nat} (h : u < 10) : Go.Lib.decDigits u = [UInt8.ofNat (48 + u)] := by rw [Go.Lib.decDigits, dif_pos h]
theorem dec_big {u : Nat} (h : ¬ u < 10) : Go.Lib.decDigits u = Go.Lib.decDigits (u / 10) ++ [UInt8.ofNat (48 + u % 10)] := by rw [Go.Lib.decDigits, dif_neg h]
theorem val_dec (u : Nat) : valFrom 0 (Go.Lib.decDigits u) = u := by
  induction u using Nat.strongRecOn with
  | _ u ih =>
    by_cases h : u < 10
    · rw [dec_small h]
      show 10 * 0 + ((UInt8.ofNat (48 + u)).toNat - 48) = u
      rw [ofNat_toNat (by omega)]; omega
    · rw [dec_big h, valFrom_snoc, ih (u / 10) (by omega), ofNat_toNat (by omega)]; omega
theorem dec_inj {u v : Nat} (h : Go.Lib.decDigits u = Go.Lib.decDigits v) : u = v := by rw [← val_dec u, ← val_dec v, h]
theorem dec_digit (u : Nat) : ∀ c ∈ Go.Lib.decDigits u, Digit c := by
  induction u using Nat.strongRecOn with
  | _ u ih =>
    intro c hc
    by_cases h : u < 10
    · rw [dec_small h] at hc
      obtain rfl := List.mem_singleton.1 hc
      unfold Digit; rw [ofNat_toNat (by omega)]; omega
    · rw [dec_big h] at hc
      rcases List.mem_append.1 hc with hc | hc
      · exact ih (u / 10) (by omega) c hc
      · obtain rfl := List.mem_singleton.1 hc
        unfold Digit; rw [ofNat_toNat (by omega)]; omega
theorem dec_ne (u : Nat) : Go.Lib.decDigits u ≠ [] := by
  by_cases h : u < 10
  · rw [dec_small h]; simp
  · rw [dec_big h]; simp
/-- The first digit of a number that is not 0 is not 0. -/
theorem dec_head (u : Nat) (hu : u ≠ 0) : ∃ c r, Go.Lib.decDigits u = c :: r ∧ 49 ≤ c.toNat ∧ c.toNat ≤ 57 := by
  induction u using Nat.strongRecOn with
  | _ u ih =>
    by_cases h : u < 10
    · exact ⟨_, _, dec_small h, by rw [ofNat_toNat (by omega)]; omega, by rw [ofNat_toNat (by omega)]; omega⟩
    · obtain ⟨c, r, e, h1, h2⟩ := ih (u / 10) (by omega) (by omega)
      exact ⟨c, r ++ [UInt8.ofNat (48 + u % 10)], by rw [dec_big h, e]; rfl, h1, h2⟩
theorem parse_digits : ∀ (l : List UInt8) (n : Nat), (∀ c ∈ l, Digit c) → valFrom n l < 9223372036854775808 → Go.Lib.parseUint10 n l = .ok (valFrom n l)
  | [], n, _, _ => rfl
  | c :: l, n, hd, hv => by
    have hc := hd c List.mem_cons_self
    have hle := valFrom_le (10 * n + (c.toNat - 48)) l
    rw [valFrom_cons] at hv ⊢
    unfold Digit at hc
    rw [Go.Lib.parseUint10, if_pos hc, if_neg (by omega), if_neg (by omega), show n * 10 + (c.toNat - 48) = 10 * n + (c.toNat - 48) by omega]
    exact parse_digits l _ (fun x hx => hd x (List.mem_cons_of_mem _ hx)) hv
theorem atoi_digits {l : List UInt8} (hne : l ≠ []) (hd : ∀ c ∈ l, Digit c) (hv : valFrom 0 l < 9223372036854775808) : Go.Lib.atoiAll l = .ok (valFrom 0 l : Nat) := by
  cases l with
  | nil => exact absurd rfl hne
  | cons c r =>
    have hc := hd c List.mem_cons_self
    unfold Digit at hc
    have e : Go.Lib.parseMag (c :: r) = .ok (valFrom 0 (c :: r)) := by
      unfold Go.Lib.parseMag
      rw [if_neg hne, parse_digits _ _ hd hv]
    have n1 : ¬ (c.toNat = 43 ∨ c.toNat = 45) := by omega
    have n2 : ¬ c.toNat = 45 := by omega
    simp only [Go.Lib.atoiAll]
    rw [if_neg n1, e]
    simp only []
    rw [if_neg (by omega), if_neg (by omega), if_neg n2]
/-- A numeral is read as its number. -/
theorem atoi_dec {u : Nat} (h : u < 9223372036854775808) : Go.Lib.atoiAll (Go.Lib.decDigits u) = .ok (u : Int) := by
  rw [atoi_digits (dec_ne u) (dec_digit u) (by rw [val_dec]; exact h), val_dec]
theorem itoa_nat {n : Int} (h : 0 ≤ n) : Go.Lib.itoa n = Go.Lib.decDigits n.toNat := by unfold Go.Lib.itoa; rw [if_neg (by omega)]
/-- What is read lies in an int's range. -/
theorem atoi_range {l : List UInt8} {v : Int} (h : Go.Lib.atoiAll l = .ok v) : -9223372036854775808 ≤ v ∧ v ≤ 9223372036854775807 := by
  cases l with
  | nil => exact absurd h (by simp [Go.Lib.atoiAll])
  | cons c r =>
    simp only [Go.Lib.atoiAll] at h
    generalize Go.Lib.parseMag (if c.toNat = 43 ∨ c.toNat = 45 then r else c :: r) = q at h
    rcases q with u | _ | _
    · simp only at h
      split at h
      · exact absurd h (by simp)
      · split at h
        · exact absurd h (by simp)
        · injection h with h
          subst h
          split <;> omega
    · exact absurd h (by simp)
    · exact absurd h (by simp)
end Num
end Go.Proofs.YtjiifieafnjpgaaDoor
