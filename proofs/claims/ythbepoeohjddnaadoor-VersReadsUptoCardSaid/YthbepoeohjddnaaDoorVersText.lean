/- Plain laws on the texts of numbers and versions: no program stands here. -/
import Derived.Test.YthbepoeohjddnaaDoorVersPlain
import Derived.Lib.ItoaNum
namespace Go.Proofs.YthbepoeohjddnaaDoor
namespace V
/-- A numeral's value. -/
def val (l : List UInt8) : Nat := l.foldl (fun n c => 10 * n + (c.toNat - 48)) 0
theorem val_snoc (l : List UInt8) (c : UInt8) : val (l ++ [c]) = 10 * val l + (c.toNat - 48) := by simp [val]
theorem ofNat_toNat {n : Nat} (h : n < 256) : (UInt8.ofNat n).toNat = n := by simp [Nat.mod_eq_of_lt h]
theorem val_dec (u : Nat) : val (Go.Lib.decDigits u) = u := by
  induction u using Nat.strongRecOn with
  | _ u ih =>
    by_cases h : u < 10
    · rw [Go.Lib.decDigits, dif_pos h]
      show 10 * 0 + ((UInt8.ofNat (48 + u)).toNat - 48) = u
      rw [ofNat_toNat (by omega)]; omega
    · rw [Go.Lib.decDigits, dif_neg h, val_snoc, ih (u / 10) (by omega), ofNat_toNat (by omega)]; omega
theorem dec_inj {u v : Nat} (h : Go.Lib.decDigits u = Go.Lib.decDigits v) : u = v := by rw [← val_dec u, ← val_dec v, h]
theorem dec_digit (u : Nat) : ∀ c ∈ Go.Lib.decDigits u, 48 ≤ c.toNat ∧ c.toNat ≤ 57 := by
  induction u using Nat.strongRecOn with
  | _ u ih =>
    intro c hc
    by_cases h : u < 10
    · rw [Go.Lib.decDigits, dif_pos h] at hc
      obtain rfl := List.mem_singleton.1 hc
      rw [ofNat_toNat (by omega)]; omega
    · rw [Go.Lib.decDigits, dif_neg h] at hc
      rcases List.mem_append.1 hc with hc | hc
      · exact ih (u / 10) (by omega) c hc
      · obtain rfl := List.mem_singleton.1 hc
        rw [ofNat_toNat (by omega)]; omega
theorem dec_short {u : Nat} (h : u < 1000) : (Go.Lib.decDigits u).length ≤ 3 ∧ 1 ≤ (Go.Lib.decDigits u).length := by
  rw [Go.Lib.decDigits_length]
  by_cases h1 : u < 10
  · rw [Go.Lib.nDigits_small h1]; omega
  · rw [Go.Lib.nDigits_big h1]
    by_cases h2 : u / 10 < 10
    · rw [Go.Lib.nDigits_small h2]; omega
    · rw [Go.Lib.nDigits_big h2, Go.Lib.nDigits_small (by omega)]; omega
/-- What stands ahead of the first sign d, and behind it, is one pair alone. -/
theorem cut_unique {d : UInt8} : ∀ {l l' r r' : List UInt8}, l ++ d :: r = l' ++ d :: r' → d ∉ l → d ∉ l' → l = l' ∧ r = r'
  | [], [], _, _, h, _, _ => ⟨rfl, by simpa using h⟩
  | [], c :: l', _, _, h, _, h' => by
    simp only [List.nil_append, List.cons_append, List.cons.injEq] at h
    exact absurd (List.mem_cons.2 (Or.inl h.1)) h'
  | c :: l, [], _, _, h, h', _ => by
    simp only [List.nil_append, List.cons_append, List.cons.injEq] at h
    exact absurd (List.mem_cons.2 (Or.inl h.1.symm)) h'
  | c :: l, c' :: l', r, r', h, h1, h2 => by
    simp only [List.cons_append, List.cons.injEq] at h
    obtain ⟨rfl, h⟩ := h
    obtain ⟨rfl, rfl⟩ := cut_unique h (fun k => h1 (List.mem_cons_of_mem _ k)) (fun k => h2 (List.mem_cons_of_mem _ k))
    exact ⟨rfl, rfl⟩
theorem dec_no_dot (u : Nat) : (46 : UInt8) ∉ Go.Lib.decDigits u := fun h => by
  have := (dec_digit u 46 h).1
  exact absurd this (by decide)
/-- A number's text. -/
def dig (n : Int) : ByteArray := ⟨(Go.Lib.decDigits n.toNat).toArray⟩
theorem dig_list (n : Int) : (dig n).data.toList = Go.Lib.decDigits n.toNat := rfl
theorem dig_size (n : Int) : (dig n).size = (Go.Lib.decDigits n.toNat).length := rfl
theorem dig_short {n : Int} (h : 0 ≤ n ∧ n ≤ 999) : (dig n).size ≤ 3 := by rw [dig_size]; exact (dec_short (by omega)).1
/-- A version's text, as a list of bytes. -/
def text (a b c : Int) : List UInt8 := Go.Lib.decDigits a.toNat ++ 46 :: (Go.Lib.decDigits b.toNat ++ 46 :: Go.Lib.decDigits c.toNat)
theorem text_inj {a b c x y z : Int} (h : may a b c = true) (h' : may x y z = true) (e : text a b c = text x y z) : a = x ∧ b = y ∧ c = z := by
  have hb := may_iff.1 h
  have hb' := may_iff.1 h'
  obtain ⟨e1, e2⟩ := cut_unique e (dec_no_dot _) (dec_no_dot _)
  obtain ⟨e3, e4⟩ := cut_unique e2 (dec_no_dot _) (dec_no_dot _)
  have := dec_inj e1
  have := dec_inj e3
  have := dec_inj e4
  omega
/-- A version's text; none if it may not be. -/
def str (a b c : Int) : ByteArray := if may a b c = true then ⟨(text a b c).toArray⟩ else ⟨#[]⟩
theorem str_yes {a b c : Int} (h : may a b c = true) : str a b c = dig a ++ ⟨#[46]⟩ ++ dig b ++ ⟨#[46]⟩ ++ dig c := by
  unfold str
  rw [if_pos h]
  apply ByteArray.ext
  apply Array.toList_inj.1
  simp [text, dig, ByteArray.data_append]
theorem str_no {a b c : Int} (h : may a b c = false) : str a b c = ⟨#[]⟩ := by unfold str; rw [h]; rfl
theorem str_list {a b c : Int} (h : may a b c = true) : (str a b c).toList = text a b c := by
  unfold str
  rw [if_pos h, ByteArray.toList_eq]
end V
end Go.Proofs.YthbepoeohjddnaaDoor
