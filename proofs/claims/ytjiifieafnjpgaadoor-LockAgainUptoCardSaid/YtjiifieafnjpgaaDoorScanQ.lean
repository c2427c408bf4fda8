/- Numbers: the walks of both. -/
import Derived.Test.YtjiifieafnjpgaaDoorScanN
import Derived.Handy
import Derived.WalkMore
import Derived.WalkLawsBesides
import Derived.WalkSpells
import Derived.Outline
import Derived.Lib.Hide
import Derived.BigQuiet
namespace Go.Proofs.YtjiifieafnjpgaaDoor
open Go.RowKit
set_option linter.unusedSimpArgs false
set_option linter.unusedVariables false
namespace Num
/-- What number a text is, of those that may be. -/
def numOf (l : List UInt8) : Option Nat := if l = Go.Lib.decDigits (valFrom 0 l) ∧ valFrom 0 l ≤ 9223372036854775807 then some (valFrom 0 l) else none
theorem numOf_some {l : List UInt8} {n : Nat} (h : numOf l = some n) : l = Go.Lib.decDigits n ∧ n ≤ 9223372036854775807 := by
  unfold numOf at h
  split at h
  · rename_i hh
    cases h
    exact hh
  · exact absurd h (by simp)
theorem numOf_dec {n : Nat} (h : n ≤ 9223372036854775807) : numOf (Go.Lib.decDigits n) = some n := by
  unfold numOf
  rw [val_dec, if_pos ⟨rfl, h⟩]
theorem numOf_none {l : List UInt8} (h : numOf l = none) {n : Nat} (hn : n ≤ 9223372036854775807) : Go.Lib.decDigits n ≠ l := by
  rintro rfl
  rw [numOf_dec hn] at h
  exact absurd h (by simp)
theorem numOf_nil : numOf [] = none := by
  unfold numOf
  rw [if_neg]
  rintro ⟨h, _⟩
  exact dec_ne _ h.symm
theorem numOf_zero {c : UInt8} {r : List UInt8} (hc : c.toNat = 48) (hr : r ≠ []) : numOf (c :: r) = none := by
  cases h : numOf (c :: r) with
  | none => rfl
  | some n =>
    have e := (numOf_some h).1
    by_cases hn : n = 0
    · subst hn
      rw [dec_small (by omega)] at e
      simp at e
      exact absurd e.2 hr
    · obtain ⟨x, y, e2, h1, h2⟩ := dec_head n hn
      rw [e2] at e
      simp at e
      rw [e.1] at hc
      omega
theorem numOf_bad {l : List UInt8} {k : Nat} {c : UInt8} (hc : l[k]? = some c) (hd : ¬ Digit c) : numOf l = none := by
  cases h : numOf l with
  | none => rfl
  | some n =>
    have e := (numOf_some h).1
    exact absurd (dec_digit n c (by rw [← e]; exact List.mem_of_getElem? hc)) hd
theorem valFrom_append (n : Nat) (a b : List UInt8) : valFrom n (a ++ b) = valFrom (valFrom n a) b := by simp [valFrom]
theorem numOf_much {l : List UInt8} {k : Nat} (h : 9223372036854775807 < valFrom 0 (l.take k)) : numOf l = none := by
  cases hh : numOf l with
  | none => rfl
  | some n =>
    obtain ⟨e, hn⟩ := numOf_some hh
    have h1 : valFrom 0 l = n := by rw [e, val_dec]
    have h2 := valFrom_append 0 (l.take k) (l.drop k)
    rw [List.take_append_drop] at h2
    have h3 := valFrom_le (valFrom 0 (l.take k)) (l.drop k)
    omega
theorem canon_aux : ∀ (n : Nat) (l : List UInt8), l.length = n → l ≠ [] → (∀ c ∈ l, Digit c) → (∀ c r, l = c :: r → c.toNat = 48 → r = []) → Go.Lib.decDigits (valFrom 0 l) = l := by
  intro n
  induction n with
  | zero => intro l hl hne; exact absurd (List.length_eq_zero_iff.1 hl) hne
  | succ n ih =>
    intro l hl hne hd hz
    rcases List.eq_nil_or_concat l with rfl | ⟨r, c, rfl⟩
    · exact absurd rfl hne
    simp only [List.concat_eq_append] at hl hd hz ⊢
    have hc := hd c (List.mem_append_right _ (List.mem_singleton.2 rfl))
    unfold Digit at hc
    rw [valFrom_snoc]
    by_cases hr : r = []
    · subst hr
      simp only [valFrom, List.foldl_nil, Nat.mul_zero, Nat.zero_add, List.nil_append]
      rw [dec_small (by omega), show 48 + (c.toNat - 48) = c.toNat by omega]
      simp
    · have hr' : Go.Lib.decDigits (valFrom 0 r) = r := ih r (by simp at hl; exact hl) hr (fun x hx => hd x (List.mem_append_left _ hx)) (fun x y e hx => by
        have := hz x (y ++ [c]) (by rw [e]; rfl) hx
        simp at this)
      have hpos : valFrom 0 r ≠ 0 := by
        intro h0
        rw [h0, dec_small (by omega)] at hr'
        have := hz _ [c] (by rw [← hr']; rfl) (by rw [ofNat_toNat (by omega)])
        simp at this
      rw [dec_big (by omega), show (10 * valFrom 0 r + (c.toNat - 48)) / 10 = valFrom 0 r by omega, show 48 + (10 * valFrom 0 r + (c.toNat - 48)) % 10 = c.toNat by omega, hr']
      simp
theorem canon (l : List UInt8) : l ≠ [] → (∀ c ∈ l, Digit c) → (∀ c r, l = c :: r → c.toNat = 48 → r = []) → Go.Lib.decDigits (valFrom 0 l) = l := canon_aux _ l rfl
theorem numOf_full {l : List UInt8} (hne : l ≠ []) (hd : ∀ c ∈ l, Digit c) (hz : ∀ c r, l = c :: r → c.toNat = 48 → r = []) (hv : valFrom 0 l ≤ 9223372036854775807) : numOf l = some (valFrom 0 l) := by
  unfold numOf
  rw [if_pos ⟨(canon l hne hd hz).symm, hv⟩]
/-- What Number answers. -/
def numAns (l : List UInt8) (most : Int) : Int × Bool := match numOf l with
  | some n => if (n : Int) ≤ most then ((n : Int), true) else (0, false)
  | none => (0, false)
theorem atoi_none {l : List UInt8} (h : numOf l = none) {v : Int} (hv : Go.Lib.atoiAll l = .ok v) (h0 : 0 ≤ v) : Go.Lib.itoa v ≠ l := by
  rw [itoa_nat h0]
  have := (atoi_range hv).2
  exact numOf_none h (by omega)
end Num
theorem itext_beq (v : Int) (s : ByteArray) : ((itext v).toList == s.toList) = decide (Go.Lib.itoa v = s.data.toList) := by
  rw [itext_list, ByteArray.toList_eq]
  by_cases h : Go.Lib.itoa v = s.data.toList
  · rw [h, decide_eq_true rfl]; exact beq_self_eq_true _
  · rw [beq_eq_false_iff_ne.2 h, decide_eq_false h]
/-- What Number returns. -/
def numRes (l : List UInt8) (most : Int) : Value := .tuple #[.int .i64 (Num.numAns l most).1, .bool (Num.numAns l most).2]
set_option maxHeartbeats 1000000 in
set_option maxRecDepth 100000 in
theorem number_any (s : ByteArray) (most : Int) (hs : s.size ≤ 281474976710656) (w : World) (hE : Env w) :
    Calls Tryd.prog 27 #[.string s, .int .i64 most] w fun e w' => e = .returned (numRes s.data.toList most) ∧ Below w.heap.size w w' := by
  have HE := Lib.hid hE
  cases hn : Num.numOf s.data.toList with
  | some n =>
    obtain ⟨e, hb⟩ := Num.numOf_some hn
    have hat : Go.Lib.atoiAll s.data.toList = .ok (n : Int) := by rw [e]; exact Num.atoi_dec (by omega)
    have HAT := Lib.hid hat
    have hq : ((itext (n : Int)).toList == s.toList) = true := by
      rw [itext_beq, Num.itoa_nat (by omega)]
      simp [← e]
    have HB := Lib.hid hb
    have h0 : ¬ (n : Int) < 0 := by omega
    by_cases hm : (n : Int) ≤ most
    · have HR : Hid (numRes s.data.toList most = .tuple #[.int .i64 n, .bool true]) := Lib.hid (by simp only [numRes, Num.numAns, hn, if_pos hm])
      clear hn e hat hb hE
      go_enter Tryd.func27, Tryd.ntmps27
      go_wp2_with fail
      refine (Atoi_ok s hs _ HAT.out _).mono ?_
      rintro e w1 ⟨rfl, hb1⟩
      have HE1 := Lib.hid (HE.out.to hb1)
      go_wp2_with fail
      refine (Itoa_any _ (by have := HB.out; omega) _ HE1.out).mono ?_
      rintro e w2 ⟨rfl, hb2⟩
      go_wp2
      go_returns
      exact ⟨by rw [HR.out]; rfl, hb1.trans (hb2.mono hb1.size)⟩
    · have HR : Hid (numRes s.data.toList most = .tuple #[.int .i64 0, .bool false]) := Lib.hid (by simp only [numRes, Num.numAns, hn, if_neg hm])
      clear hn e hat hb hE
      go_enter Tryd.func27, Tryd.ntmps27
      go_wp2_with fail
      refine (Atoi_ok s hs _ HAT.out _).mono ?_
      rintro e w1 ⟨rfl, hb1⟩
      go_wp2
      go_returns
      exact ⟨by rw [HR.out]; rfl, hb1⟩
  | none =>
    have HR : Hid (numRes s.data.toList most = .tuple #[.int .i64 0, .bool false]) := Lib.hid (by simp only [numRes, Num.numAns, hn])
    by_cases hv : ∃ v, Go.Lib.atoiAll s.data.toList = .ok v
    · obtain ⟨v, hv⟩ := hv
      have HAT := Lib.hid hv
      have HRG := Lib.hid (Num.atoi_range hv)
      by_cases h0 : v < 0
      · clear hv hn hE
        go_enter Tryd.func27, Tryd.ntmps27
        go_wp2_with fail
        refine (Atoi_ok s hs _ HAT.out _).mono ?_
        rintro e w1 ⟨rfl, hb1⟩
        go_wp2
        go_returns
        exact ⟨by rw [HR.out]; rfl, hb1⟩
      · have hq : ((itext v).toList == s.toList) = false := by rw [itext_beq]; exact decide_eq_false (Num.atoi_none hn hv (by omega))
        by_cases hm : v ≤ most
        · clear hv hn hE
          go_enter Tryd.func27, Tryd.ntmps27
          go_wp2_with fail
          refine (Atoi_ok s hs _ HAT.out _).mono ?_
          rintro e w1 ⟨rfl, hb1⟩
          have HE1 := Lib.hid (HE.out.to hb1)
          go_wp2_with fail
          refine (Itoa_any _ HRG.out _ HE1.out).mono ?_
          rintro e w2 ⟨rfl, hb2⟩
          go_wp2
          go_returns
          exact ⟨by rw [HR.out]; rfl, hb1.trans (hb2.mono hb1.size)⟩
        · clear hv hn hE
          go_enter Tryd.func27, Tryd.ntmps27
          go_wp2_with fail
          refine (Atoi_ok s hs _ HAT.out _).mono ?_
          rintro e w1 ⟨rfl, hb1⟩
          go_wp2
          go_returns
          exact ⟨by rw [HR.out]; rfl, hb1⟩
    · have HV : Hid (∀ v, Go.Lib.atoiAll s.data.toList ≠ .ok v) := Lib.hid (fun v h => hv ⟨v, h⟩)
      clear hv hn hE
      go_enter Tryd.func27, Tryd.ntmps27
      go_wp2_with fail
      refine (Atoi_bad s hs HV.out _ HE.out).mono ?_
      rintro e w1 ⟨v, p, rfl, hb1⟩
      go_wp2
      go_returns
      exact ⟨by rw [HR.out]; rfl, hb1⟩
theorem digit_no {c : UInt8} (h : (c.toNat : Int) - 48 < 0 ∨ 9 < (c.toNat : Int) - 48) : ¬ Num.Digit c := by unfold Num.Digit; omega
theorem take_val {l : List UInt8} {k : Nat} {c : UInt8} (hc : l[k]? = some c) : Num.valFrom 0 (l.take (k + 1)) = 10 * Num.valFrom 0 (l.take k) + (c.toNat - 48) := by
  rw [List.take_add_one, hc]
  exact Num.valFrom_snoc _ _ _
end Go.Proofs.YtjiifieafnjpgaaDoor
