/- The document's order of texts: the walk. -/
import Derived.Test.YtjiifieafnjpgaaDoorLkW
import Derived.Deep.QuietTactic
import Derived.BigQuiet
namespace Go.Proofs.YtjiifieafnjpgaaDoor
open Go.RowKit
set_option linter.unusedSimpArgs false
set_option linter.unusedVariables false
namespace Lock
theorem before_prefix : ∀ (i : Nat) (a b : List UInt8), i ≤ a.length → i ≤ b.length → a.take i = b.take i → bytesBefore a b = bytesBefore (a.drop i) (b.drop i)
  | 0, a, b, _, _, _ => rfl
  | i + 1, x :: a, y :: b, h1, h2, h => by
    simp only [List.take_succ_cons, List.cons.injEq] at h
    obtain ⟨rfl, h⟩ := h
    rw [List.drop_succ_cons, List.drop_succ_cons, ← before_prefix i a b (by simpa using h1) (by simpa using h2) h]
    have : ¬ x < x := fun hh => by
      have := UInt8.lt_iff_toNat_lt.1 hh
      omega
    simp [bytesBefore, this]
theorem before_part {a b : List UInt8} {i : Nat} {x y : UInt8} (hx : a[i]? = some x) (hy : b[i]? = some y) (h : a.take i = b.take i) (hne : x ≠ y) : bytesBefore a b = decide (x.toNat < y.toNat) := by
  have h1 := (List.getElem?_eq_some_iff.1 hx).1
  have h2 := (List.getElem?_eq_some_iff.1 hy).1
  rw [before_prefix i a b (by omega) (by omega) h, List.drop_eq_getElem_cons h1, List.drop_eq_getElem_cons h2, (List.getElem?_eq_some_iff.1 hx).2, (List.getElem?_eq_some_iff.1 hy).2]
  have e : (x == y) = false := by rw [beq_eq_false_iff_ne]; exact hne
  unfold bytesBefore
  rw [e, Bool.false_and, Bool.or_false]
  exact decide_eq_decide.2 UInt8.lt_iff_toNat_lt
theorem before_end {a b : List UInt8} {i : Nat} (h1 : i ≤ a.length) (h2 : i ≤ b.length) (h : a.take i = b.take i) (he : ¬ (i < a.length ∧ i < b.length)) : bytesBefore a b = decide (a.length < b.length) := by
  rw [before_prefix i a b h1 h2 h]
  rcases Nat.lt_or_ge i a.length with ha | ha
  · have hb : i = b.length := by omega
    rw [List.drop_eq_getElem_cons ha, List.drop_of_length_le (l := b) (by omega), decide_eq_false (by omega)]
    rfl
  · rw [List.drop_of_length_le (l := a) ha]
    rcases Nat.lt_or_ge i b.length with hb | hb
    · rw [List.drop_eq_getElem_cons hb, decide_eq_true (by omega)]
      rfl
    · rw [List.drop_of_length_le hb, decide_eq_false (by omega)]
      rfl
end Lock
open Lock
set_option maxHeartbeats 1000000 in
set_option maxRecDepth 100000 in
theorem rless_any (s t : ByteArray) (hs : s.size ≤ 9223372036854775807) (ht : t.size ≤ 9223372036854775807) (w : World) :
    Calls Tryd.prog 50 #[.string s, .string t] w fun e w' => e = .returned (.bool (bytesBefore s.data.toList t.data.toList)) ∧ ∃ m, w' = w.drewN m := by
  have HSL := Lib.hid (bal_length s)
  have HTL := Lib.hid (bal_length t)
  go_enter Tryd.func50, Tryd.ntmps50
  go_wp2
  go_loopw [5] (fun p wr => ∃ i : Nat, p = .int .i64 i ∧ i ≤ s.size ∧ i ≤ t.size ∧ s.data.toList.take i = t.data.toList.take i ∧ ∃ m, wr = w.drewN m) (fun p _ => s.size - (intOf p).toNat)
  case atStart => exact ⟨0, rfl, by omega, by omega, rfl, 0, rfl⟩
  case round =>
    obtain ⟨i, rfl, hi1, hi2, hpre, m, rfl⟩ := hrel
    have HPRE := Lib.hid hpre
    clear hpre
    by_cases hin : i < s.size ∧ i < t.size
    · obtain ⟨h1, h2⟩ := hin
      have HC := Lib.hid (byte_at s h1)
      have HD := Lib.hid (byte_at t h2)
      have q1 : (i : Int) < (s.size : Int) := by omega
      have q2 : (i : Int) < (t.size : Int) := by omega
      by_cases hne : s[i] = t[i]
      · have HNX : Hid (s.data.toList.take (i + 1) = t.data.toList.take (i + 1)) := Lib.hid (by rw [List.take_add_one, List.take_add_one, HPRE.out, HC.out, HD.out, hne])
        have hq : (((s[i]).toNat : Int) == ((t[i]).toNat : Int)) = true := by rw [hne]; simp
        clear hne
        go_wp2
        go_quiet (fail)
        go_wp2
        go_roundw
        case rel => exact ⟨i + 1, by go_num, by omega, by omega, HNX.out, m + nq, by first | rfl | rw [World.drewN_drewN]⟩
        case measure => simp [intOf]; omega
      · have HR : Hid (bytesBefore s.data.toList t.data.toList = decide (s[i].toNat < t[i].toNat)) := Lib.hid (before_part HC.out HD.out HPRE.out hne)
        have hq : (((s[i]).toNat : Int) == ((t[i]).toNat : Int)) = false := by
          rw [beq_eq_false_iff_ne]
          intro e
          exact hne (UInt8.toNat_inj.1 (by omega))
        have hq2 : (((s[i]).toNat : Int) != ((t[i]).toNat : Int)) = true := by rw [bne, hq]; rfl
        clear hne
        go_wp2
        go_quiet (fail)
        go_wp2
        go_quiet (fail)
        go_wp2
        go_returns
        exact ⟨by rw [HR.out]; rfl, _, by rw [World.drewN_drewN, World.drewN_drewN]⟩
    · have HR : Hid (bytesBefore s.data.toList t.data.toList = decide (s.data.toList.length < t.data.toList.length)) := Lib.hid (before_end (by rw [HSL.out]; exact hi1) (by rw [HTL.out]; exact hi2) HPRE.out (by rw [HSL.out, HTL.out]; exact hin))
      rw [HSL.out, HTL.out] at HR
      by_cases h1 : i < s.size
      · have q1 : (i : Int) < (s.size : Int) := by omega
        have q2 : ¬ (i : Int) < (t.size : Int) := by omega
        clear hin
        go_wp2
        go_returns
        exact ⟨by rw [HR.out]; simp, m, rfl⟩
      · have q1 : ¬ (i : Int) < (s.size : Int) := by omega
        clear hin
        go_wp2
        go_returns
        exact ⟨by rw [HR.out]; simp, m, rfl⟩
set_option maxHeartbeats 1000000 in
set_option maxRecDepth 100000 in
theorem rLess_any (s t : ByteArray) (hs : s.size ≤ 9223372036854775807) (ht : t.size ≤ 9223372036854775807) (w : World) :
    Calls Tryd.prog 38 #[.string s, .string t] w fun e w' => e = .returned (.bool (bytesBefore s.data.toList t.data.toList)) ∧ ∃ m, w' = w.drewN m := by
  have H := Lib.hid (rless_any s t hs ht)
  go_enter Tryd.func38, Tryd.ntmps38
  go_wp2_with fail
  refine (H.out _).mono ?_
  rintro e w' ⟨rfl, m, rfl⟩
  go_wp2
  go_returns
  exact ⟨rfl, m, rfl⟩
end Go.Proofs.YtjiifieafnjpgaaDoor
