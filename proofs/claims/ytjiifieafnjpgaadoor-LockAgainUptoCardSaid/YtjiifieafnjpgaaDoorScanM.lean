/- May a name be? The walks of both. -/
import Derived.Test.YtjiifieafnjpgaaDoorScanN
import Derived.Handy
import Derived.WalkMore
import Derived.WalkLawsBesides
import Derived.WalkSpells
import Derived.Outline
import Derived.Lib.Hide
import Derived.BigQuiet
namespace Go.Proofs.YtjiifieafnjpgaaDoor
open Go.RowKit
set_option linter.unusedSimpArgs false
set_option linter.unusedVariables false
set_option maxHeartbeats 1000000 in
set_option maxRecDepth 100000 in
theorem name_any (s : ByteArray) (hs : s.size ≤ 9223372036854775807) (w : World) :
    Calls Tryd.prog 18 #[.string s] w fun e w' => e = .returned (.bool (Scan.nameOk s.data.toList)) ∧ Below w.heap.size w w' := by
  have HT := Lib.hid (Scan.nameOk_trim s.data.toList)
  have hsl := bal_length s
  obtain ⟨r, hr⟩ : ∃ r, r = bs (s.data.toList.dropWhile Scan.small) := ⟨_, rfl⟩
  have hrl : r.data.toList = s.data.toList.dropWhile Scan.small := by rw [hr]; rfl
  have hrs : r.size ≤ 9223372036854775807 := by
    rw [← bal_length r, hrl]
    have := (List.dropWhile_sublist (p := Scan.small) (l := s.data.toList)).length_le
    omega
  have hq2 : (r.toList == s.toList) = decide (s.data.toList.dropWhile Scan.small = s.data.toList) := by rw [str_beq, hrl]
  have HR := Lib.hid hr
  have HRL := Lib.hid hrl
  clear hr hrl
  by_cases he : s.size = 0
  · obtain rfl := str_empty he
    clear he
    go_enter Tryd.func18, Tryd.ntmps18
    go_wp2_with fail
    refine (TrimAz _ _).mono ?_
    rintro e w1 ⟨rfl, hb1⟩
    rw [← HR.out]
    go_wp2
    go_returns
    exact ⟨rfl, hb1⟩
  · have hq1 : (s.toList == ([] : List UInt8)) = false := str_ne_empty (by omega)
    have hq1' : s.data.toList.isEmpty = false := by
      cases hh : s.data.toList with
      | nil => rw [hh] at hsl; simp at hsl; omega
      | cons c l => rfl
    rw [hq1', hsl] at HT
    by_cases h16 : s.size ≤ 16
    · have d16 : decide (s.size ≤ 16) = true := decide_eq_true h16
      rw [d16] at HT
      by_cases hd : s.data.toList.dropWhile Scan.small = s.data.toList
      · rw [decide_eq_true hd] at hq2
        have HF : Hid (Scan.nameOk s.data.toList = false) := Lib.hid (by rw [HT.out, decide_eq_false (not_not_intro hd)]; rfl)
        clear HT hd hsl hq1' d16
        go_enter Tryd.func18, Tryd.ntmps18
        go_wp2_with fail
        refine (TrimAz _ _).mono ?_
        rintro e w1 ⟨rfl, hb1⟩
        rw [← HR.out]
        go_wp2
        go_returns
        exact ⟨by rw [HF.out]; rfl, hb1⟩
      · rw [decide_eq_false hd] at hq2
        have HF : Hid (Scan.nameOk s.data.toList = r.data.toList.all (fun c => Scan.small c || Scan.other c)) := Lib.hid (by rw [HT.out, decide_eq_true (p := ¬ _) hd, HRL.out]; simp)
        clear HT hd hsl hq1' d16
        go_enter Tryd.func18, Tryd.ntmps18
        go_wp2_with fail
        refine (TrimAz _ _).mono ?_
        rintro e w1 ⟨rfl, hb1⟩
        rw [← HR.out]
        go_wp2_with fail
        refine (TrimAz09 _ hrs _).mono ?_
        rintro e w2 ⟨t, rfl, ht, hb2⟩
        cases hall : r.data.toList.all (fun c => Scan.small c || Scan.other c)
        · rw [hall] at ht
          have HALL := Lib.hid hall
          clear hall
          go_wp2
          go_returns
          exact ⟨by rw [HF.out, HALL.out]; rfl, hb1.trans (hb2.mono hb1.size)⟩
        · rw [hall] at ht
          have HALL := Lib.hid hall
          clear hall
          go_wp2
          go_returns
          exact ⟨by rw [HF.out, HALL.out]; rfl, hb1.trans (hb2.mono hb1.size)⟩
    · have d16 : decide (s.size ≤ 16) = false := decide_eq_false h16
      have HF : Hid (Scan.nameOk s.data.toList = false) := Lib.hid (by rw [HT.out, d16]; simp)
      clear HT hsl hq1' d16
      go_enter Tryd.func18, Tryd.ntmps18
      go_wp2_with fail
      refine (TrimAz _ _).mono ?_
      rintro e w1 ⟨rfl, hb1⟩
      rw [← HR.out]
      go_wp2
      go_returns
      exact ⟨by rw [HF.out]; rfl, hb1⟩
theorem small_iff {c : UInt8} : Scan.small c = true ↔ 97 ≤ c.toNat ∧ c.toNat ≤ 122 := by simp [Scan.small]
theorem other_iff {c : UInt8} : Scan.other c = true ↔ (48 ≤ c.toNat ∧ c.toNat ≤ 57) ∨ c.toNat = 45 := by simp [Scan.other]
set_option maxHeartbeats 2000000 in
set_option maxRecDepth 100000 in
theorem rname_any (s : ByteArray) (hs : s.size ≤ 9223372036854775807) (w : World) :
    Calls Tryd.prog 21 #[.string s] w fun e w' => e = .returned (.bool (Scan.nameOk s.data.toList)) ∧ w' = w := by
  have HSL := Lib.hid (bal_length s)
  go_enter Tryd.func21, Tryd.ntmps21
  go_wp2
  go_loopw [3] (fun p wr => ∃ k : Nat, p = .int .i64 k ∧ k ≤ s.size ∧ (∀ (i : Nat) c, i < k → s.data.toList[i]? = some c → Scan.okAt i c = true) ∧ wr = w) (fun p _ => s.size - (intOf p).toNat)
  case atStart => exact ⟨0, rfl, by omega, fun i c h => by omega, rfl⟩
  case round =>
    obtain ⟨k, rfl, hk, hall, rfl⟩ := hrel
    have HA := Lib.hid hall
    clear hall
    by_cases hks : k < s.size
    · have HC := Lib.hid (byte_at s hks)
      have hnext : Scan.okAt k s[k] = true → ∀ (i : Nat) c, i < k + 1 → s.data.toList[i]? = some c → Scan.okAt i c = true := fun h i c hi hc => by
        by_cases he : i = k
        · subst he
          rw [HC.out] at hc
          cases hc
          exact h
        · exact HA.out i c (by omega) hc
      have HX := Lib.hid hnext
      clear hnext
      have hkk : ((k : Int) == 0) = decide (k = 0) := by
        by_cases h : k = 0
        · simp [h]
        · rw [decide_eq_false h, beq_eq_false_iff_ne]; omega
      by_cases h1 : 97 ≤ (s[k].toNat : Int)
      · by_cases h2 : (s[k].toNat : Int) ≤ 122
        · have HO := Lib.hid (HX.out (by have : Scan.small s[k] = true := small_iff.2 (by omega); simp [Scan.okAt, this]))
          by_cases h3 : (s[k].toNat : Int) ≤ 57
          · omega
          · have h4 : 48 ≤ (s[k].toNat : Int) := by omega
            have h5 : ((s[k].toNat : Int) == 45) = false := by rw [beq_eq_false_iff_ne]; omega
            clear HX hkk
            go_wp2
            go_roundw
            case rel => exact ⟨k + 1, by go_num, by omega, HO.out, trivial⟩
            case measure => simp [intOf]; omega
        · have HF := Lib.hid (Scan.nameOk_no HC.out (by
            have a1 : Scan.small s[k] = false := by cases h : Scan.small s[k] with | false => rfl | true => have := small_iff.1 h; omega
            have a2 : Scan.other s[k] = false := by cases h : Scan.other s[k] with | false => rfl | true => have := other_iff.1 h; omega
            simp [Scan.okAt, a1, a2]))
          have h3 : ¬ (s[k].toNat : Int) ≤ 57 := by omega
          have h4 : 48 ≤ (s[k].toNat : Int) := by omega
          have h5 : ((s[k].toNat : Int) == 45) = false := by rw [beq_eq_false_iff_ne]; omega
          clear HX
          by_cases hk0 : k = 0
          · rw [decide_eq_true hk0] at hkk
            have H0 := Lib.hid hk0
            clear hk0
            go_wp2
            go_returns
            exact ⟨by rw [HF.out]; rfl, rfl⟩
          · rw [decide_eq_false hk0] at hkk
            clear hk0
            go_wp2
            go_returns
            exact ⟨by rw [HF.out]; rfl, rfl⟩
      · have a1 : Scan.small s[k] = false := by cases h : Scan.small s[k] with | false => rfl | true => have := small_iff.1 h; omega
        by_cases hk0 : k = 0
        · have HF := Lib.hid (Scan.nameOk_no HC.out (by unfold Scan.okAt; rw [a1, decide_eq_false (not_not_intro hk0)]; rfl))
          rw [decide_eq_true hk0] at hkk
          have H0 := Lib.hid hk0
          clear HX a1 hk0
          have hd : 48 ≤ (s[k].toNat : Int) ∨ ¬ 48 ≤ (s[k].toNat : Int) := by omega
          by_cases h4 : 48 ≤ (s[k].toNat : Int)
          · have h5 : ((s[k].toNat : Int) == 45) = false := by rw [beq_eq_false_iff_ne]; omega
            by_cases h3 : (s[k].toNat : Int) ≤ 57
            · go_wp2
              go_returns
              exact ⟨by rw [HF.out]; rfl, rfl⟩
            · go_wp2
              go_returns
              exact ⟨by rw [HF.out]; rfl, rfl⟩
          · by_cases h6 : (s[k].toNat : Int) = 45
            · have h5 : ((s[k].toNat : Int) == 45) = true := by rw [beq_iff_eq]; exact h6
              clear h6
              go_wp2
              go_returns
              exact ⟨by rw [HF.out]; rfl, rfl⟩
            · have h5 : ((s[k].toNat : Int) == 45) = false := by rw [beq_eq_false_iff_ne]; exact h6
              go_wp2
              go_returns
              exact ⟨by rw [HF.out]; rfl, rfl⟩
        · rw [decide_eq_false hk0] at hkk
          by_cases h4 : 48 ≤ (s[k].toNat : Int)
          · have h5 : ((s[k].toNat : Int) == 45) = false := by rw [beq_eq_false_iff_ne]; omega
            by_cases h3 : (s[k].toNat : Int) ≤ 57
            · have HO := Lib.hid (HX.out (by have : Scan.other s[k] = true := other_iff.2 (by omega); simp [Scan.okAt, this, hk0]))
              clear HX a1 hk0
              go_wp2
              go_roundw
              case rel => exact ⟨k + 1, by go_num, by omega, HO.out, trivial⟩
              case measure => simp [intOf]; omega
            · have HF := Lib.hid (Scan.nameOk_no HC.out (by
                have a2 : Scan.other s[k] = false := by cases h : Scan.other s[k] with | false => rfl | true => have := other_iff.1 h; omega
                simp [Scan.okAt, a1, a2]))
              clear HX a1
              go_wp2
              go_returns
              exact ⟨by rw [HF.out]; rfl, rfl⟩
          · by_cases h6 : (s[k].toNat : Int) = 45
            · have h5 : ((s[k].toNat : Int) == 45) = true := by rw [beq_iff_eq]; exact h6
              have HO := Lib.hid (HX.out (by have : Scan.other s[k] = true := other_iff.2 (by omega); simp [Scan.okAt, this, hk0]))
              clear HX a1 hk0 h6
              go_wp2
              go_roundw
              case rel => exact ⟨k + 1, by go_num, by omega, HO.out, trivial⟩
              case measure => simp [intOf]; omega
            · have h5 : ((s[k].toNat : Int) == 45) = false := by rw [beq_eq_false_iff_ne]; exact h6
              have HF := Lib.hid (Scan.nameOk_no HC.out (by
                have a2 : Scan.other s[k] = false := by cases h : Scan.other s[k] with | false => rfl | true => have := other_iff.1 h; omega
                simp [Scan.okAt, a1, a2]))
              clear HX a1
              go_wp2
              go_returns
              exact ⟨by rw [HF.out]; rfl, rfl⟩
    · by_cases he : s.size = 0
      · obtain rfl := str_empty he
        go_wp2
        go_returns
        exact ⟨rfl, rfl⟩
      · have hq1 : (s.toList == ([] : List UInt8)) = false := str_ne_empty (by omega)
        have hq2 : (s.data.toList == ([] : List UInt8)) = false := by rw [← ByteArray.toList_eq]; exact hq1
        have HF := Lib.hid (Scan.nameOk_full (l := s.data.toList) (k := k) (by intro h; rw [h] at hq2; simp at hq2) HA.out (by rw [HSL.out]; omega))
        by_cases h16 : s.size ≤ 16
        · have HD : Hid (decide (s.data.toList.length ≤ 16) = true) := Lib.hid (by rw [HSL.out]; simpa using h16)
          go_wp2
          go_returns
          exact ⟨by rw [HF.out, HD.out]; show Ending.returned (.bool (decide ((s.size : Int) ≤ 16))) = _; rw [decide_eq_true (by omega)], rfl⟩
        · have HD : Hid (decide (s.data.toList.length ≤ 16) = false) := Lib.hid (by rw [HSL.out]; simpa using h16)
          go_wp2
          go_returns
          exact ⟨by rw [HF.out, HD.out]; show Ending.returned (.bool (decide ((s.size : Int) ≤ 16))) = _; rw [decide_eq_false (by omega)], rfl⟩
end Go.Proofs.YtjiifieafnjpgaaDoor
