/- The law ScanBack: the walk. -/
import Derived.Test.YtnbjdfiembbmmaaDoorScanJ
namespace Go.Proofs.YtnbjdfiembbmmaaDoor
open Go.RowKit
set_option linter.unusedSimpArgs false
set_option linter.unusedVariables false
namespace Scan
theorem unlines_last (done : List (List (List UInt8))) : unlines done = [] ∨ ∃ r, unlines done = r ++ [10] := by
  rcases List.eq_nil_or_concat done with rfl | ⟨ds, ws, rfl⟩
  · exact Or.inl rfl
  · right
    simp only [List.concat_eq_append]
    exact ⟨unlines ds ++ Cut.glue 32 ws, by simp [unlines, unline]⟩
/-- Where a search for the end of so many lines stands. -/
theorem count_ahead {T : List UInt8} {done : List (List (List UInt8))} {rest : List UInt8} (hg : GoodL done) (hT : T = unlines done ++ rest) {a : Nat} (ha : a ≤ (unlines done).length) :
    (T.take a).count 10 ≤ done.length ∧ ((T.take a).count 10 = done.length → a = (unlines done).length) := by
  have hc := count_unlines hg
  have e : T.take a = (unlines done).take a := by rw [hT, List.take_append_of_le_length ha]
  have e2 : unlines done = (unlines done).take a ++ (unlines done).drop a := (List.take_append_drop _ _).symm
  have h1 : (unlines done).count 10 = ((unlines done).take a).count 10 + ((unlines done).drop a).count 10 := by
    conv => lhs; rw [e2]
    exact List.count_append
  refine ⟨by rw [e]; omega, fun h => ?_⟩
  rw [e] at h
  have h0 : ((unlines done).drop a).count 10 = 0 := by omega
  rcases unlines_last done with hn | ⟨r, hr⟩
  · rw [hn] at ha ⊢; simpa using ha
  · refine Decidable.byContradiction fun hne => ?_
    have hlt : a ≤ r.length := by
      have : (unlines done).length = r.length + 1 := by rw [hr]; simp
      omega
    rw [hr, List.drop_append_of_le_length hlt, List.count_append] at h0
    simp at h0
end Scan
set_option maxHeartbeats 4000000 in
set_option maxRecDepth 100000 in
theorem back_law (s : ByteArray) (hs : s.size ≤ 1048576) (w : World) (hE : Env w) :
    Calls Tryd.prog 11 #[.string s] w fun e w' => e = .returned (.bool true) ∧ Below w.heap.size w w' := by
  have HE := Lib.hid hE
  clear hE
  cases hsp : Scan.spec s.data.toList with
  | inr ls =>
    have HA := Lib.hid (ans_ok (s := s) (most := s.size) (by omega) hsp)
    obtain ⟨hform, hgood⟩ := Scan.spec_form hsp
    have HJ : Hid (joinRes ls = .tuple #[.string s, .int .i64 0]) := Lib.hid (by
      unfold joinRes; rw [if_pos (Scan.joinOk_iff.2 hgood), ← hform]; rfl)
    have hul : (Scan.unlines ls).length ≤ 2097152 := by rw [← hform, bal_length]; omega
    have hq : (s.toList == s.toList) = true := by simp
    clear hsp hform hgood
    go_enter Tryd.func11, Tryd.ntmps11
    go_wp2_with fail
    refine (lines_ans s _ (by omega) _).mono ?_
    rintro e w1 ⟨va, hsa, rfl, hla, hb1⟩
    rw [HA.out] at hla ⊢
    have HG := Lib.hid (Grid.of_lines hla)
    have HE1 := Lib.hid (HE.out.to hb1)
    clear hla
    go_wp2_with fail
    refine (known_any _ HE1.out).mono ?_
    rintro e w2 ⟨rfl, hb2⟩
    have HG2 := Lib.hid (HG.out.below hb2 (Nat.le_refl _))
    go_wp2_with fail
    refine (join_any HG2.out hb2.size hul).mono ?_
    rintro e w3 ⟨rfl, hb3⟩
    rw [HJ.out]
    go_wp2
    go_returns
    exact ⟨rfl, (hb1.trans (hb2.mono hb1.size)).trans (hb3.mono (by have := hb1.size; have := hb2.size; omega))⟩
  | inl n =>
    have HA := Lib.hid (ans_bad (s := s) (most := s.size) (by omega) hsp)
    obtain ⟨done, rest, hgood, hn, hT⟩ := Scan.spec_torn hsp
    obtain ⟨U, hU⟩ : ∃ U, U = (Scan.unlines done).length := ⟨_, rfl⟩
    have hUs : U ≤ s.size := by
      have := congrArg List.length hT
      rw [bal_length, List.length_append] at this
      omega
    have hdl : done.length ≤ U := by rw [hU]; exact Scan.unlines_len done
    have HC : Hid (∀ a, a ≤ U → (s.data.toList.take a).count 10 ≤ done.length ∧ ((s.data.toList.take a).count 10 = done.length → a = U)) := Lib.hid (fun a ha => by
      have := Scan.count_ahead hgood hT (a := a) (by omega)
      rw [← hU] at this
      exact this)
    have HCU : Hid ((s.data.toList.take U).count 10 = done.length) := Lib.hid (by
      rw [hT, hU, List.take_left]; exact Scan.count_unlines hgood)
    obtain ⟨t, ht⟩ : ∃ t, t = s.extract 0 U := ⟨_, rfl⟩
    have htl : t.data.toList = Scan.unlines done := by
      have e : t.data.toList = s.data.toList.take U := by rw [ht]; simp [List.extract]
      rw [e, hT, hU, List.take_left]
    have hts : t.size = U := by rw [← bal_length t, htl, hU]
    have HT := Lib.hid (ans_ok (s := t) (most := s.size) (by omega) (by rw [htl]; exact Scan.spec_done hgood))
    have HTT := Lib.hid ht
    obtain ⟨D, hD⟩ : ∃ D, D = done.length := ⟨_, rfl⟩
    rw [← hD] at hdl HC HCU hn
    have HDD := Lib.hid hD
    clear hsp hgood hT ht htl hU hD
    subst hn
    go_enter Tryd.func11, Tryd.ntmps11
    go_wp2_with fail
    refine (lines_ans s _ (by omega) _).mono ?_
    rintro e w1 ⟨va, hsa, rfl, hla, hb1⟩
    rw [HA.out] at hla ⊢
    obtain ⟨a0, c0, rfl⟩ := own_form hla.row
    have HE1 := Lib.hid (HE.out.to hb1)
    clear hla
    go_wp2_with fail
    refine (known_any _ HE1.out).mono ?_
    rintro e w2 ⟨rfl, hb2⟩
    go_wp2
    go_loopw [8, 9] (fun p q wr => ∃ a k : Nat, p = .int .i64 a ∧ q = .int .i64 k ∧ a ≤ U ∧ k = 1 + (s.data.toList.take a).count 10 ∧ wr = w2) (fun p _ _ => U - (intOf p).toNat)
    case atStart => exact ⟨0, 1, rfl, rfl, by omega, by simp, rfl⟩
    case round =>
      obtain ⟨a, k, rfl, rfl, ha, hk, rfl⟩ := hrel
      have hca := (HC.out a ha).1
      have hcu := (HC.out a ha).2
      by_cases hkn : k < 1 + D
      · have hau : a < U := by
          refine Decidable.byContradiction fun h => ?_
          have : a = U := by omega
          rw [this, HCU.out] at hk
          omega
        have has : a < s.size := by omega
        have hc := byte_at s has
        have hcount : (s.data.toList.take (a + 1)).count 10 = (s.data.toList.take a).count 10 + if s[a] = 10 then 1 else 0 := by
          rw [List.take_add_one, hc, List.count_append]
          by_cases h10 : s[a] = 10
          · simp [h10]
          · simp [h10]
        have hk1 : (k : Int) < (1 + D : Nat) := by omega
        by_cases h10 : s[a] = 10
        · have hq : ((s[a].toNat : Int) == 10) = true := by rw [h10]; rfl
          rw [if_pos h10] at hcount
          have HK := Lib.hid (show k + 1 = 1 + (s.data.toList.take (a + 1)).count 10 by omega)
          clear hcount hc hcu hca hk h10
          go_wp2
          go_roundw
          case rel => exact ⟨a + 1, k + 1, by go_num, by go_num, by omega, HK.out, trivial⟩
          case measure => simp [intOf]; omega
        · have hq : ((s[a].toNat : Int) == 10) = false := by rw [beq_eq_false_iff_ne]; intro e; exact h10 (UInt8.toNat_inj.1 (by show s[a].toNat = 10; omega))
          rw [if_neg h10] at hcount
          have HK := Lib.hid (show k = 1 + (s.data.toList.take (a + 1)).count 10 by omega)
          clear hcount hc hcu hca hk h10
          go_wp2
          go_roundw
          case rel => exact ⟨a + 1, k, by go_num, rfl, by omega, HK.out, trivial⟩
          case measure => simp [intOf]; omega
      · have hkD : k = 1 + D := by omega
        have haU : a = U := hcu (by omega)
        subst hkD
        subst haU
        have hk1 : ¬ ((1 + D : Nat) : Int) < ((1 + D : Nat) : Int) := by omega
        have hdd : (((1 + D : Nat) : Int) == ((1 + D : Nat) : Int)) = true := by simp
        have hd1 : ((1 + D : Nat) : Int) - 1 = (D : Int) := by omega
        have hd2 : ((D : Int) == (D : Int)) = true := by simp
        clear hk hca hcu hkn
        by_cases has : a < s.size
        all_goals
          go_wp2_with fail
          rw [← HTT.out]
          refine (lines_ans t _ (by omega) _).mono ?_
          rintro e w3 ⟨vb, hsb, rfl, hlb, hb3⟩
          rw [HT.out] at hlb ⊢
          obtain ⟨a1, c1, rfl⟩ := own_form hlb.row
          rw [← HDD.out]
          clear hlb
          go_wp2
          go_returns
          exact ⟨by show Ending.returned (.bool ((D : Int) == 1 + (D : Int) - 1)) = _; rw [show ((D : Int) == 1 + (D : Int) - 1) = true by rw [beq_iff_eq]; omega], (hb1.trans (hb2.mono hb1.size)).trans (hb3.mono (by have := hb1.size; have := hb2.size; omega))⟩
end Go.Proofs.YtnbjdfiembbmmaaDoor
