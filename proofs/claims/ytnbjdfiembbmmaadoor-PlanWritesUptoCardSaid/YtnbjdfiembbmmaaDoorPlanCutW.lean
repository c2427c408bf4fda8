/- PlanCut's walk: a plan's text that is cut somewhere. -/
import Derived.Test.YtnbjdfiembbmmaaDoorPlanKnown
import Derived.Test.YtnbjdfiembbmmaaDoorPlanCutP
namespace Go.Proofs.YtnbjdfiembbmmaaDoor
open Go.RowKit
set_option linter.unusedSimpArgs false
set_option linter.unusedVariables false
theorem Deeds.take {w : World} {B : Nat} {a : Option Addr} {n cap cap' : Nat} {ds : List Plan.D} (h : Deeds w B (.slice a n cap) ds) {m : Nat} (hm : m ≤ ds.length) : Deeds w B (.slice a m cap') (ds.take m) := by
  obtain ⟨a', c', he, hc⟩ := h.is
  injection he with h1 h2 h3
  subst h1
  refine ⟨a, cap', by rw [List.length_take, Nat.min_eq_left hm], fun i d hd => ?_⟩
  rw [List.getElem?_take] at hd
  split at hd
  · exact hc i d hd
  · exact absurd hd (by simp)
set_option maxHeartbeats 4000000 in
set_option maxRecDepth 100000 in
theorem planCut (hPA : ParseAll) {w : World} {v : Value} {ds : List Plan.D} (h : Deeds w w.heap.size v ds) (hcap : ∀ a c, v = .slice a ds.length c → ds.length ≤ c) (hn : ds.length ≤ 1048576) (hsz : ∀ d ∈ ds, d.path.length ≤ 1048576 ∧ d.data.length ≤ 1048576) (t : Int) :
    Calls Tryd.prog 6 #[v, .int .i64 t] w fun e w' => e = .returned (.bool true) ∧ Below w.heap.size w w' := by
  have HPA := Lib.hid hPA
  have HKN := Lib.hid (planKnown hPA)
  clear hPA
  have HH := Lib.hid h
  have HSZ := Lib.hid hsz
  obtain ⟨a1, c1, rfl⟩ := h.form
  have hcap1 := hcap a1 c1 rfl
  clear h hsz hcap
  cases hok : Plan.ok ds
  · have HPR : Hid (printRes ds = .tuple #[.string ByteArray.empty, .int .i64 44]) := Lib.hid (by unfold printRes; rw [hok]; rfl)
    have HC := Lib.hid (Plan.code_no hok)
    clear hok
    go_enter Tryd.func6, Tryd.ntmps6
    go_wp2_with fail
    refine (print_any HH.out (Nat.le_refl _) hn HSZ.out).mono ?_
    rintro e w1 ⟨rfl, hb1⟩
    rw [HPR.out]
    have HD1 := Lib.hid (HH.out.below hb1 (Nat.le_refl _))
    go_wp2_with fail
    refine (HKN.out _).mono ?_
    rintro e w2 ⟨rfl, hb2⟩
    have HD2 := Lib.hid (HD1.out.below hb2 hb1.size)
    have hz1 := hb1.size
    have hz2 := hb2.size
    go_wp2_with fail
    refine (check_any HD2.out (by omega) (by omega) (fun d hd => by have := HSZ.out d hd; omega)).mono ?_
    rintro e w3 ⟨rfl, hb3⟩
    rw [HC.out]
    go_wp2
    go_returns
    exact ⟨rfl, (hb1.trans (hb2.mono hz1)).trans (hb3.mono (by omega))⟩
  · have HPR : Hid (printRes ds = .tuple #[.string (bs (Plan.text ds)), .int .i64 0]) := Lib.hid (by unfold printRes; rw [if_pos hok])
    have hTL := Plan.text_le HSZ.out hn ds.length
    rw [List.take_length] at hTL
    have HOK := Lib.hid hok
    obtain ⟨S, hS⟩ : ∃ S, S = bs (Plan.text ds) := ⟨_, rfl⟩
    have HST : Hid (S.data.toList = Plan.text ds) := Lib.hid (by rw [hS]; rfl)
    have hSs : S.size ≤ 3298545369093 := by rw [← bal_length, HST.out]; exact hTL
    rw [← hS] at HPR
    clear hok hS hTL
    have hdiv : ¬ ((S.size : Int) + 1 = 0) := by omega
    obtain ⟨k, hkS, hk⟩ : ∃ k : Nat, k ≤ S.size ∧ (t.tmod ((S.size : Int) + 1) = (k : Int) ∨ ∃ j : Nat, t.tmod ((S.size : Int) + 1) = -(j : Int) ∧ 1 ≤ j ∧ j + k = S.size + 1) := by
      have h1 := Int.tmod_lt_of_pos t (show (0 : Int) < (S.size : Int) + 1 by omega)
      have h2 := Int.lt_tmod_of_pos t (show (0 : Int) < (S.size : Int) + 1 by omega)
      by_cases h0 : 0 ≤ t.tmod ((S.size : Int) + 1)
      · exact ⟨(t.tmod ((S.size : Int) + 1)).toNat, by omega, Or.inl (by omega)⟩
      · exact ⟨S.size + 1 - (-(t.tmod ((S.size : Int) + 1))).toNat, by omega, Or.inr ⟨(-(t.tmod ((S.size : Int) + 1))).toNat, by omega, by omega, by omega⟩⟩
    have HLAST : Hid ((k = 0 ∨ (1 ≤ k ∧ ((Plan.text ds)[k - 1]? ≠ some 10))) ∨ (1 ≤ k ∧ (Plan.text ds)[k - 1]? = some 10)) := Lib.hid (by
      by_cases hk0 : k = 0
      · exact Or.inl (Or.inl hk0)
      · by_cases h10 : (Plan.text ds)[k - 1]? = some 10
        · exact Or.inr ⟨by omega, h10⟩
        · exact Or.inl (Or.inr ⟨by omega, h10⟩))
    rcases hk with hmod | ⟨j, hmod, hj1, hjk⟩
    · have hneg : ¬ ((k : Int) < 0) := by omega
      go_enter Tryd.func6, Tryd.ntmps6
      go_wp2_with fail
      refine (print_any HH.out (Nat.le_refl _) hn HSZ.out).mono ?_
      rintro e w1 ⟨rfl, hb1⟩
      rw [HPR.out]
      have HD1 := Lib.hid (HH.out.below hb1 (Nat.le_refl _))
      go_wp2_with fail
      refine (HKN.out _).mono ?_
      rintro e w2 ⟨rfl, hb2⟩
      have HD2 := Lib.hid (HD1.out.below hb2 hb1.size)
      have hz1 := hb1.size
      have hz2 := hb2.size
      go_wp2_with fail
      go_loopw [8, 9] (fun p q wr => ∃ n i : Nat, p = .int .i64 n ∧ q = .int .i64 i ∧ i ≤ k ∧ n = (S.data.toList.take i).count 10 ∧ wr = w2) (fun _ q _ => k - (intOf q).toNat)
      case atStart => exact ⟨0, 0, rfl, rfl, by omega, rfl, rfl⟩
      case round =>
        obtain ⟨n, i, rfl, rfl, hi, hni, rfl⟩ := hrel
        have hnle : n ≤ i := by
          rw [hni]
          exact Nat.le_trans List.count_le_length (by rw [List.length_take]; omega)
        by_cases hik : i < k
        · have his : i < S.size := by omega
          have hc := byte_at S his
          have hcount : (S.data.toList.take (i + 1)).count 10 = (S.data.toList.take i).count 10 + if S[i] = 10 then 1 else 0 := by
            rw [List.take_add_one, hc, List.count_append]
            by_cases h10 : S[i] = 10
            · simp [h10]
            · simp [h10]
          by_cases h10 : S[i] = 10
          · have hq : ((S[i].toNat : Int) == 10) = true := by rw [h10]; rfl
            rw [if_pos h10] at hcount
            have HK := Lib.hid (show n + 1 = (S.data.toList.take (i + 1)).count 10 by omega)
            clear hcount hc hni h10
            go_wp2
            go_roundw
            case rel => exact ⟨n + 1, i + 1, by go_num, by go_num, by omega, HK.out, trivial⟩
            case measure => simp [intOf]; omega
          · have hq : ((S[i].toNat : Int) == 10) = false := by rw [beq_eq_false_iff_ne]; intro e; exact h10 (UInt8.toNat_inj.1 (by show S[i].toNat = 10; omega))
            rw [if_neg h10] at hcount
            have HK := Lib.hid (show n = (S.data.toList.take (i + 1)).count 10 by omega)
            clear hcount hc hni h10
            go_wp2
            go_roundw
            case rel => exact ⟨n, i + 1, rfl, by go_num, by omega, HK.out, trivial⟩
            case measure => simp [intOf]; omega
        · obtain rfl : i = k := by omega
          have HNI := Lib.hid hni
          clear hni
          obtain ⟨X, hX⟩ : ∃ X, X = S.extract 0 i := ⟨_, rfl⟩
          have HX : Hid (X.data.toList = (Plan.text ds).take i) := Lib.hid (by rw [hX, ← HST.out]; simp [List.extract])
          have hXs : X.size ≤ 3500000000000 := by rw [← bal_length, HX.out, ← HST.out, List.length_take, bal_length]; omega
          have HXX := Lib.hid hX
          clear hX
          have hTl : i ≤ (Plan.text ds).length := by rw [← HST.out, bal_length]; exact hkS
          rcases HLAST.out with hl | ⟨hi1, hl⟩
          · obtain ⟨g1, g2⟩ := Plan.cut_torn (T := Plan.text ds) (k := i) hTl (by
              rcases hl with rfl | ⟨_, h⟩
              · exact Or.inl rfl
              · exact Or.inr h)
            obtain ⟨c, hc⟩ : ∃ c, c = (Plan.parse ((Plan.text ds).take i)).1 := ⟨_, rfl⟩
            have HP : Hid (Plan.parse X.data.toList = (c, [])) := Lib.hid (by rw [HX.out, hc, ← g2])
            have hne : (c != 0) = true := by rw [bne_iff_ne]; rw [hc]; exact g1
            clear g1 g2 hc
            rcases hl with rfl | ⟨hi1, hl⟩
            · have hq0 : (((0 : Nat) : Int) == 0) = true := rfl
              have HXE := Lib.hid (str_empty (s := X) (by rw [← bal_length, HX.out]; rfl))
              go_wp2_with fail
              rw [← HXE.out]
              refine (HPA.out X hXs _).mono ?_
              rintro e w3 ⟨vp, rfl, hd3, hb3⟩
              rw [HP.out] at hd3 ⊢
              obtain ⟨a3, c3, rfl⟩ := hd3.form
              clear hd3
              go_wp2
              go_returns
              exact ⟨rfl, (hb1.trans (hb2.mono hz1)).trans (hb3.mono (by omega))⟩
            · have hq0 : ((i : Int) == 0) = false := by rw [beq_eq_false_iff_ne]; omega
              have hi1s : i - 1 < S.size := by omega
              have hcl := byte_at S hi1s
              rw [HST.out] at hcl
              have hq1 : ((S[i - 1].toNat : Int) != 10) = true := by
                rw [bne_iff_ne]
                intro e
                exact hl (by rw [hcl]; congr 1; exact UInt8.toNat_inj.1 (by show S[i - 1].toNat = 10; omega))
              have hi2 : ((i : Int) - 1).toNat = i - 1 := by omega
              have hi3 : (0 : Int) ≤ (i : Int) - 1 := by omega
              have hi4 : (i : Int) - 1 < (S.size : Int) := by omega
              clear hcl hl
              go_wp2_with fail
              rw [← HXX.out]
              refine (HPA.out X hXs _).mono ?_
              rintro e w3 ⟨vp, rfl, hd3, hb3⟩
              rw [HP.out] at hd3 ⊢
              obtain ⟨a3, c3, rfl⟩ := hd3.form
              clear hd3
              go_wp2
              go_returns
              exact ⟨rfl, (hb1.trans (hb2.mono hz1)).trans (hb3.mono (by omega))⟩
          · have hq0 : ((i : Int) == 0) = false := by rw [beq_eq_false_iff_ne]; omega
            have hi1s : i - 1 < S.size := by omega
            have hcl := byte_at S hi1s
            obtain ⟨m, hm, hmn, hmp⟩ := Plan.cut_line HOK.out hi1 hl
            rw [HST.out, hl] at hcl
            have hq1 : ((S[i - 1].toNat : Int) != 10) = false := by
              rw [bne_eq_false_iff_eq]
              have := Option.some.inj hcl
              rw [← this]; rfl
            obtain rfl : n = m + 1 := by rw [HNI.out, HST.out]; exact hmn
            have HP : Hid (Plan.parse X.data.toList = (0, ds.take m)) := Lib.hid (by rw [HX.out]; exact hmp)
            have hi2 : ((i : Int) - 1).toNat = i - 1 := by omega
            have hi3 : (0 : Int) ≤ (i : Int) - 1 := by omega
            have hi4 : (i : Int) - 1 < (S.size : Int) := by omega
            have hm1 : ((m + 1 : Nat) : Int) - 1 = (m : Int) := by omega
            have hm2 : (m : Int) ≤ (ds.length : Int) := by omega
            clear hcl hl hmn hmp
            go_wp2_with fail
            rw [← HXX.out]
            refine (HPA.out X hXs _).mono ?_
            rintro e w3 ⟨vp, rfl, hd3, hb3⟩
            rw [HP.out] at hd3 ⊢
            have HD3 := Lib.hid hd3
            have HT3 := Lib.hid (fun c' => ((HD2.out.below hb3 (by omega)).mono (by have := hb3.size; omega) : Deeds w3 w3.heap.size _ _).take (cap' := c') hm)
            have HDL : Hid ((ds.take m).length = m) := Lib.hid (by rw [List.length_take]; omega)
            obtain ⟨a3, c3, rfl⟩ := hd3.form
            rw [HDL.out] at HD3 ⊢
            clear hd3
            go_wp2_with fail
            refine (sameD_any HD3.out (HT3.out _) (by have := HDL.out; omega) (by have := HDL.out; omega)).mono ?_
            rintro e w4 ⟨rfl, q4, rfl⟩
            rw [show decide (ds.take m = ds.take m) = true by simp]
            go_wp2
            go_returns
            exact ⟨rfl, Below.drewN ((hb1.trans (hb2.mono hz1)).trans (hb3.mono (by omega))) q4⟩
    · have hneg : (-(j : Int) < 0) := by omega
      have hadd : -(j : Int) + (S.size : Int) + 1 = (k : Int) := by omega
      go_enter Tryd.func6, Tryd.ntmps6
      go_wp2_with fail
      refine (print_any HH.out (Nat.le_refl _) hn HSZ.out).mono ?_
      rintro e w1 ⟨rfl, hb1⟩
      rw [HPR.out]
      have HD1 := Lib.hid (HH.out.below hb1 (Nat.le_refl _))
      go_wp2_with fail
      refine (HKN.out _).mono ?_
      rintro e w2 ⟨rfl, hb2⟩
      have HD2 := Lib.hid (HD1.out.below hb2 hb1.size)
      have hz1 := hb1.size
      have hz2 := hb2.size
      go_wp2_with fail
      go_loopw [8, 9] (fun p q wr => ∃ n i : Nat, p = .int .i64 n ∧ q = .int .i64 i ∧ i ≤ k ∧ n = (S.data.toList.take i).count 10 ∧ wr = w2) (fun _ q _ => k - (intOf q).toNat)
      case atStart => exact ⟨0, 0, rfl, rfl, by omega, rfl, rfl⟩
      case round =>
        obtain ⟨n, i, rfl, rfl, hi, hni, rfl⟩ := hrel
        have hnle : n ≤ i := by
          rw [hni]
          exact Nat.le_trans List.count_le_length (by rw [List.length_take]; omega)
        by_cases hik : i < k
        · have his : i < S.size := by omega
          have hc := byte_at S his
          have hcount : (S.data.toList.take (i + 1)).count 10 = (S.data.toList.take i).count 10 + if S[i] = 10 then 1 else 0 := by
            rw [List.take_add_one, hc, List.count_append]
            by_cases h10 : S[i] = 10
            · simp [h10]
            · simp [h10]
          by_cases h10 : S[i] = 10
          · have hq : ((S[i].toNat : Int) == 10) = true := by rw [h10]; rfl
            rw [if_pos h10] at hcount
            have HK := Lib.hid (show n + 1 = (S.data.toList.take (i + 1)).count 10 by omega)
            clear hcount hc hni h10
            go_wp2
            go_roundw
            case rel => exact ⟨n + 1, i + 1, by go_num, by go_num, by omega, HK.out, trivial⟩
            case measure => simp [intOf]; omega
          · have hq : ((S[i].toNat : Int) == 10) = false := by rw [beq_eq_false_iff_ne]; intro e; exact h10 (UInt8.toNat_inj.1 (by show S[i].toNat = 10; omega))
            rw [if_neg h10] at hcount
            have HK := Lib.hid (show n = (S.data.toList.take (i + 1)).count 10 by omega)
            clear hcount hc hni h10
            go_wp2
            go_roundw
            case rel => exact ⟨n, i + 1, rfl, by go_num, by omega, HK.out, trivial⟩
            case measure => simp [intOf]; omega
        · obtain rfl : i = k := by omega
          have HNI := Lib.hid hni
          clear hni
          obtain ⟨X, hX⟩ : ∃ X, X = S.extract 0 i := ⟨_, rfl⟩
          have HX : Hid (X.data.toList = (Plan.text ds).take i) := Lib.hid (by rw [hX, ← HST.out]; simp [List.extract])
          have hXs : X.size ≤ 3500000000000 := by rw [← bal_length, HX.out, ← HST.out, List.length_take, bal_length]; omega
          have HXX := Lib.hid hX
          clear hX
          have hTl : i ≤ (Plan.text ds).length := by rw [← HST.out, bal_length]; exact hkS
          rcases HLAST.out with hl | ⟨hi1, hl⟩
          · obtain ⟨g1, g2⟩ := Plan.cut_torn (T := Plan.text ds) (k := i) hTl (by
              rcases hl with rfl | ⟨_, h⟩
              · exact Or.inl rfl
              · exact Or.inr h)
            obtain ⟨c, hc⟩ : ∃ c, c = (Plan.parse ((Plan.text ds).take i)).1 := ⟨_, rfl⟩
            have HP : Hid (Plan.parse X.data.toList = (c, [])) := Lib.hid (by rw [HX.out, hc, ← g2])
            have hne : (c != 0) = true := by rw [bne_iff_ne]; rw [hc]; exact g1
            clear g1 g2 hc
            rcases hl with rfl | ⟨hi1, hl⟩
            · have hq0 : (((0 : Nat) : Int) == 0) = true := rfl
              have HXE := Lib.hid (str_empty (s := X) (by rw [← bal_length, HX.out]; rfl))
              go_wp2_with fail
              rw [← HXE.out]
              refine (HPA.out X hXs _).mono ?_
              rintro e w3 ⟨vp, rfl, hd3, hb3⟩
              rw [HP.out] at hd3 ⊢
              obtain ⟨a3, c3, rfl⟩ := hd3.form
              clear hd3
              go_wp2
              go_returns
              exact ⟨rfl, (hb1.trans (hb2.mono hz1)).trans (hb3.mono (by omega))⟩
            · have hq0 : ((i : Int) == 0) = false := by rw [beq_eq_false_iff_ne]; omega
              have hi1s : i - 1 < S.size := by omega
              have hcl := byte_at S hi1s
              rw [HST.out] at hcl
              have hq1 : ((S[i - 1].toNat : Int) != 10) = true := by
                rw [bne_iff_ne]
                intro e
                exact hl (by rw [hcl]; congr 1; exact UInt8.toNat_inj.1 (by show S[i - 1].toNat = 10; omega))
              have hi2 : ((i : Int) - 1).toNat = i - 1 := by omega
              have hi3 : (0 : Int) ≤ (i : Int) - 1 := by omega
              have hi4 : (i : Int) - 1 < (S.size : Int) := by omega
              clear hcl hl
              go_wp2_with fail
              rw [← HXX.out]
              refine (HPA.out X hXs _).mono ?_
              rintro e w3 ⟨vp, rfl, hd3, hb3⟩
              rw [HP.out] at hd3 ⊢
              obtain ⟨a3, c3, rfl⟩ := hd3.form
              clear hd3
              go_wp2
              go_returns
              exact ⟨rfl, (hb1.trans (hb2.mono hz1)).trans (hb3.mono (by omega))⟩
          · have hq0 : ((i : Int) == 0) = false := by rw [beq_eq_false_iff_ne]; omega
            have hi1s : i - 1 < S.size := by omega
            have hcl := byte_at S hi1s
            obtain ⟨m, hm, hmn, hmp⟩ := Plan.cut_line HOK.out hi1 hl
            rw [HST.out, hl] at hcl
            have hq1 : ((S[i - 1].toNat : Int) != 10) = false := by
              rw [bne_eq_false_iff_eq]
              have := Option.some.inj hcl
              rw [← this]; rfl
            obtain rfl : n = m + 1 := by rw [HNI.out, HST.out]; exact hmn
            have HP : Hid (Plan.parse X.data.toList = (0, ds.take m)) := Lib.hid (by rw [HX.out]; exact hmp)
            have hi2 : ((i : Int) - 1).toNat = i - 1 := by omega
            have hi3 : (0 : Int) ≤ (i : Int) - 1 := by omega
            have hi4 : (i : Int) - 1 < (S.size : Int) := by omega
            have hm1 : ((m + 1 : Nat) : Int) - 1 = (m : Int) := by omega
            have hm2 : (m : Int) ≤ (ds.length : Int) := by omega
            clear hcl hl hmn hmp
            go_wp2_with fail
            rw [← HXX.out]
            refine (HPA.out X hXs _).mono ?_
            rintro e w3 ⟨vp, rfl, hd3, hb3⟩
            rw [HP.out] at hd3 ⊢
            have HD3 := Lib.hid hd3
            have HT3 := Lib.hid (fun c' => ((HD2.out.below hb3 (by omega)).mono (by have := hb3.size; omega) : Deeds w3 w3.heap.size _ _).take (cap' := c') hm)
            have HDL : Hid ((ds.take m).length = m) := Lib.hid (by rw [List.length_take]; omega)
            obtain ⟨a3, c3, rfl⟩ := hd3.form
            rw [HDL.out] at HD3 ⊢
            clear hd3
            go_wp2_with fail
            refine (sameD_any HD3.out (HT3.out _) (by have := HDL.out; omega) (by have := HDL.out; omega)).mono ?_
            rintro e w4 ⟨rfl, q4, rfl⟩
            rw [show decide (ds.take m = ds.take m) = true by simp]
            go_wp2
            go_returns
            exact ⟨rfl, Below.drewN ((hb1.trans (hb2.mono hz1)).trans (hb3.mono (by omega))) q4⟩
end Go.Proofs.YtnbjdfiembbmmaaDoor
