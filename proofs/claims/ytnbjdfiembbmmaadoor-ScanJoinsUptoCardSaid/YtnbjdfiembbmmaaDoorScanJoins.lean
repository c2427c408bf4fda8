/- The law ScanJoins: the walk. -/
import Derived.Test.YtnbjdfiembbmmaaDoorScanR
namespace Go.Proofs.YtnbjdfiembbmmaaDoor
open Go.RowKit
set_option linter.unusedSimpArgs false
set_option linter.unusedVariables false
set_option maxHeartbeats 2000000 in
set_option maxRecDepth 100000 in
theorem joins_law {w : World} {v : Value} {ls : List (List (List UInt8))} (h : Grid w w.heap.size v ls) (hs : (Scan.unlines ls).length ≤ 1048576) (hE : Env w) :
    Calls Tryd.prog 10 #[v] w fun e w' => e = .returned (.bool true) ∧ Below w.heap.size w w' := by
  have HE := Lib.hid hE
  have HG := Lib.hid h
  clear h hE
  have hlen := Scan.unlines_len ls
  cases hj : Scan.joinOk ls
  · have HJ : Hid (joinRes ls = .tuple #[.string ByteArray.empty, .int .i64 22]) := Lib.hid (by unfold joinRes; rw [hj]; rfl)
    clear hj
    go_enter Tryd.func10, Tryd.ntmps10
    go_wp2_with fail
    refine (join_any HG.out (Nat.le_refl _) (by omega)).mono ?_
    rintro e w1 ⟨rfl, hb1⟩
    rw [HJ.out]
    have HG1 := Lib.hid (HG.out.below hb1 (Nat.le_refl _))
    have HE1 := Lib.hid (HE.out.to hb1)
    go_wp2_with fail
    refine (rjoin_any HG1.out (by omega)).mono ?_
    rintro e w2 ⟨rfl, rfl⟩
    rw [HJ.out]
    go_wp2_with fail
    refine (known_any _ HE1.out).mono ?_
    rintro e w3 ⟨rfl, hb3⟩
    go_wp2
    go_returns
    exact ⟨rfl, hb1.trans (hb3.mono hb1.size)⟩
  · obtain ⟨s, hsd⟩ : ∃ s, s = bs (Scan.unlines ls) := ⟨_, rfl⟩
    have hsl : s.data.toList = Scan.unlines ls := by rw [hsd]; rfl
    have hss : s.size ≤ 1048576 := by rw [← bal_length s, hsl]; exact hs
    have HJ : Hid (joinRes ls = .tuple #[.string s, .int .i64 0]) := Lib.hid (by unfold joinRes; rw [if_pos hj, hsd]; rfl)
    have HA := Lib.hid (ans_ok (s := s) (most := s.size) (by omega) (by rw [hsl]; exact Scan.spec_done (Scan.joinOk_iff.1 hj)))
    have hz := Scan.ans_sizes s s.size
    rw [HA.out] at hz
    have HZ := Lib.hid hz.2
    have hq : (s.toList == s.toList) = true := by simp
    clear hj hsd hsl hz
    go_enter Tryd.func10, Tryd.ntmps10
    go_wp2_with fail
    refine (join_any HG.out (Nat.le_refl _) (by omega)).mono ?_
    rintro e w1 ⟨rfl, hb1⟩
    rw [HJ.out]
    have HG1 := Lib.hid (HG.out.below hb1 (Nat.le_refl _))
    have HE1 := Lib.hid (HE.out.to hb1)
    go_wp2_with fail
    refine (rjoin_any HG1.out (by omega)).mono ?_
    rintro e w2 ⟨rfl, rfl⟩
    rw [HJ.out]
    go_wp2_with fail
    refine (known_any _ HE1.out).mono ?_
    rintro e w3 ⟨rfl, hb3⟩
    have HG3 := Lib.hid (HG1.out.below hb3 hb1.size)
    go_wp2_with fail
    refine (lines_ans s _ (by omega) _).mono ?_
    rintro e w4 ⟨va, hsa, rfl, hla, hb4⟩
    rw [HA.out] at hla ⊢
    have HGA := Lib.hid (Grid.of_lines hla)
    have HG4 := Lib.hid (HG3.out.below hb4 (by have := hb1.size; have := hb3.size; omega))
    clear hla
    go_wp2_with fail
    refine (same_any (la := ls) (lb := ls) HGA.out (HG4.out.mono (by have := hb1.size; have := hb3.size; have := hb4.size; omega)) (by omega) (by omega) (fun l hl => by have := (HZ.out l hl).1; omega) (fun l hl => by have := (HZ.out l hl).1; omega)).mono ?_
    rintro e w5 ⟨rfl, m5, rfl⟩
    rw [decide_eq_true rfl]
    go_wp2
    go_returns
    exact ⟨rfl, Below.drewN ((hb1.trans (hb3.mono hb1.size)).trans (hb4.mono (by have := hb1.size; have := hb3.size; omega))) m5⟩
end Go.Proofs.YtnbjdfiembbmmaaDoor
