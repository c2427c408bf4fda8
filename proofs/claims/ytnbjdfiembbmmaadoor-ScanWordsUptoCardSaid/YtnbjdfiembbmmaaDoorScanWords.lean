/- The law ScanWords: the walk. -/
import Derived.Test.YtnbjdfiembbmmaaDoorScanK
namespace Go.Proofs.YtnbjdfiembbmmaaDoor
open Go.RowKit
set_option linter.unusedSimpArgs false
set_option linter.unusedVariables false
set_option maxHeartbeats 2000000 in
set_option maxRecDepth 100000 in
theorem words_law (s : ByteArray) (most : Int) (hs : s.size ≤ 1048576) (w : World) (hE : Env w) :
    Calls Tryd.prog 8 #[.string s, .int .i64 most] w fun e w' => e = .returned (.bool true) ∧ Below w.heap.size w w' := by
  have HE := Lib.hid hE
  clear hE
  obtain ⟨n, b, hnb⟩ : ∃ n b, numRes s.data.toList most = .tuple #[.int .i64 n, .bool b] := ⟨_, _, rfl⟩
  obtain ⟨c, hc⟩ : ∃ c, Scan.nameOk s.data.toList = c := ⟨_, rfl⟩
  have HNB := Lib.hid hnb
  have HC := Lib.hid hc
  clear hnb hc
  have hnn : (n == n) = true := by simp
  cases b <;> cases c
  all_goals
    go_enter Tryd.func8, Tryd.ntmps8
    go_wp2_with fail
    refine (number_any s most (by omega) _ HE.out).mono ?_
    rintro e w1 ⟨rfl, hb1⟩
    rw [HNB.out]
    have HE1 := Lib.hid (HE.out.to hb1)
    go_wp2_with fail
    refine (rnumber_any s most (by omega) _).mono ?_
    rintro e w2 ⟨rfl, rfl⟩
    rw [HNB.out]
    go_wp2_with fail
    refine (name_any s (by omega) _).mono ?_
    rintro e w3 ⟨rfl, hb3⟩
    rw [HC.out]
    have HE3 := Lib.hid (HE1.out.to hb3)
    go_wp2_with fail
    refine (rname_any s (by omega) _).mono ?_
    rintro e w4 ⟨rfl, rfl⟩
    rw [HC.out]
    go_wp2_with fail
    refine (known_any _ HE3.out).mono ?_
    rintro e w5 ⟨rfl, hb5⟩
    go_wp2
    go_returns
    exact ⟨rfl, (hb1.trans (hb3.mono hb1.size)).trans (hb5.mono (by have := hb1.size; have := hb3.size; omega))⟩
end Go.Proofs.YtnbjdfiembbmmaaDoor
