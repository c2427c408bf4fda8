/- LockReads: Parse of any text. -/
import Derived.Test.YtjiifieafnjpgaaGreatDoorLockK
import Derived.Test.YtjiifieafnjpgaaGreatDoorLockF7
import Derived.Test.YtjiifieafnjpgaaGreatDoorLockF6
import Derived.Test.YtjiifieafnjpgaaGreatDoorLkP
namespace Go.Proofs.YtjiifieafnjpgaaGreatDoor
open Go.RowKit
set_option linter.unusedSimpArgs false
set_option linter.unusedVariables false
open Lock
set_option maxHeartbeats 4000000 in
set_option maxRecDepth 100000 in
theorem lock_reads (s : ByteArray) (hs : s.size ≤ 1048576) (W : World) (hE : Env W) : Calls Tryz.prog 3 #[.string s] W fun e W' => e = .returned (.bool true) ∧ Below W.heap.size W W' := by
  have HP := Lib.hid (gparse_any s (by omega) W hE)
  have HR := Lib.hid (fun w hw => rparse_graph s (by omega) w (hE.to hw))
  have HK := Lib.hid (fun w hw => known_any w (hE.to hw))
  clear hE
  go_enter Tryz.func3, Tryz.ntmps3
  go_wp2_with fail
  refine HP.out.mono ?_
  rintro e w1 ⟨v1, rfl, hown, hb1⟩
  have hz := parse_sizes s.data.toList
  have hf := parse_few s.data.toList
  obtain ⟨c, hc⟩ : ∃ c, c = (Lock.parse s.data.toList).1 := ⟨_, rfl⟩
  obtain ⟨a1, k1, rfl⟩ := hown.at.form
  have HA1 := Lib.hid hown.at
  obtain ⟨N, hN⟩ : ∃ N, N = (Lock.parse s.data.toList).2.length := ⟨_, rfl⟩
  rw [← hN] at HA1 ⊢
  have HN := Lib.hid hN
  clear hN
  have HB1 := Lib.hid hb1
  rw [← hc]
  have HC := Lib.hid hc
  clear hown hb1 hc
  have hq : (c == c) = true := by simp
  go_wp2_with fail
  have hb1' : Below W.heap.size W (w1.alloc (.cells #[.slice a1 N k1] 24)) := HB1.out.alloc HB1.out.size _
  refine (HR.out _ hb1').mono ?_
  rintro e w2 ⟨v2, rfl, ha2, hb2⟩
  rw [parse_law] at ha2 ⊢
  obtain ⟨a2, k2, rfl⟩ := ha2.form
  rw [← HN.out] at ha2 ⊢
  rw [← HC.out]
  have hb2' := hb1'.trans (hb2.mono hb1'.size)
  have hat1 : NodesAt (w1.alloc (.cells #[.slice a1 N k1] 24)) (w1.alloc (.cells #[.slice a1 N k1] 24)).heap.size (.slice a1 N k1) (Lock.parse s.data.toList).2 := (HA1.out.below ((Below.refl _ w1).alloc (Nat.le_refl _) (.cells #[.slice a1 N k1] 24)) (Nat.le_refl _)).mono (by simp)
  have c1 : w2.cell? ⟨w1.heap.size, 0, none⟩ = some (.slice a1 N k1) := by rw [hb2.cell (p := ⟨w1.heap.size, 0, none⟩) (by simp)]; exact World.cell?_alloc_at _ _ _ _ rfl
  have hat2 := (hat1.below hb2 (Nat.le_refl _)).mono hb2.size
  have hzz : w1.heap.size < w2.heap.size := by have := hb2.size; simp at this; omega
  have HS : Hid (∀ w, Below w2.heap.size w2 w → Calls Tryz.prog 6 #[.agg #[.slice a1 N k1], .agg #[.slice a2 N k2]] w fun e w' => e = .returned (.bool true) ∧ Below w.heap.size w w') := Lib.hid (fun w hw => by
    have h := rSame_any w (.slice a1 N k1) (.slice a2 N k2) _ _ ((hat2.below hw (Nat.le_refl _)).mono hw.size) ((ha2.below hw (Nat.le_refl _)).mono hw.size) hz hz (by omega) (by omega)
    simp only [decide_true] at h
    exact h)
  have HB2 := Lib.hid hb2'
  clear hb1' hb2 hb2' ha2 hat1 hat2 hz hf
  go_wp2_with fail
  refine (HS.out _ (by go_grown)).mono ?_
  rintro e w3 ⟨rfl, hb3⟩
  have hb3' : Below W.heap.size W w3 := (HB2.out.alloc HB2.out.size (.cells #[.slice a2 N k2] 24)).trans (hb3.mono (by have := HB2.out.size; simp; omega))
  clear hb3
  go_wp2_with fail
  refine (HK.out _ hb3').mono ?_
  rintro e w4 ⟨rfl, hb4⟩
  go_wp2
  go_returns
  exact ⟨rfl, hb3'.trans (hb4.mono hb3'.size)⟩
end Go.Proofs.YtjiifieafnjpgaaGreatDoor
