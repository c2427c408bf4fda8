/- The walk of 'known': a few answers that are fixed. -/
import Derived.Test.YthbepoeohjddnaaDoorVersWalks3
import Derived.Test.YthbepoeohjddnaaDoorShelf
import Derived.BigQuiet
namespace Go.Proofs.YthbepoeohjddnaaDoor
open Go.RowKit
set_option linter.unusedSimpArgs false
set_option linter.unusedVariables false
theorem itoa_small (n : Int) (h : 0 ≤ n ∧ n < 100) (w : World) :
    Calls Tryd.prog 29 #[.int .i64 n] w fun e w' => e = .returned (.string ⟨(Go.Lib.decDigits n.toNat).toArray⟩) ∧ w' = w := by
  obtain ⟨i, rfl⟩ := Int.eq_ofNat_of_zero_le h.1
  exact Tryd.strconv_Itoa_small i (by omega) w
theorem itoa_1 (w : World) : Calls Tryd.prog 29 #[.int .i64 1] w fun e w' => e = .returned (.string ⟨#[49]⟩) ∧ w' = w := by
  have h := itoa_small 1 (by omega) w
  rw [show Go.Lib.decDigits (Int.toNat 1) = [49] from by decide +kernel] at h
  exact h
theorem itoa_2 (w : World) : Calls Tryd.prog 29 #[.int .i64 2] w fun e w' => e = .returned (.string ⟨#[50]⟩) ∧ w' = w := by
  have h := itoa_small 2 (by omega) w
  rw [show Go.Lib.decDigits (Int.toNat 2) = [50] from by decide +kernel] at h
  exact h
theorem itoa_3 (w : World) : Calls Tryd.prog 29 #[.int .i64 3] w fun e w' => e = .returned (.string ⟨#[51]⟩) ∧ w' = w := by
  have h := itoa_small 3 (by omega) w
  rw [show Go.Lib.decDigits (Int.toNat 3) = [51] from by decide +kernel] at h
  exact h
set_option maxHeartbeats 400000 in
theorem print_123 (w : World) :
    Calls Tryd.prog 22 #[.agg #[.int .i64 1, .int .i64 2, .int .i64 3]] w fun e w' => e = .returned (.string ⟨#[49, 46, 50, 46, 51]⟩) ∧ Below w.heap.size w w' := by
  go_enter Tryd.func22, Tryd.ntmps22
  go_wp2_with fail
  refine (may_any _ _ _ _).mono ?_
  rintro e w1 ⟨rfl, hb1⟩
  rw [V.may_of (by omega)]
  obtain ⟨hc, hf⟩ := bcell hb1
  have hz : w.heap.size < w1.heap.size := by have := hb1.size; simp at this; omega
  go_wp2
  go_quiet ((go_at_call 29; first | with_reducible exact Calls.quiet_of_same (itoa_1 _) | with_reducible exact Calls.quiet_of_same (itoa_2 _) | with_reducible exact Calls.quiet_of_same (itoa_3 _)))
  go_wp2
  go_returns
  refine ⟨rfl, below_drewN ?_ _⟩
  refine Below.trans ?_ (hb1.mono ?_) <;> go_grown
set_option maxHeartbeats 1000000 in
theorem known_true (w : World) : Calls Tryd.prog 17 #[] w fun e w' => e = .returned (.bool true) ∧ Below w.heap.size w w' := by
  go_enter Tryd.func17, Tryd.ntmps17
  go_wp2_with fail
  refine (rank_any _ _ _ _).mono ?_
  rintro e w1 ⟨rfl, hb1⟩
  rw [show V.rank 1 2 3 = 1002003 from by decide +kernel, show V.may 1 2 3 = true from by decide +kernel]
  have B1 : Below w.heap.size w w1 := by refine Below.trans ?_ (hb1.mono ?_) <;> go_grown
  obtain ⟨hc, hf⟩ := bcell hb1
  have hz : w.heap.size < w1.heap.size := by have := hb1.size; simp at this; omega
  go_wp2_with fail
  refine (next_any _ _ _ _).mono ?_
  rintro e w2 ⟨rfl, hb2⟩
  rw [show V.atA (V.nx 1 2 3) = 1 from by decide +kernel, show V.atB (V.nx 1 2 3) = 2 from by decide +kernel, show V.atC (V.nx 1 2 3) = 4 from by decide +kernel, show V.atOk (V.nx 1 2 3) = true from by decide +kernel]
  have B2 : Below w.heap.size w w2 := by refine Below.trans B1 (hb2.mono ?_) <;> go_grown
  obtain ⟨hc2, hf2⟩ := bcell hb2
  have hz2 : w.heap.size < w2.heap.size := by have := hb2.size; omega
  go_wp2_with fail
  refine (may_any _ _ _ _).mono ?_
  rintro e w3 ⟨rfl, hb3⟩
  rw [show V.may 1 2 3 = true from by decide +kernel]
  have B3 : Below w.heap.size w w3 := by refine Below.trans ?_ (hb3.mono ?_) <;> go_grown
  obtain ⟨hc3, hf3⟩ := bcell hb3
  have hz3 : w.heap.size < w3.heap.size := by have := hb3.size; simp at this; omega
  have hz3' : w2.heap.size < w3.heap.size := by have := hb3.size; simp at this; omega
  have hz2' : w.heap.size < w2.heap.size + 1 := by omega
  go_wp2_with fail
  refine (print_123 _).mono ?_
  rintro e w4 ⟨rfl, hb4⟩
  have B4 : Below w.heap.size w w4 := by refine Below.trans ?_ (hb4.mono ?_) <;> go_grown
  go_wp2_with fail
  go_returns
  exact ⟨ret_bool (by decide +kernel), B4⟩
end Go.Proofs.YthbepoeohjddnaaDoor
