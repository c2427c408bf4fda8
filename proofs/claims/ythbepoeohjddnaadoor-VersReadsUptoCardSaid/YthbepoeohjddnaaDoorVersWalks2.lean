/- The walks of versions: Rank, At, Next, Prev of the program and of the document. -/
import Derived.Test.YthbepoeohjddnaaDoorVersWalks1
namespace Go.Proofs.YthbepoeohjddnaaDoor
open Go.RowKit
set_option linter.unusedSimpArgs false
set_option linter.unusedVariables false
theorem ret_int_bool {a b : Int} {x y : Bool} (h : a = b) (k : x = y) : Ending.returned (.tuple #[.int .i64 a, .bool x]) = .returned (.tuple #[.int .i64 b, .bool y]) := by rw [h, k]
theorem ret_ver {a b c a' b' c' : Int} {x y : Bool} (h1 : a = a') (h2 : b = b') (h3 : c = c') (k : x = y) : Ending.returned (.tuple #[.agg #[.int .i64 a, .int .i64 b, .int .i64 c], .bool x]) = .returned (.tuple #[.agg #[.int .i64 a', .int .i64 b', .int .i64 c'], .bool y]) := by rw [h1, h2, h3, k]
/-- What Rank answers. -/
def V.rank (a b c : Int) : Int := if V.may a b c = true then (a * 1000 + b) * 1000 + c else 0
theorem V.rank_yes {a b c : Int} (h : V.may a b c = true) : V.rank a b c = (a * 1000 + b) * 1000 + c := if_pos h
theorem V.rank_no {a b c : Int} (h : V.may a b c = false) : V.rank a b c = 0 := if_neg (by rw [h]; exact Bool.false_ne_true)
set_option maxHeartbeats 400000 in
theorem rank_any (a b c : Int) (w : World) :
    Calls Tryd.prog 9 #[.agg #[.int .i64 a, .int .i64 b, .int .i64 c]] w fun e w' => e = .returned (.tuple #[.int .i64 (V.rank a b c), .bool (V.may a b c)]) ∧ Below w.heap.size w w' := by
  by_cases h : V.may a b c = true
  · have hb := V.may_iff.1 h
    have hr := Lib.hid (V.rank_yes h)
    have H := Lib.hid h
    clear h
    go_enter Tryd.func9, Tryd.ntmps9
    go_wp2_with fail
    refine (may_any _ _ _ _).mono ?_
    rintro e w1 ⟨rfl, hb1⟩
    rw [H.out]
    obtain ⟨hc, hf⟩ := bcell hb1
    have hz := hb1.size
    simp at hz
    go_wp2
    go_returns
    exact ⟨ret_int_bool hr.out.symm H.out.symm, by refine Below.trans ?_ (hb1.mono ?_) <;> go_grown⟩
  · have H := Lib.hid (Bool.eq_false_iff.2 h)
    have hr := Lib.hid (V.rank_no H.out)
    clear h
    go_enter Tryd.func9, Tryd.ntmps9
    go_wp2_with fail
    refine (may_any _ _ _ _).mono ?_
    rintro e w1 ⟨rfl, hb1⟩
    rw [H.out]
    go_wp2
    go_returns
    exact ⟨ret_int_bool hr.out.symm H.out.symm, by refine Below.trans ?_ (hb1.mono ?_) <;> go_grown⟩
set_option maxHeartbeats 400000 in
theorem rrank_any (a b c : Int) (w : World) :
    Calls Tryd.prog 10 #[.agg #[.int .i64 a, .int .i64 b, .int .i64 c]] w fun e w' => e = .returned (.tuple #[.int .i64 (V.rank a b c), .bool (V.may a b c)]) ∧ Below w.heap.size w w' := by
  by_cases h : V.may a b c = true
  · have hb := V.may_iff.1 h
    have hr := Lib.hid (V.rank_yes h)
    have H := Lib.hid h
    clear h
    go_enter Tryd.func10, Tryd.ntmps10
    go_wp2_with fail
    refine (rmay_any _ _ _ _).mono ?_
    rintro e w1 ⟨rfl, hb1⟩
    rw [H.out]
    obtain ⟨hc, hf⟩ := bcell hb1
    have hz := hb1.size
    simp at hz
    go_wp2
    go_returns
    exact ⟨ret_int_bool hr.out.symm H.out.symm, by refine Below.trans ?_ (hb1.mono ?_) <;> go_grown⟩
  · have H := Lib.hid (Bool.eq_false_iff.2 h)
    have hr := Lib.hid (V.rank_no H.out)
    clear h
    go_enter Tryd.func10, Tryd.ntmps10
    go_wp2_with fail
    refine (rmay_any _ _ _ _).mono ?_
    rintro e w1 ⟨rfl, hb1⟩
    rw [H.out]
    go_wp2
    go_returns
    exact ⟨ret_int_bool hr.out.symm H.out.symm, by refine Below.trans ?_ (hb1.mono ?_) <;> go_grown⟩
def V.atOk (n : Int) : Bool := decide (0 ≤ n) && decide (n ≤ 999999999)
theorem V.atOk_iff {n : Int} : V.atOk n = true ↔ 0 ≤ n ∧ n ≤ 999999999 := by simp [V.atOk]
def V.atA (n : Int) : Int := if V.atOk n = true then n / 1000000 else 0
def V.atB (n : Int) : Int := if V.atOk n = true then n / 1000 % 1000 else 0
def V.atC (n : Int) : Int := if V.atOk n = true then n % 1000 else 0
theorem V.at_no {n : Int} (h : V.atOk n = false) : V.atA n = 0 ∧ V.atB n = 0 ∧ V.atC n = 0 := by simp [V.atA, V.atB, V.atC, h]
theorem V.at_yes {n : Int} (h : V.atOk n = true) : V.atA n = n / 1000000 ∧ V.atB n = n / 1000 % 1000 ∧ V.atC n = n % 1000 := by simp [V.atA, V.atB, V.atC, h]
set_option maxHeartbeats 400000 in
theorem at_any (n : Int) (w : World) :
    Calls Tryd.prog 11 #[.int .i64 n] w fun e w' => e = .returned (.tuple #[.agg #[.int .i64 (V.atA n), .int .i64 (V.atB n), .int .i64 (V.atC n)], .bool (V.atOk n)]) ∧ Below w.heap.size w w' := by
  by_cases h : V.atOk n = true
  · have hb := V.atOk_iff.1 h
    have hr := Lib.hid (V.at_yes h)
    have H := Lib.hid h
    clear h
    go_enter Tryd.func11, Tryd.ntmps11
    go_wp2
    go_returns
    exact ⟨ret_ver (by have := hr.out.1; omega) (by have := hr.out.2.1; omega) (by have := hr.out.2.2; omega) H.out.symm, by go_grown⟩
  · have hr := Lib.hid (V.at_no (Bool.eq_false_iff.2 h))
    have H := Lib.hid (Bool.eq_false_iff.2 h)
    have hb : ¬ (0 ≤ n ∧ n ≤ 999999999) := fun hh => h (V.atOk_iff.2 hh)
    clear h
    by_cases h0 : n < 0
    all_goals
      go_enter Tryd.func11, Tryd.ntmps11
      go_wp2
      go_returns
      exact ⟨ret_ver hr.out.1.symm hr.out.2.1.symm hr.out.2.2.symm H.out.symm, by go_grown⟩
set_option maxHeartbeats 400000 in
theorem rat_any (n : Int) (w : World) :
    Calls Tryd.prog 12 #[.int .i64 n] w fun e w' => e = .returned (.tuple #[.agg #[.int .i64 (V.atA n), .int .i64 (V.atB n), .int .i64 (V.atC n)], .bool (V.atOk n)]) ∧ Below w.heap.size w w' := by
  by_cases h : V.atOk n = true
  · have hb := V.atOk_iff.1 h
    have hr := Lib.hid (V.at_yes h)
    have H := Lib.hid h
    clear h
    go_enter Tryd.func12, Tryd.ntmps12
    go_wp2
    go_returns
    exact ⟨ret_ver (by have := hr.out.1; omega) (by have := hr.out.2.1; omega) (by have := hr.out.2.2; omega) H.out.symm, by go_grown⟩
  · have hr := Lib.hid (V.at_no (Bool.eq_false_iff.2 h))
    have H := Lib.hid (Bool.eq_false_iff.2 h)
    have hb : ¬ (0 ≤ n ∧ n ≤ 999999999) := fun hh => h (V.atOk_iff.2 hh)
    clear h
    by_cases h0 : n < 0
    all_goals
      go_enter Tryd.func12, Tryd.ntmps12
      go_wp2
      go_returns
      exact ⟨ret_ver hr.out.1.symm hr.out.2.1.symm hr.out.2.2.symm H.out.symm, by go_grown⟩
end Go.Proofs.YthbepoeohjddnaaDoor
