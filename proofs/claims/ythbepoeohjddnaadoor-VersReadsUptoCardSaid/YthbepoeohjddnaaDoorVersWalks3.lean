/- The walks of versions: Next and Prev of the program and of the document. -/
import Derived.Test.YthbepoeohjddnaaDoorVersWalks2
import Derived.Test.YthbepoeohjddnaaDoorVersEq
namespace Go.Proofs.YthbepoeohjddnaaDoor
open Go.RowKit
set_option linter.unusedSimpArgs false
set_option linter.unusedVariables false
/-- The place behind a version, ahead of it; -1 if there is none to ask. -/
def V.nx (a b c : Int) : Int := if V.may a b c = true then (a * 1000 + b) * 1000 + c + 1 else -1
def V.pv (a b c : Int) : Int := if V.may a b c = true then (a * 1000 + b) * 1000 + c - 1 else -1
theorem V.atOk_neg {n : Int} (h : n < 0) : V.atOk n = false := Bool.eq_false_iff.2 fun k => by have := V.atOk_iff.1 k; omega
theorem V.atOk_big {n : Int} (h : 999999999 < n) : V.atOk n = false := Bool.eq_false_iff.2 fun k => by have := V.atOk_iff.1 k; omega
theorem ret_at_no {n : Int} (h : V.atOk n = false) : Ending.returned (.tuple #[.agg #[.int .i64 0, .int .i64 0, .int .i64 0], .bool false]) = .returned (.tuple #[.agg #[.int .i64 (V.atA n), .int .i64 (V.atB n), .int .i64 (V.atC n)], .bool (V.atOk n)]) := by
  obtain ⟨h1, h2, h3⟩ := V.at_no h
  rw [h1, h2, h3, h]
set_option maxHeartbeats 400000 in
theorem next_any (a b c : Int) (w : World) :
    Calls Tryd.prog 13 #[.agg #[.int .i64 a, .int .i64 b, .int .i64 c]] w fun e w' => e = .returned (.tuple #[.agg #[.int .i64 (V.atA (V.nx a b c)), .int .i64 (V.atB (V.nx a b c)), .int .i64 (V.atC (V.nx a b c))], .bool (V.atOk (V.nx a b c))]) ∧ Below w.heap.size w w' := by
  by_cases h : V.may a b c = true
  · have hb := V.may_iff.1 h
    have hr := Lib.hid (V.rank_yes h)
    have H := Lib.hid h
    have hn : Hid (V.nx a b c = (a * 1000 + b) * 1000 + c + 1) := Lib.hid (if_pos h)
    clear h
    by_cases hm : a = 999 ∧ b = 999 ∧ c = 999
    · obtain ⟨rfl, rfl, rfl⟩ := hm
      go_enter Tryd.func13, Tryd.ntmps13
      go_wp2_with fail
      refine (rank_any _ _ _ _).mono ?_
      rintro e w1 ⟨rfl, hb1⟩
      rw [H.out, hr.out]
      obtain ⟨hc, hf⟩ := bcell hb1
      have hz : w.heap.size < w1.heap.size := by have := hb1.size; simp at this; omega
      have hz' : w.heap.size + 1 < w1.heap.size := by have := hb1.size; simp at this; omega
      go_wp2_with fail
      refine bodyPost_ret (v := .tuple #[.agg #[.int .i64 0, .int .i64 0, .int .i64 0], .bool false]) (by simp [results, Tryd.results13, go_sem, hc, hf, hz, hz']) rfl ?_
      refine ⟨ret_at_no (by rw [hn.out]; exact V.atOk_big (by omega)), ?_⟩
      have B1 : Below w.heap.size w w1 := by refine Below.trans ?_ (hb1.mono ?_) <;> go_grown
      go_grown
    · have hs := V.same_no hm
      clear hm
      go_enter Tryd.func13, Tryd.ntmps13
      go_wp2_with fail
      refine (rank_any _ _ _ _).mono ?_
      rintro e w1 ⟨rfl, hb1⟩
      rw [H.out, hr.out]
      obtain ⟨hc, hf⟩ := bcell hb1
      have hz : w.heap.size < w1.heap.size := by have := hb1.size; simp at this; omega
      have hz' : w.heap.size + 1 < w1.heap.size := by have := hb1.size; simp at this; omega
      go_wp2_with fail
      refine (at_any _ _).mono ?_
      rintro e w2 ⟨rfl, hb2⟩
      obtain ⟨hc2, hf2⟩ := bcell hb2
      have hz2 : w.heap.size + 1 < w2.heap.size := by have := hb2.size; omega
      go_wp2_with fail
      refine bodyPost_ret (v := .tuple #[.agg #[.int .i64 (V.atA ((a * 1000 + b) * 1000 + c + 1)), .int .i64 (V.atB ((a * 1000 + b) * 1000 + c + 1)), .int .i64 (V.atC ((a * 1000 + b) * 1000 + c + 1))], .bool (V.atOk ((a * 1000 + b) * 1000 + c + 1))]) (by simp [results, Tryd.results13, go_sem, hc2, hf2, hc, hf, hz2, hz, hz']) rfl ?_
      refine ⟨by rw [hn.out], ?_⟩
      have B1 : Below w.heap.size w w1 := by refine Below.trans ?_ (hb1.mono ?_) <;> go_grown
      have B2 : Below w.heap.size w w2 := by refine Below.trans ?_ (hb2.mono ?_) <;> go_grown
      go_grown
  · have H := Lib.hid (Bool.eq_false_iff.2 h)
    have hr := Lib.hid (V.rank_no H.out)
    have hn : Hid (V.nx a b c = -1) := Lib.hid (if_neg h)
    clear h
    go_enter Tryd.func13, Tryd.ntmps13
    go_wp2_with fail
    refine (rank_any _ _ _ _).mono ?_
    rintro e w1 ⟨rfl, hb1⟩
    rw [H.out, hr.out]
    obtain ⟨hc, hf⟩ := bcell hb1
    have hz : w.heap.size < w1.heap.size := by have := hb1.size; simp at this; omega
    have hz' : w.heap.size + 1 < w1.heap.size := by have := hb1.size; simp at this; omega
    go_wp2_with fail
    refine bodyPost_ret (v := .tuple #[.agg #[.int .i64 0, .int .i64 0, .int .i64 0], .bool false]) (by simp [results, Tryd.results13, go_sem, hc, hf, hz, hz']) rfl ?_
    refine ⟨ret_at_no (by rw [hn.out]; exact V.atOk_neg (by omega)), ?_⟩
    have B1 : Below w.heap.size w w1 := by refine Below.trans ?_ (hb1.mono ?_) <;> go_grown
    go_grown
set_option maxHeartbeats 400000 in
theorem prev_any (a b c : Int) (w : World) :
    Calls Tryd.prog 15 #[.agg #[.int .i64 a, .int .i64 b, .int .i64 c]] w fun e w' => e = .returned (.tuple #[.agg #[.int .i64 (V.atA (V.pv a b c)), .int .i64 (V.atB (V.pv a b c)), .int .i64 (V.atC (V.pv a b c))], .bool (V.atOk (V.pv a b c))]) ∧ Below w.heap.size w w' := by
  by_cases h : V.may a b c = true
  · have hb := V.may_iff.1 h
    have hr := Lib.hid (V.rank_yes h)
    have H := Lib.hid h
    have hn : Hid (V.pv a b c = (a * 1000 + b) * 1000 + c - 1) := Lib.hid (if_pos h)
    clear h
    by_cases hm : a = 0 ∧ b = 0 ∧ c = 0
    · obtain ⟨rfl, rfl, rfl⟩ := hm
      go_enter Tryd.func15, Tryd.ntmps15
      go_wp2_with fail
      refine (rank_any _ _ _ _).mono ?_
      rintro e w1 ⟨rfl, hb1⟩
      rw [H.out, hr.out]
      obtain ⟨hc, hf⟩ := bcell hb1
      have hz : w.heap.size < w1.heap.size := by have := hb1.size; simp at this; omega
      have hz' : w.heap.size + 1 < w1.heap.size := by have := hb1.size; simp at this; omega
      go_wp2_with fail
      refine bodyPost_ret (v := .tuple #[.agg #[.int .i64 0, .int .i64 0, .int .i64 0], .bool false]) (by simp [results, Tryd.results15, go_sem, hc, hf, hz, hz']) rfl ?_
      refine ⟨ret_at_no (by rw [hn.out]; exact V.atOk_neg (by omega)), ?_⟩
      have B1 : Below w.heap.size w w1 := by refine Below.trans ?_ (hb1.mono ?_) <;> go_grown
      go_grown
    · have hs := V.same_no hm
      clear hm
      go_enter Tryd.func15, Tryd.ntmps15
      go_wp2_with fail
      refine (rank_any _ _ _ _).mono ?_
      rintro e w1 ⟨rfl, hb1⟩
      rw [H.out, hr.out]
      obtain ⟨hc, hf⟩ := bcell hb1
      have hz : w.heap.size < w1.heap.size := by have := hb1.size; simp at this; omega
      have hz' : w.heap.size + 1 < w1.heap.size := by have := hb1.size; simp at this; omega
      go_wp2_with fail
      refine (at_any _ _).mono ?_
      rintro e w2 ⟨rfl, hb2⟩
      obtain ⟨hc2, hf2⟩ := bcell hb2
      have hz2 : w.heap.size + 1 < w2.heap.size := by have := hb2.size; omega
      go_wp2_with fail
      refine bodyPost_ret (v := .tuple #[.agg #[.int .i64 (V.atA ((a * 1000 + b) * 1000 + c - 1)), .int .i64 (V.atB ((a * 1000 + b) * 1000 + c - 1)), .int .i64 (V.atC ((a * 1000 + b) * 1000 + c - 1))], .bool (V.atOk ((a * 1000 + b) * 1000 + c - 1))]) (by simp [results, Tryd.results15, go_sem, hc2, hf2, hc, hf, hz2, hz, hz']) rfl ?_
      refine ⟨by rw [hn.out], ?_⟩
      have B1 : Below w.heap.size w w1 := by refine Below.trans ?_ (hb1.mono ?_) <;> go_grown
      have B2 : Below w.heap.size w w2 := by refine Below.trans ?_ (hb2.mono ?_) <;> go_grown
      go_grown
  · have H := Lib.hid (Bool.eq_false_iff.2 h)
    have hr := Lib.hid (V.rank_no H.out)
    have hn : Hid (V.pv a b c = -1) := Lib.hid (if_neg h)
    clear h
    go_enter Tryd.func15, Tryd.ntmps15
    go_wp2_with fail
    refine (rank_any _ _ _ _).mono ?_
    rintro e w1 ⟨rfl, hb1⟩
    rw [H.out, hr.out]
    obtain ⟨hc, hf⟩ := bcell hb1
    have hz : w.heap.size < w1.heap.size := by have := hb1.size; simp at this; omega
    have hz' : w.heap.size + 1 < w1.heap.size := by have := hb1.size; simp at this; omega
    go_wp2_with fail
    refine bodyPost_ret (v := .tuple #[.agg #[.int .i64 0, .int .i64 0, .int .i64 0], .bool false]) (by simp [results, Tryd.results15, go_sem, hc, hf, hz, hz']) rfl ?_
    refine ⟨ret_at_no (by rw [hn.out]; exact V.atOk_neg (by omega)), ?_⟩
    have B1 : Below w.heap.size w w1 := by refine Below.trans ?_ (hb1.mono ?_) <;> go_grown
    go_grown
set_option maxHeartbeats 400000 in
theorem rnext_any (a b c : Int) (w : World) :
    Calls Tryd.prog 14 #[.agg #[.int .i64 a, .int .i64 b, .int .i64 c]] w fun e w' => e = .returned (.tuple #[.agg #[.int .i64 (V.atA (V.nx a b c)), .int .i64 (V.atB (V.nx a b c)), .int .i64 (V.atC (V.nx a b c))], .bool (V.atOk (V.nx a b c))]) ∧ Below w.heap.size w w' := by
  by_cases h : V.may a b c = true
  · have hb := V.may_iff.1 h
    have hr := Lib.hid (V.rank_yes h)
    have H := Lib.hid h
    have hn : Hid (V.nx a b c = (a * 1000 + b) * 1000 + c + 1) := Lib.hid (if_pos h)
    clear h
    go_enter Tryd.func14, Tryd.ntmps14
    go_wp2_with fail
    refine (rrank_any _ _ _ _).mono ?_
    rintro e w1 ⟨rfl, hb1⟩
    rw [H.out, hr.out]
    obtain ⟨hc, hf⟩ := bcell hb1
    have hz : w.heap.size < w1.heap.size := by have := hb1.size; simp at this; omega
    have hz' : w.heap.size + 1 < w1.heap.size := by have := hb1.size; simp at this; omega
    go_wp2_with fail
    refine (rat_any _ _).mono ?_
    rintro e w2 ⟨rfl, hb2⟩
    obtain ⟨hc2, hf2⟩ := bcell hb2
    have hz2 : w.heap.size + 1 < w2.heap.size := by have := hb2.size; omega
    go_wp2_with fail
    refine bodyPost_ret (v := .tuple #[.agg #[.int .i64 (V.atA ((a * 1000 + b) * 1000 + c + 1)), .int .i64 (V.atB ((a * 1000 + b) * 1000 + c + 1)), .int .i64 (V.atC ((a * 1000 + b) * 1000 + c + 1))], .bool (V.atOk ((a * 1000 + b) * 1000 + c + 1))]) (by simp [results, Tryd.results14, go_sem, hc2, hf2, hc, hf, hz2, hz, hz']) rfl ?_
    refine ⟨by rw [hn.out], ?_⟩
    have B1 : Below w.heap.size w w1 := by refine Below.trans ?_ (hb1.mono ?_) <;> go_grown
    have B2 : Below w.heap.size w w2 := by refine Below.trans ?_ (hb2.mono ?_) <;> go_grown
    go_grown
  · have H := Lib.hid (Bool.eq_false_iff.2 h)
    have hr := Lib.hid (V.rank_no H.out)
    have hn : Hid (V.nx a b c = -1) := Lib.hid (if_neg h)
    clear h
    go_enter Tryd.func14, Tryd.ntmps14
    go_wp2_with fail
    refine (rrank_any _ _ _ _).mono ?_
    rintro e w1 ⟨rfl, hb1⟩
    rw [H.out, hr.out]
    obtain ⟨hc, hf⟩ := bcell hb1
    have hz : w.heap.size < w1.heap.size := by have := hb1.size; simp at this; omega
    have hz' : w.heap.size + 1 < w1.heap.size := by have := hb1.size; simp at this; omega
    go_wp2_with fail
    refine bodyPost_ret (v := .tuple #[.agg #[.int .i64 0, .int .i64 0, .int .i64 0], .bool false]) (by simp [results, Tryd.results14, go_sem, hc, hf, hz, hz']) rfl ?_
    refine ⟨ret_at_no (by rw [hn.out]; exact V.atOk_neg (by omega)), ?_⟩
    have B1 : Below w.heap.size w w1 := by refine Below.trans ?_ (hb1.mono ?_) <;> go_grown
    go_grown
set_option maxHeartbeats 400000 in
theorem rprev_any (a b c : Int) (w : World) :
    Calls Tryd.prog 16 #[.agg #[.int .i64 a, .int .i64 b, .int .i64 c]] w fun e w' => e = .returned (.tuple #[.agg #[.int .i64 (V.atA (V.pv a b c)), .int .i64 (V.atB (V.pv a b c)), .int .i64 (V.atC (V.pv a b c))], .bool (V.atOk (V.pv a b c))]) ∧ Below w.heap.size w w' := by
  by_cases h : V.may a b c = true
  · have hb := V.may_iff.1 h
    have hr := Lib.hid (V.rank_yes h)
    have H := Lib.hid h
    have hn : Hid (V.pv a b c = (a * 1000 + b) * 1000 + c - 1) := Lib.hid (if_pos h)
    clear h
    go_enter Tryd.func16, Tryd.ntmps16
    go_wp2_with fail
    refine (rrank_any _ _ _ _).mono ?_
    rintro e w1 ⟨rfl, hb1⟩
    rw [H.out, hr.out]
    obtain ⟨hc, hf⟩ := bcell hb1
    have hz : w.heap.size < w1.heap.size := by have := hb1.size; simp at this; omega
    have hz' : w.heap.size + 1 < w1.heap.size := by have := hb1.size; simp at this; omega
    go_wp2_with fail
    refine (rat_any _ _).mono ?_
    rintro e w2 ⟨rfl, hb2⟩
    obtain ⟨hc2, hf2⟩ := bcell hb2
    have hz2 : w.heap.size + 1 < w2.heap.size := by have := hb2.size; omega
    go_wp2_with fail
    refine bodyPost_ret (v := .tuple #[.agg #[.int .i64 (V.atA ((a * 1000 + b) * 1000 + c - 1)), .int .i64 (V.atB ((a * 1000 + b) * 1000 + c - 1)), .int .i64 (V.atC ((a * 1000 + b) * 1000 + c - 1))], .bool (V.atOk ((a * 1000 + b) * 1000 + c - 1))]) (by simp [results, Tryd.results16, go_sem, hc2, hf2, hc, hf, hz2, hz, hz']) rfl ?_
    refine ⟨by rw [hn.out], ?_⟩
    have B1 : Below w.heap.size w w1 := by refine Below.trans ?_ (hb1.mono ?_) <;> go_grown
    have B2 : Below w.heap.size w w2 := by refine Below.trans ?_ (hb2.mono ?_) <;> go_grown
    go_grown
  · have H := Lib.hid (Bool.eq_false_iff.2 h)
    have hr := Lib.hid (V.rank_no H.out)
    have hn : Hid (V.pv a b c = -1) := Lib.hid (if_neg h)
    clear h
    go_enter Tryd.func16, Tryd.ntmps16
    go_wp2_with fail
    refine (rrank_any _ _ _ _).mono ?_
    rintro e w1 ⟨rfl, hb1⟩
    rw [H.out, hr.out]
    obtain ⟨hc, hf⟩ := bcell hb1
    have hz : w.heap.size < w1.heap.size := by have := hb1.size; simp at this; omega
    have hz' : w.heap.size + 1 < w1.heap.size := by have := hb1.size; simp at this; omega
    go_wp2_with fail
    refine bodyPost_ret (v := .tuple #[.agg #[.int .i64 0, .int .i64 0, .int .i64 0], .bool false]) (by simp [results, Tryd.results16, go_sem, hc, hf, hz, hz']) rfl ?_
    refine ⟨ret_at_no (by rw [hn.out]; exact V.atOk_neg (by omega)), ?_⟩
    have B1 : Below w.heap.size w w1 := by refine Below.trans ?_ (hb1.mono ?_) <;> go_grown
    go_grown
end Go.Proofs.YthbepoeohjddnaaDoor
