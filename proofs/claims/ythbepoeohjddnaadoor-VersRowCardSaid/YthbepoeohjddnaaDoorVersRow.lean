/- The walk of the statement VersRow. -/
import Derived.Test.YthbepoeohjddnaaDoorVersKnown
import Derived.Test.YthbepoeohjddnaaDoorVersLaws
namespace Go.Proofs.YthbepoeohjddnaaDoor
open Go.RowKit
set_option linter.unusedSimpArgs false
set_option linter.unusedVariables false
@[go_sem high] theorem verGuardN (w : World) (x y : Operand) (xs ys : Array Value) : (eqGuard .neq 23 x y (.agg xs) (.agg ys)).run Tryd.prog w = .ok () w :=
  run_eqGuard_agg w .neq 23 x y xs ys (by kernel_rfl)
@[go_sem high] theorem verNeq (w : World) (a b c a' b' c' : Int) : (binOp .neq 23 (.agg #[.int .i64 a, .int .i64 b, .int .i64 c]) (.agg #[.int .i64 a', .int .i64 b', .int .i64 c'])).run Tryd.prog w = .ok (.bool (!V.same a b c a' b' c')) w := by
  rw [run_neq_struct, verEqual]
  rfl
theorem V.same_refl (a b c : Int) : V.same a b c a b c = true := V.same_iff.2 ⟨rfl, rfl, rfl⟩
set_option maxHeartbeats 4000000 in
set_option maxRecDepth 100000 in
theorem row_no (a b c x y z : Int) (w : World) (m2 : Bool) (h1 : V.may a b c = false) (h2 : V.may x y z = m2) :
    Calls Tryd.prog 5 #[.agg #[.int .i64 a, .int .i64 b, .int .i64 c], .agg #[.int .i64 x, .int .i64 y, .int .i64 z]] w fun e w' => e = .returned (.bool true) ∧ Below w.heap.size w w' := by
  have hk := V.cmp_bd a b c x y z
  have hs := V.same_cmp a b c x y z
  have HN : Hid (V.cmp x y z a b c = - V.cmp a b c x y z) := Lib.hid (V.cmp_neg a b c x y z)
  have hkk : ∃ k, V.cmp a b c x y z = k := ⟨_, rfl⟩
  obtain ⟨k, hkk⟩ := hkk
  rw [hkk] at hk hs HN
  have HK := Lib.hid hkk
  have H1 := Lib.hid h1
  have R1 := Lib.hid (V.rank_no h1)
  have H2 : Hid (V.may x y z = m2) := Lib.hid h2
  have R2 : ∃ r, Hid (V.rank x y z = r) := ⟨_, Lib.hid rfl⟩
  obtain ⟨r2, R2⟩ := R2
  clear h1 h2 hkk
  go_enter Tryd.func5, Tryd.ntmps5
  go_wp2_with fail
  refine (rank_any _ _ _ _).mono ?_
  rintro e w1 ⟨rfl, hb1⟩
  rw [H1.out, R1.out]
  have B1 : Below w.heap.size w w1 := by refine Below.trans ?_ (hb1.mono ?_) <;> go_grown
  obtain ⟨hc1, hf1⟩ := bcell hb1
  have hz10 : w.heap.size < w1.heap.size := by have := hb1.size; (try simp at this); omega
  have hz11 : w.heap.size + 1 < w1.heap.size := by have := hb1.size; (try simp at this); omega
  clear hb1
  go_wp2_with fail
  refine (rank_any _ _ _ _).mono ?_
  rintro e w2 ⟨rfl, hb2⟩
  rw [H2.out, R2.out]
  have B2 : Below w.heap.size w w2 := by refine Below.trans ?_ (hb2.mono ?_) <;> go_grown
  clear B1
  obtain ⟨hc2, hf2⟩ := bcell hb2
  have hz20 : w.heap.size < w2.heap.size := by have := hb2.size; (try simp at this); omega
  have hz21 : w.heap.size + 1 < w2.heap.size := by have := hb2.size; (try simp at this); omega
  clear hb2
  go_wp2_with fail
  refine (compare_any _ _ _ _ _ _ _).mono ?_
  rintro e w3 ⟨rfl, hb3⟩
  rw [HK.out]
  have B3 : Below w.heap.size w w3 := by refine Below.trans ?_ (hb3.mono ?_) <;> go_grown
  clear B2
  obtain ⟨hc3, hf3⟩ := bcell hb3
  have hz30 : w.heap.size < w3.heap.size := by have := hb3.size; (try simp at this); omega
  have hz31 : w.heap.size + 1 < w3.heap.size := by have := hb3.size; (try simp at this); omega
  clear hb3
  go_wp2_with fail
  refine (known_true _).mono ?_
  rintro e w4 ⟨rfl, hb4⟩
  have B4 : Below w.heap.size w w4 := by refine Below.trans ?_ (hb4.mono ?_) <;> go_grown
  clear B3
  obtain ⟨hc4, hf4⟩ := bcell hb4
  have hz40 : w.heap.size < w4.heap.size := by have := hb4.size; (try simp at this); omega
  have hz41 : w.heap.size + 1 < w4.heap.size := by have := hb4.size; (try simp at this); omega
  clear hb4
  go_wp2_with fail
  refine (compare_any _ _ _ _ _ _ _).mono ?_
  rintro e w5 ⟨rfl, hb5⟩
  rw [HN.out]
  have B5 : Below w.heap.size w w5 := by refine Below.trans ?_ (hb5.mono ?_) <;> go_grown
  clear B4
  obtain ⟨hc5, hf5⟩ := bcell hb5
  have hz50 : w.heap.size < w5.heap.size := by have := hb5.size; (try simp at this); omega
  have hz51 : w.heap.size + 1 < w5.heap.size := by have := hb5.size; (try simp at this); omega
  clear hb5
  go_wp2_with fail
  refine (may_any _ _ _ _).mono ?_
  rintro e w6 ⟨rfl, hb6⟩
  rw [H1.out]
  have B6 : Below w.heap.size w w6 := by refine Below.trans ?_ (hb6.mono ?_) <;> go_grown
  clear B5
  obtain ⟨hc6, hf6⟩ := bcell hb6
  have hz60 : w.heap.size < w6.heap.size := by have := hb6.size; (try simp at this); omega
  have hz61 : w.heap.size + 1 < w6.heap.size := by have := hb6.size; (try simp at this); omega
  clear hb6
  go_wp2_with fail
  go_returns
  exact ⟨rfl, by go_grown⟩
set_option maxHeartbeats 4000000 in
set_option maxRecDepth 100000 in
theorem row_pos_yes (a b c x y z : Int) (w : World) (h1 : V.may a b c = true) (h2 : V.may x y z = true) (hp : 0 < V.rank a b c) :
    Calls Tryd.prog 5 #[.agg #[.int .i64 a, .int .i64 b, .int .i64 c], .agg #[.int .i64 x, .int .i64 y, .int .i64 z]] w fun e w' => e = .returned (.bool true) ∧ Below w.heap.size w w' := by
  have hk := V.cmp_bd a b c x y z
  have hs := V.same_cmp a b c x y z
  have HN : Hid (V.cmp x y z a b c = - V.cmp a b c x y z) := Lib.hid (V.cmp_neg a b c x y z)
  have hkk : ∃ k, V.cmp a b c x y z = k := ⟨_, rfl⟩
  obtain ⟨k, hkk⟩ := hkk
  rw [hkk] at hk hs HN
  have HK := Lib.hid hkk
  have hm := V.rank_bd h1
  have ha := V.at_rank h1
  have hlt : decide (k < 0) = decide (V.rank a b c < V.rank x y z) := by rw [← hkk, decide_eq_decide]; exact V.rank_lt h1 h2
  have hpv : V.pv a b c = V.rank a b c - 1 := V.pv_yes h1
  have hok : V.atOk (V.pv a b c) = true := V.atOk_iff.2 (by rw [hpv]; omega)
  have hnx : V.nx (V.atA (V.pv a b c)) (V.atB (V.pv a b c)) (V.atC (V.pv a b c)) = V.rank a b c := by rw [V.nx_yes (V.may_at hok), V.rank_at hok, hpv]; omega
  have hlast : V.cmp (V.atA (V.pv a b c)) (V.atB (V.pv a b c)) (V.atC (V.pv a b c)) a b c = -1 := by
    have h3 := (V.rank_lt (V.may_at hok) h1).2 (by rw [V.rank_at hok, hpv]; omega)
    have := V.cmp_bd (V.atA (V.pv a b c)) (V.atB (V.pv a b c)) (V.atC (V.pv a b c)) a b c
    omega
  have H1 := Lib.hid h1
  have R1 : ∃ r, Hid (V.rank a b c = r) := ⟨_, Lib.hid rfl⟩
  obtain ⟨r1, R1⟩ := R1
  have H2 := Lib.hid h2
  have R2 : ∃ r, Hid (V.rank x y z = r) := ⟨_, Lib.hid rfl⟩
  obtain ⟨r2, R2⟩ := R2
  rw [R1.out] at hm ha hp hnx hlt
  rw [R2.out] at hlt
  have HA := Lib.hid ha
  have HO := Lib.hid hok
  have HX := Lib.hid hnx
  have HL := Lib.hid hlast
  clear h1 h2 hkk ha hok hpv hnx hlast
  have hself := V.same_refl
  go_enter Tryd.func5, Tryd.ntmps5
  go_wp2_with fail
  refine (rank_any _ _ _ _).mono ?_
  rintro e w1 ⟨rfl, hb1⟩
  rw [H1.out, R1.out]
  have B1 : Below w.heap.size w w1 := by refine Below.trans ?_ (hb1.mono ?_) <;> go_grown
  obtain ⟨hc1, hf1⟩ := bcell hb1
  have hz10 : w.heap.size < w1.heap.size := by have := hb1.size; (try simp at this); omega
  have hz11 : w.heap.size + 1 < w1.heap.size := by have := hb1.size; (try simp at this); omega
  clear hb1
  go_wp2_with fail
  refine (rank_any _ _ _ _).mono ?_
  rintro e w2 ⟨rfl, hb2⟩
  rw [H2.out, R2.out]
  have B2 : Below w.heap.size w w2 := by refine Below.trans ?_ (hb2.mono ?_) <;> go_grown
  clear B1
  obtain ⟨hc2, hf2⟩ := bcell hb2
  have hz20 : w.heap.size < w2.heap.size := by have := hb2.size; (try simp at this); omega
  have hz21 : w.heap.size + 1 < w2.heap.size := by have := hb2.size; (try simp at this); omega
  clear hb2
  go_wp2_with fail
  refine (compare_any _ _ _ _ _ _ _).mono ?_
  rintro e w3 ⟨rfl, hb3⟩
  rw [HK.out]
  have B3 : Below w.heap.size w w3 := by refine Below.trans ?_ (hb3.mono ?_) <;> go_grown
  clear B2
  obtain ⟨hc3, hf3⟩ := bcell hb3
  have hz30 : w.heap.size < w3.heap.size := by have := hb3.size; (try simp at this); omega
  have hz31 : w.heap.size + 1 < w3.heap.size := by have := hb3.size; (try simp at this); omega
  clear hb3
  go_wp2_with fail
  refine (known_true _).mono ?_
  rintro e w4 ⟨rfl, hb4⟩
  have B4 : Below w.heap.size w w4 := by refine Below.trans ?_ (hb4.mono ?_) <;> go_grown
  clear B3
  obtain ⟨hc4, hf4⟩ := bcell hb4
  have hz40 : w.heap.size < w4.heap.size := by have := hb4.size; (try simp at this); omega
  have hz41 : w.heap.size + 1 < w4.heap.size := by have := hb4.size; (try simp at this); omega
  clear hb4
  go_wp2_with fail
  refine (compare_any _ _ _ _ _ _ _).mono ?_
  rintro e w5 ⟨rfl, hb5⟩
  rw [HN.out]
  have B5 : Below w.heap.size w w5 := by refine Below.trans ?_ (hb5.mono ?_) <;> go_grown
  clear B4
  obtain ⟨hc5, hf5⟩ := bcell hb5
  have hz50 : w.heap.size < w5.heap.size := by have := hb5.size; (try simp at this); omega
  have hz51 : w.heap.size + 1 < w5.heap.size := by have := hb5.size; (try simp at this); omega
  clear hb5
  go_wp2_with fail
  refine (may_any _ _ _ _).mono ?_
  rintro e w6 ⟨rfl, hb6⟩
  rw [H1.out]
  have B6 : Below w.heap.size w w6 := by refine Below.trans ?_ (hb6.mono ?_) <;> go_grown
  clear B5
  obtain ⟨hc6, hf6⟩ := bcell hb6
  have hz60 : w.heap.size < w6.heap.size := by have := hb6.size; (try simp at this); omega
  have hz61 : w.heap.size + 1 < w6.heap.size := by have := hb6.size; (try simp at this); omega
  clear hb6
  go_wp2_with fail
  refine (at_any _ _).mono ?_
  rintro e w7 ⟨rfl, hb7⟩
  rw [HA.out.1, HA.out.2.1, HA.out.2.2.1, HA.out.2.2.2]
  have B7 : Below w.heap.size w w7 := by refine Below.trans ?_ (hb7.mono ?_) <;> go_grown
  clear B6
  obtain ⟨hc7, hf7⟩ := bcell hb7
  have hz70 : w.heap.size < w7.heap.size := by have := hb7.size; (try simp at this); omega
  have hz71 : w.heap.size + 1 < w7.heap.size := by have := hb7.size; (try simp at this); omega
  clear hb7
  go_wp2_with fail
  refine (prev_any _ _ _ _).mono ?_
  rintro e w8 ⟨rfl, hb8⟩
  rw [HO.out]
  have B8 : Below w.heap.size w w8 := by refine Below.trans ?_ (hb8.mono ?_) <;> go_grown
  clear B7
  obtain ⟨hc8, hf8⟩ := bcell hb8
  have hz80 : w.heap.size < w8.heap.size := by have := hb8.size; (try simp at this); omega
  have hz81 : w.heap.size + 1 < w8.heap.size := by have := hb8.size; (try simp at this); omega
  have hz82 : w7.heap.size < w8.heap.size := by have := hb8.size; (try simp at this); omega
  clear hb8
  go_wp2_with fail
  refine (next_any _ _ _ _).mono ?_
  rintro e w9 ⟨rfl, hb9⟩
  rw [HX.out, HA.out.1, HA.out.2.1, HA.out.2.2.1, HA.out.2.2.2]
  have B9 : Below w.heap.size w w9 := by refine Below.trans ?_ (hb9.mono ?_) <;> go_grown
  clear B8
  obtain ⟨hc9, hf9⟩ := bcell hb9
  have hz90 : w.heap.size < w9.heap.size := by have := hb9.size; (try simp at this); omega
  have hz91 : w.heap.size + 1 < w9.heap.size := by have := hb9.size; (try simp at this); omega
  have hz92 : w7.heap.size < w9.heap.size := by have := hb9.size; (try simp at this); omega
  have hz93 : w8.heap.size < w9.heap.size := by have := hb9.size; (try simp at this); omega
  clear hb9
  go_wp2_with fail
  refine (compare_any _ _ _ _ _ _ _).mono ?_
  rintro e w10 ⟨rfl, hb10⟩
  rw [HL.out]
  have B10 : Below w.heap.size w w10 := by refine Below.trans ?_ (hb10.mono ?_) <;> go_grown
  clear B9
  obtain ⟨hc10, hf10⟩ := bcell hb10
  have hz100 : w.heap.size < w10.heap.size := by have := hb10.size; (try simp at this); omega
  have hz101 : w.heap.size + 1 < w10.heap.size := by have := hb10.size; (try simp at this); omega
  have hz102 : w7.heap.size < w10.heap.size := by have := hb10.size; (try simp at this); omega
  have hz103 : w8.heap.size < w10.heap.size := by have := hb10.size; (try simp at this); omega
  have hz104 : w9.heap.size < w10.heap.size := by have := hb10.size; (try simp at this); omega
  clear hb10
  go_wp2_with fail
  go_returns
  exact ⟨rfl, by go_grown⟩
set_option maxHeartbeats 4000000 in
set_option maxRecDepth 100000 in
theorem row_pos_no (a b c x y z : Int) (w : World) (h1 : V.may a b c = true) (h2 : V.may x y z = false) (hp : 0 < V.rank a b c) :
    Calls Tryd.prog 5 #[.agg #[.int .i64 a, .int .i64 b, .int .i64 c], .agg #[.int .i64 x, .int .i64 y, .int .i64 z]] w fun e w' => e = .returned (.bool true) ∧ Below w.heap.size w w' := by
  have hk := V.cmp_bd a b c x y z
  have hs := V.same_cmp a b c x y z
  have HN : Hid (V.cmp x y z a b c = - V.cmp a b c x y z) := Lib.hid (V.cmp_neg a b c x y z)
  have hkk : ∃ k, V.cmp a b c x y z = k := ⟨_, rfl⟩
  obtain ⟨k, hkk⟩ := hkk
  rw [hkk] at hk hs HN
  have HK := Lib.hid hkk
  have hm := V.rank_bd h1
  have ha := V.at_rank h1
  have hpv : V.pv a b c = V.rank a b c - 1 := V.pv_yes h1
  have hok : V.atOk (V.pv a b c) = true := V.atOk_iff.2 (by rw [hpv]; omega)
  have hnx : V.nx (V.atA (V.pv a b c)) (V.atB (V.pv a b c)) (V.atC (V.pv a b c)) = V.rank a b c := by rw [V.nx_yes (V.may_at hok), V.rank_at hok, hpv]; omega
  have hlast : V.cmp (V.atA (V.pv a b c)) (V.atB (V.pv a b c)) (V.atC (V.pv a b c)) a b c = -1 := by
    have h3 := (V.rank_lt (V.may_at hok) h1).2 (by rw [V.rank_at hok, hpv]; omega)
    have := V.cmp_bd (V.atA (V.pv a b c)) (V.atB (V.pv a b c)) (V.atC (V.pv a b c)) a b c
    omega
  have H1 := Lib.hid h1
  have R1 : ∃ r, Hid (V.rank a b c = r) := ⟨_, Lib.hid rfl⟩
  obtain ⟨r1, R1⟩ := R1
  have H2 := Lib.hid h2
  have R2 : ∃ r, Hid (V.rank x y z = r) := ⟨_, Lib.hid rfl⟩
  obtain ⟨r2, R2⟩ := R2
  rw [R1.out] at hm ha hp hnx
  have HA := Lib.hid ha
  have HO := Lib.hid hok
  have HX := Lib.hid hnx
  have HL := Lib.hid hlast
  clear h1 h2 hkk ha hok hpv hnx hlast
  have hself := V.same_refl
  go_enter Tryd.func5, Tryd.ntmps5
  go_wp2_with fail
  refine (rank_any _ _ _ _).mono ?_
  rintro e w1 ⟨rfl, hb1⟩
  rw [H1.out, R1.out]
  have B1 : Below w.heap.size w w1 := by refine Below.trans ?_ (hb1.mono ?_) <;> go_grown
  obtain ⟨hc1, hf1⟩ := bcell hb1
  have hz10 : w.heap.size < w1.heap.size := by have := hb1.size; (try simp at this); omega
  have hz11 : w.heap.size + 1 < w1.heap.size := by have := hb1.size; (try simp at this); omega
  clear hb1
  go_wp2_with fail
  refine (rank_any _ _ _ _).mono ?_
  rintro e w2 ⟨rfl, hb2⟩
  rw [H2.out, R2.out]
  have B2 : Below w.heap.size w w2 := by refine Below.trans ?_ (hb2.mono ?_) <;> go_grown
  clear B1
  obtain ⟨hc2, hf2⟩ := bcell hb2
  have hz20 : w.heap.size < w2.heap.size := by have := hb2.size; (try simp at this); omega
  have hz21 : w.heap.size + 1 < w2.heap.size := by have := hb2.size; (try simp at this); omega
  clear hb2
  go_wp2_with fail
  refine (compare_any _ _ _ _ _ _ _).mono ?_
  rintro e w3 ⟨rfl, hb3⟩
  rw [HK.out]
  have B3 : Below w.heap.size w w3 := by refine Below.trans ?_ (hb3.mono ?_) <;> go_grown
  clear B2
  obtain ⟨hc3, hf3⟩ := bcell hb3
  have hz30 : w.heap.size < w3.heap.size := by have := hb3.size; (try simp at this); omega
  have hz31 : w.heap.size + 1 < w3.heap.size := by have := hb3.size; (try simp at this); omega
  clear hb3
  go_wp2_with fail
  refine (known_true _).mono ?_
  rintro e w4 ⟨rfl, hb4⟩
  have B4 : Below w.heap.size w w4 := by refine Below.trans ?_ (hb4.mono ?_) <;> go_grown
  clear B3
  obtain ⟨hc4, hf4⟩ := bcell hb4
  have hz40 : w.heap.size < w4.heap.size := by have := hb4.size; (try simp at this); omega
  have hz41 : w.heap.size + 1 < w4.heap.size := by have := hb4.size; (try simp at this); omega
  clear hb4
  go_wp2_with fail
  refine (compare_any _ _ _ _ _ _ _).mono ?_
  rintro e w5 ⟨rfl, hb5⟩
  rw [HN.out]
  have B5 : Below w.heap.size w w5 := by refine Below.trans ?_ (hb5.mono ?_) <;> go_grown
  clear B4
  obtain ⟨hc5, hf5⟩ := bcell hb5
  have hz50 : w.heap.size < w5.heap.size := by have := hb5.size; (try simp at this); omega
  have hz51 : w.heap.size + 1 < w5.heap.size := by have := hb5.size; (try simp at this); omega
  clear hb5
  go_wp2_with fail
  refine (may_any _ _ _ _).mono ?_
  rintro e w6 ⟨rfl, hb6⟩
  rw [H1.out]
  have B6 : Below w.heap.size w w6 := by refine Below.trans ?_ (hb6.mono ?_) <;> go_grown
  clear B5
  obtain ⟨hc6, hf6⟩ := bcell hb6
  have hz60 : w.heap.size < w6.heap.size := by have := hb6.size; (try simp at this); omega
  have hz61 : w.heap.size + 1 < w6.heap.size := by have := hb6.size; (try simp at this); omega
  clear hb6
  go_wp2_with fail
  refine (at_any _ _).mono ?_
  rintro e w7 ⟨rfl, hb7⟩
  rw [HA.out.1, HA.out.2.1, HA.out.2.2.1, HA.out.2.2.2]
  have B7 : Below w.heap.size w w7 := by refine Below.trans ?_ (hb7.mono ?_) <;> go_grown
  clear B6
  obtain ⟨hc7, hf7⟩ := bcell hb7
  have hz70 : w.heap.size < w7.heap.size := by have := hb7.size; (try simp at this); omega
  have hz71 : w.heap.size + 1 < w7.heap.size := by have := hb7.size; (try simp at this); omega
  clear hb7
  go_wp2_with fail
  refine (prev_any _ _ _ _).mono ?_
  rintro e w8 ⟨rfl, hb8⟩
  rw [HO.out]
  have B8 : Below w.heap.size w w8 := by refine Below.trans ?_ (hb8.mono ?_) <;> go_grown
  clear B7
  obtain ⟨hc8, hf8⟩ := bcell hb8
  have hz80 : w.heap.size < w8.heap.size := by have := hb8.size; (try simp at this); omega
  have hz81 : w.heap.size + 1 < w8.heap.size := by have := hb8.size; (try simp at this); omega
  have hz82 : w7.heap.size < w8.heap.size := by have := hb8.size; (try simp at this); omega
  clear hb8
  go_wp2_with fail
  refine (next_any _ _ _ _).mono ?_
  rintro e w9 ⟨rfl, hb9⟩
  rw [HX.out, HA.out.1, HA.out.2.1, HA.out.2.2.1, HA.out.2.2.2]
  have B9 : Below w.heap.size w w9 := by refine Below.trans ?_ (hb9.mono ?_) <;> go_grown
  clear B8
  obtain ⟨hc9, hf9⟩ := bcell hb9
  have hz90 : w.heap.size < w9.heap.size := by have := hb9.size; (try simp at this); omega
  have hz91 : w.heap.size + 1 < w9.heap.size := by have := hb9.size; (try simp at this); omega
  have hz92 : w7.heap.size < w9.heap.size := by have := hb9.size; (try simp at this); omega
  have hz93 : w8.heap.size < w9.heap.size := by have := hb9.size; (try simp at this); omega
  clear hb9
  go_wp2_with fail
  refine (compare_any _ _ _ _ _ _ _).mono ?_
  rintro e w10 ⟨rfl, hb10⟩
  rw [HL.out]
  have B10 : Below w.heap.size w w10 := by refine Below.trans ?_ (hb10.mono ?_) <;> go_grown
  clear B9
  obtain ⟨hc10, hf10⟩ := bcell hb10
  have hz100 : w.heap.size < w10.heap.size := by have := hb10.size; (try simp at this); omega
  have hz101 : w.heap.size + 1 < w10.heap.size := by have := hb10.size; (try simp at this); omega
  have hz102 : w7.heap.size < w10.heap.size := by have := hb10.size; (try simp at this); omega
  have hz103 : w8.heap.size < w10.heap.size := by have := hb10.size; (try simp at this); omega
  have hz104 : w9.heap.size < w10.heap.size := by have := hb10.size; (try simp at this); omega
  clear hb10
  go_wp2_with fail
  go_returns
  exact ⟨rfl, by go_grown⟩
set_option maxHeartbeats 4000000 in
set_option maxRecDepth 100000 in
theorem row_zero_yes (a b c x y z : Int) (w : World) (h1 : V.may a b c = true) (h2 : V.may x y z = true) (hp : V.rank a b c = 0) :
    Calls Tryd.prog 5 #[.agg #[.int .i64 a, .int .i64 b, .int .i64 c], .agg #[.int .i64 x, .int .i64 y, .int .i64 z]] w fun e w' => e = .returned (.bool true) ∧ Below w.heap.size w w' := by
  have hk := V.cmp_bd a b c x y z
  have hs := V.same_cmp a b c x y z
  have HN : Hid (V.cmp x y z a b c = - V.cmp a b c x y z) := Lib.hid (V.cmp_neg a b c x y z)
  have hkk : ∃ k, V.cmp a b c x y z = k := ⟨_, rfl⟩
  obtain ⟨k, hkk⟩ := hkk
  rw [hkk] at hk hs HN
  have HK := Lib.hid hkk
  have hm := V.rank_bd h1
  have ha := V.at_rank h1
  have hlt : decide (k < 0) = decide (V.rank a b c < V.rank x y z) := by rw [← hkk, decide_eq_decide]; exact V.rank_lt h1 h2
  have hpv : V.pv a b c = V.rank a b c - 1 := V.pv_yes h1
  have hok : V.atOk (V.pv a b c) = false := V.atOk_neg (by rw [hpv]; omega)
  have H1 := Lib.hid h1
  have R1 : ∃ r, Hid (V.rank a b c = r) := ⟨_, Lib.hid rfl⟩
  obtain ⟨r1, R1⟩ := R1
  have H2 := Lib.hid h2
  have R2 : ∃ r, Hid (V.rank x y z = r) := ⟨_, Lib.hid rfl⟩
  obtain ⟨r2, R2⟩ := R2
  rw [R1.out] at hm ha hp hlt
  rw [R2.out] at hlt
  subst hp
  have HA := Lib.hid ha
  have HO := Lib.hid hok
  clear h1 h2 hkk ha hok hpv
  have hself := V.same_refl
  go_enter Tryd.func5, Tryd.ntmps5
  go_wp2_with fail
  refine (rank_any _ _ _ _).mono ?_
  rintro e w1 ⟨rfl, hb1⟩
  rw [H1.out, R1.out]
  have B1 : Below w.heap.size w w1 := by refine Below.trans ?_ (hb1.mono ?_) <;> go_grown
  obtain ⟨hc1, hf1⟩ := bcell hb1
  have hz10 : w.heap.size < w1.heap.size := by have := hb1.size; (try simp at this); omega
  have hz11 : w.heap.size + 1 < w1.heap.size := by have := hb1.size; (try simp at this); omega
  clear hb1
  go_wp2_with fail
  refine (rank_any _ _ _ _).mono ?_
  rintro e w2 ⟨rfl, hb2⟩
  rw [H2.out, R2.out]
  have B2 : Below w.heap.size w w2 := by refine Below.trans ?_ (hb2.mono ?_) <;> go_grown
  clear B1
  obtain ⟨hc2, hf2⟩ := bcell hb2
  have hz20 : w.heap.size < w2.heap.size := by have := hb2.size; (try simp at this); omega
  have hz21 : w.heap.size + 1 < w2.heap.size := by have := hb2.size; (try simp at this); omega
  clear hb2
  go_wp2_with fail
  refine (compare_any _ _ _ _ _ _ _).mono ?_
  rintro e w3 ⟨rfl, hb3⟩
  rw [HK.out]
  have B3 : Below w.heap.size w w3 := by refine Below.trans ?_ (hb3.mono ?_) <;> go_grown
  clear B2
  obtain ⟨hc3, hf3⟩ := bcell hb3
  have hz30 : w.heap.size < w3.heap.size := by have := hb3.size; (try simp at this); omega
  have hz31 : w.heap.size + 1 < w3.heap.size := by have := hb3.size; (try simp at this); omega
  clear hb3
  go_wp2_with fail
  refine (known_true _).mono ?_
  rintro e w4 ⟨rfl, hb4⟩
  have B4 : Below w.heap.size w w4 := by refine Below.trans ?_ (hb4.mono ?_) <;> go_grown
  clear B3
  obtain ⟨hc4, hf4⟩ := bcell hb4
  have hz40 : w.heap.size < w4.heap.size := by have := hb4.size; (try simp at this); omega
  have hz41 : w.heap.size + 1 < w4.heap.size := by have := hb4.size; (try simp at this); omega
  clear hb4
  go_wp2_with fail
  refine (compare_any _ _ _ _ _ _ _).mono ?_
  rintro e w5 ⟨rfl, hb5⟩
  rw [HN.out]
  have B5 : Below w.heap.size w w5 := by refine Below.trans ?_ (hb5.mono ?_) <;> go_grown
  clear B4
  obtain ⟨hc5, hf5⟩ := bcell hb5
  have hz50 : w.heap.size < w5.heap.size := by have := hb5.size; (try simp at this); omega
  have hz51 : w.heap.size + 1 < w5.heap.size := by have := hb5.size; (try simp at this); omega
  clear hb5
  go_wp2_with fail
  refine (may_any _ _ _ _).mono ?_
  rintro e w6 ⟨rfl, hb6⟩
  rw [H1.out]
  have B6 : Below w.heap.size w w6 := by refine Below.trans ?_ (hb6.mono ?_) <;> go_grown
  clear B5
  obtain ⟨hc6, hf6⟩ := bcell hb6
  have hz60 : w.heap.size < w6.heap.size := by have := hb6.size; (try simp at this); omega
  have hz61 : w.heap.size + 1 < w6.heap.size := by have := hb6.size; (try simp at this); omega
  clear hb6
  go_wp2_with fail
  refine (at_any _ _).mono ?_
  rintro e w7 ⟨rfl, hb7⟩
  rw [HA.out.1, HA.out.2.1, HA.out.2.2.1, HA.out.2.2.2]
  have B7 : Below w.heap.size w w7 := by refine Below.trans ?_ (hb7.mono ?_) <;> go_grown
  clear B6
  obtain ⟨hc7, hf7⟩ := bcell hb7
  have hz70 : w.heap.size < w7.heap.size := by have := hb7.size; (try simp at this); omega
  have hz71 : w.heap.size + 1 < w7.heap.size := by have := hb7.size; (try simp at this); omega
  clear hb7
  go_wp2_with fail
  refine (prev_any _ _ _ _).mono ?_
  rintro e w8 ⟨rfl, hb8⟩
  rw [HO.out]
  have B8 : Below w.heap.size w w8 := by refine Below.trans ?_ (hb8.mono ?_) <;> go_grown
  clear B7
  obtain ⟨hc8, hf8⟩ := bcell hb8
  have hz80 : w.heap.size < w8.heap.size := by have := hb8.size; (try simp at this); omega
  have hz81 : w.heap.size + 1 < w8.heap.size := by have := hb8.size; (try simp at this); omega
  have hz82 : w7.heap.size < w8.heap.size := by have := hb8.size; (try simp at this); omega
  clear hb8
  go_wp2_with fail
  refine (next_any _ _ _ _).mono ?_
  rintro e w9 ⟨rfl, hb9⟩
  have B9 : Below w.heap.size w w9 := by refine Below.trans ?_ (hb9.mono ?_) <;> go_grown
  clear B8
  obtain ⟨hc9, hf9⟩ := bcell hb9
  have hz90 : w.heap.size < w9.heap.size := by have := hb9.size; (try simp at this); omega
  have hz91 : w.heap.size + 1 < w9.heap.size := by have := hb9.size; (try simp at this); omega
  have hz92 : w7.heap.size < w9.heap.size := by have := hb9.size; (try simp at this); omega
  have hz93 : w8.heap.size < w9.heap.size := by have := hb9.size; (try simp at this); omega
  clear hb9
  go_wp2_with fail
  go_returns
  exact ⟨rfl, by go_grown⟩
set_option maxHeartbeats 4000000 in
set_option maxRecDepth 100000 in
theorem row_zero_no (a b c x y z : Int) (w : World) (h1 : V.may a b c = true) (h2 : V.may x y z = false) (hp : V.rank a b c = 0) :
    Calls Tryd.prog 5 #[.agg #[.int .i64 a, .int .i64 b, .int .i64 c], .agg #[.int .i64 x, .int .i64 y, .int .i64 z]] w fun e w' => e = .returned (.bool true) ∧ Below w.heap.size w w' := by
  have hk := V.cmp_bd a b c x y z
  have hs := V.same_cmp a b c x y z
  have HN : Hid (V.cmp x y z a b c = - V.cmp a b c x y z) := Lib.hid (V.cmp_neg a b c x y z)
  have hkk : ∃ k, V.cmp a b c x y z = k := ⟨_, rfl⟩
  obtain ⟨k, hkk⟩ := hkk
  rw [hkk] at hk hs HN
  have HK := Lib.hid hkk
  have hm := V.rank_bd h1
  have ha := V.at_rank h1
  have hpv : V.pv a b c = V.rank a b c - 1 := V.pv_yes h1
  have hok : V.atOk (V.pv a b c) = false := V.atOk_neg (by rw [hpv]; omega)
  have H1 := Lib.hid h1
  have R1 : ∃ r, Hid (V.rank a b c = r) := ⟨_, Lib.hid rfl⟩
  obtain ⟨r1, R1⟩ := R1
  have H2 := Lib.hid h2
  have R2 : ∃ r, Hid (V.rank x y z = r) := ⟨_, Lib.hid rfl⟩
  obtain ⟨r2, R2⟩ := R2
  rw [R1.out] at hm ha hp
  subst hp
  have HA := Lib.hid ha
  have HO := Lib.hid hok
  clear h1 h2 hkk ha hok hpv
  have hself := V.same_refl
  go_enter Tryd.func5, Tryd.ntmps5
  go_wp2_with fail
  refine (rank_any _ _ _ _).mono ?_
  rintro e w1 ⟨rfl, hb1⟩
  rw [H1.out, R1.out]
  have B1 : Below w.heap.size w w1 := by refine Below.trans ?_ (hb1.mono ?_) <;> go_grown
  obtain ⟨hc1, hf1⟩ := bcell hb1
  have hz10 : w.heap.size < w1.heap.size := by have := hb1.size; (try simp at this); omega
  have hz11 : w.heap.size + 1 < w1.heap.size := by have := hb1.size; (try simp at this); omega
  clear hb1
  go_wp2_with fail
  refine (rank_any _ _ _ _).mono ?_
  rintro e w2 ⟨rfl, hb2⟩
  rw [H2.out, R2.out]
  have B2 : Below w.heap.size w w2 := by refine Below.trans ?_ (hb2.mono ?_) <;> go_grown
  clear B1
  obtain ⟨hc2, hf2⟩ := bcell hb2
  have hz20 : w.heap.size < w2.heap.size := by have := hb2.size; (try simp at this); omega
  have hz21 : w.heap.size + 1 < w2.heap.size := by have := hb2.size; (try simp at this); omega
  clear hb2
  go_wp2_with fail
  refine (compare_any _ _ _ _ _ _ _).mono ?_
  rintro e w3 ⟨rfl, hb3⟩
  rw [HK.out]
  have B3 : Below w.heap.size w w3 := by refine Below.trans ?_ (hb3.mono ?_) <;> go_grown
  clear B2
  obtain ⟨hc3, hf3⟩ := bcell hb3
  have hz30 : w.heap.size < w3.heap.size := by have := hb3.size; (try simp at this); omega
  have hz31 : w.heap.size + 1 < w3.heap.size := by have := hb3.size; (try simp at this); omega
  clear hb3
  go_wp2_with fail
  refine (known_true _).mono ?_
  rintro e w4 ⟨rfl, hb4⟩
  have B4 : Below w.heap.size w w4 := by refine Below.trans ?_ (hb4.mono ?_) <;> go_grown
  clear B3
  obtain ⟨hc4, hf4⟩ := bcell hb4
  have hz40 : w.heap.size < w4.heap.size := by have := hb4.size; (try simp at this); omega
  have hz41 : w.heap.size + 1 < w4.heap.size := by have := hb4.size; (try simp at this); omega
  clear hb4
  go_wp2_with fail
  refine (compare_any _ _ _ _ _ _ _).mono ?_
  rintro e w5 ⟨rfl, hb5⟩
  rw [HN.out]
  have B5 : Below w.heap.size w w5 := by refine Below.trans ?_ (hb5.mono ?_) <;> go_grown
  clear B4
  obtain ⟨hc5, hf5⟩ := bcell hb5
  have hz50 : w.heap.size < w5.heap.size := by have := hb5.size; (try simp at this); omega
  have hz51 : w.heap.size + 1 < w5.heap.size := by have := hb5.size; (try simp at this); omega
  clear hb5
  go_wp2_with fail
  refine (may_any _ _ _ _).mono ?_
  rintro e w6 ⟨rfl, hb6⟩
  rw [H1.out]
  have B6 : Below w.heap.size w w6 := by refine Below.trans ?_ (hb6.mono ?_) <;> go_grown
  clear B5
  obtain ⟨hc6, hf6⟩ := bcell hb6
  have hz60 : w.heap.size < w6.heap.size := by have := hb6.size; (try simp at this); omega
  have hz61 : w.heap.size + 1 < w6.heap.size := by have := hb6.size; (try simp at this); omega
  clear hb6
  go_wp2_with fail
  refine (at_any _ _).mono ?_
  rintro e w7 ⟨rfl, hb7⟩
  rw [HA.out.1, HA.out.2.1, HA.out.2.2.1, HA.out.2.2.2]
  have B7 : Below w.heap.size w w7 := by refine Below.trans ?_ (hb7.mono ?_) <;> go_grown
  clear B6
  obtain ⟨hc7, hf7⟩ := bcell hb7
  have hz70 : w.heap.size < w7.heap.size := by have := hb7.size; (try simp at this); omega
  have hz71 : w.heap.size + 1 < w7.heap.size := by have := hb7.size; (try simp at this); omega
  clear hb7
  go_wp2_with fail
  refine (prev_any _ _ _ _).mono ?_
  rintro e w8 ⟨rfl, hb8⟩
  rw [HO.out]
  have B8 : Below w.heap.size w w8 := by refine Below.trans ?_ (hb8.mono ?_) <;> go_grown
  clear B7
  obtain ⟨hc8, hf8⟩ := bcell hb8
  have hz80 : w.heap.size < w8.heap.size := by have := hb8.size; (try simp at this); omega
  have hz81 : w.heap.size + 1 < w8.heap.size := by have := hb8.size; (try simp at this); omega
  have hz82 : w7.heap.size < w8.heap.size := by have := hb8.size; (try simp at this); omega
  clear hb8
  go_wp2_with fail
  refine (next_any _ _ _ _).mono ?_
  rintro e w9 ⟨rfl, hb9⟩
  have B9 : Below w.heap.size w w9 := by refine Below.trans ?_ (hb9.mono ?_) <;> go_grown
  clear B8
  obtain ⟨hc9, hf9⟩ := bcell hb9
  have hz90 : w.heap.size < w9.heap.size := by have := hb9.size; (try simp at this); omega
  have hz91 : w.heap.size + 1 < w9.heap.size := by have := hb9.size; (try simp at this); omega
  have hz92 : w7.heap.size < w9.heap.size := by have := hb9.size; (try simp at this); omega
  have hz93 : w8.heap.size < w9.heap.size := by have := hb9.size; (try simp at this); omega
  clear hb9
  go_wp2_with fail
  go_returns
  exact ⟨rfl, by go_grown⟩
theorem row_walk (a b c x y z : Int) (w : World) :
    Calls Tryd.prog 5 #[.agg #[.int .i64 a, .int .i64 b, .int .i64 c], .agg #[.int .i64 x, .int .i64 y, .int .i64 z]] w fun e w' => e = .returned (.bool true) ∧ Below w.heap.size w w' := by
  cases h1 : V.may a b c
  · exact row_no a b c x y z w _ h1 rfl
  · have hb := V.rank_bd h1
    by_cases hp : V.rank a b c = 0
    · cases h2 : V.may x y z
      · exact row_zero_no a b c x y z w h1 h2 hp
      · exact row_zero_yes a b c x y z w h1 h2 hp
    · cases h2 : V.may x y z
      · exact row_pos_no a b c x y z w h1 h2 (by omega)
      · exact row_pos_yes a b c x y z w h1 h2 (by omega)
end Go.Proofs.YthbepoeohjddnaaDoor
