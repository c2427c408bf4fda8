/- The walks of versions: Compare of the program and of the document. -/
import Derived.Test.YthbepoeohjddnaaDoorVersWalks1
import Derived.Test.YthbepoeohjddnaaDoorKit
namespace Go.Proofs.YthbepoeohjddnaaDoor
open Go.RowKit
set_option linter.unusedSimpArgs false
set_option linter.unusedVariables false
/-- Which of two numbers is less. -/
def V.cmp1 (a b : Int) : Int := if a < b then -1 else if b < a then 1 else 0
/-- The first number that is not 0. -/
def V.or3 (x y z : Int) : Int := if x ≠ 0 then x else if y ≠ 0 then y else z
/-- Which of two versions is less. -/
def V.cmp (a b c a' b' c' : Int) : Int := V.or3 (V.cmp1 a a') (V.cmp1 b b') (V.cmp1 c c')
set_option maxHeartbeats 400000 in
theorem nan_any (a : Int) (w : World) : Calls Tryd.prog 33 #[.int .i64 a] w fun e w' => e = .returned (.bool false) ∧ w' = w := by
  go_enter Tryd.func33, Tryd.ntmps33
  go_wp2
  go_ret
  exact ⟨ret_bool (by simp), rfl⟩
set_option maxHeartbeats 400000 in
theorem cmp1_any (a b : Int) (w : World) : Calls Tryd.prog 28 #[.int .i64 a, .int .i64 b] w fun e w' => e = .returned (.int .i64 (V.cmp1 a b)) ∧ w' = w := by
  rcases Int.lt_trichotomy a b with h | h | h
  all_goals
    go_enter Tryd.func28, Tryd.ntmps28
    go_wp2_with (first | (go_at_call 33; refine (nan_any _ _).mono ?_; rintro e w' ⟨rfl, rfl⟩))
    go_returns
    exact ⟨ret_int (by unfold V.cmp1; split <;> (try split) <;> omega), rfl⟩
set_option maxHeartbeats 400000 in
theorem or3_any (b : Nat) (x y z : Int) (w : World) (h0 : w.cell? ⟨b, 0, none⟩ = some (.int .i64 x)) (h1 : w.cell? ⟨b, 1, none⟩ = some (.int .i64 y)) (h2 : w.cell? ⟨b, 2, none⟩ = some (.int .i64 z)) :
    Calls Tryd.prog 27 #[.slice (some ⟨b, 0, none⟩) 3 3] w fun e w' => e = .returned (.int .i64 (V.or3 x y z)) ∧ w' = w := by
  by_cases hx : x = 0 <;> by_cases hy : y = 0
  all_goals
    go_enter Tryd.func27, Tryd.ntmps27
    go_wp2
    go_rounds 4
    all_goals go_returns
    all_goals exact ⟨ret_int (by simp_all [V.or3]), rfl⟩
set_option maxHeartbeats 1000000 in
set_option maxRecDepth 100000 in
theorem compare_any (a b c a' b' c' : Int) (w : World) :
    Calls Tryd.prog 20 #[.agg #[.int .i64 a, .int .i64 b, .int .i64 c], .agg #[.int .i64 a', .int .i64 b', .int .i64 c']] w fun e w' => e = .returned (.int .i64 (V.cmp a b c a' b' c')) ∧ Below w.heap.size w w' := by
  go_enter Tryd.func20, Tryd.ntmps20
  go_wp2
  refine still_tail 15 (by kernel_rfl) (by kernel_rfl) fun w2 hw2 => ?_
  simp only [List.take_succ_cons, List.take_zero, List.drop_succ_cons, List.drop_zero]
  have c0 : ∀ x o, x < w.heap.size + 2 → w2.cell? ⟨x, o, none⟩ = ((w.alloc (.cells #[.int .i64 a, .int .i64 b, .int .i64 c] 23)).alloc (.cells #[.int .i64 a', .int .i64 b', .int .i64 c'] 23)).cell? ⟨x, o, none⟩ := fun x o _ => by rw [hw2]; rfl
  have B2 : Below w.heap.size w w2 := by rw [hw2]; go_grown
  have hz : w.heap.size + 1 < w2.heap.size := by rw [hw2]; simp
  clear hw2
  repeat still_step
  still_call (cmp1_any _ _ _)
  repeat still_step
  still_call (cmp1_any _ _ _)
  repeat still_step
  still_call (cmp1_any _ _ _)
  refine wpStill_nil ?_
  go_wp2_with fail
  refine (or3_any _ _ _ _ _ (World.cell?_alloc_new _ _ _ _) (World.cell?_alloc_new _ _ _ _) (World.cell?_alloc_new _ _ _ _)).mono ?_
  rintro e w3 ⟨rfl, rfl⟩
  go_wp2_with fail
  go_returns
  exact ⟨rfl, B2.alloc (by omega) _⟩
set_option maxHeartbeats 1000000 in
theorem rcompare_lt (a a' b b' c c' : Int) (h : a < a') (w : World) :
    Calls Tryd.prog 21 #[.agg #[.int .i64 a, .int .i64 b, .int .i64 c], .agg #[.int .i64 a', .int .i64 b', .int .i64 c']] w fun e w' => e = .returned (.int .i64 (-1)) ∧ Below w.heap.size w w' := by
  go_enter Tryd.func21, Tryd.ntmps21
  go_wp2
  refine wp_loop_rounds 4 ?_
  rw [rounds_succ]
  go_wp2
  go_quiet (fail)
  go_wp2
  go_returns
  exact ⟨rfl, by repeat (first | exact Below.refl _ _ | refine below_drewN ?_ _ | refine Below.drew ?_ | (refine Below.alloc ?_ (by simp <;> omega) _))⟩
set_option maxHeartbeats 1000000 in
theorem rcompare_gt (a a' b b' c c' : Int) (h : a' < a) (w : World) :
    Calls Tryd.prog 21 #[.agg #[.int .i64 a, .int .i64 b, .int .i64 c], .agg #[.int .i64 a', .int .i64 b', .int .i64 c']] w fun e w' => e = .returned (.int .i64 1) ∧ Below w.heap.size w w' := by
  go_enter Tryd.func21, Tryd.ntmps21
  go_wp2
  refine wp_loop_rounds 4 ?_
  rw [rounds_succ]
  go_wp2
  go_quiet (fail)
  go_wp2
  go_quiet (fail)
  go_wp2
  go_returns
  exact ⟨rfl, by repeat (first | exact Below.refl _ _ | refine below_drewN ?_ _ | refine Below.drew ?_ | (refine Below.alloc ?_ (by simp <;> omega) _))⟩
set_option maxHeartbeats 1000000 in
theorem rcompare_eq_lt (a b b' c c' : Int) (h : b < b') (w : World) :
    Calls Tryd.prog 21 #[.agg #[.int .i64 a, .int .i64 b, .int .i64 c], .agg #[.int .i64 a, .int .i64 b', .int .i64 c']] w fun e w' => e = .returned (.int .i64 (-1)) ∧ Below w.heap.size w w' := by
  go_enter Tryd.func21, Tryd.ntmps21
  go_wp2
  refine wp_loop_rounds 4 ?_
  rw [rounds_succ]
  go_wp2
  go_quiet (fail)
  go_wp2
  go_quiet (fail)
  go_wp2
  rw [rounds_succ]
  go_wp2
  go_quiet (fail)
  go_wp2
  go_returns
  exact ⟨rfl, by repeat (first | exact Below.refl _ _ | refine below_drewN ?_ _ | refine Below.drew ?_ | (refine Below.alloc ?_ (by simp <;> omega) _))⟩
set_option maxHeartbeats 1000000 in
theorem rcompare_eq_gt (a b b' c c' : Int) (h : b' < b) (w : World) :
    Calls Tryd.prog 21 #[.agg #[.int .i64 a, .int .i64 b, .int .i64 c], .agg #[.int .i64 a, .int .i64 b', .int .i64 c']] w fun e w' => e = .returned (.int .i64 1) ∧ Below w.heap.size w w' := by
  go_enter Tryd.func21, Tryd.ntmps21
  go_wp2
  refine wp_loop_rounds 4 ?_
  rw [rounds_succ]
  go_wp2
  go_quiet (fail)
  go_wp2
  go_quiet (fail)
  go_wp2
  rw [rounds_succ]
  go_wp2
  go_quiet (fail)
  go_wp2
  go_quiet (fail)
  go_wp2
  go_returns
  exact ⟨rfl, by repeat (first | exact Below.refl _ _ | refine below_drewN ?_ _ | refine Below.drew ?_ | (refine Below.alloc ?_ (by simp <;> omega) _))⟩
set_option maxHeartbeats 1000000 in
theorem rcompare_eq_eq_lt (a b c c' : Int) (h : c < c') (w : World) :
    Calls Tryd.prog 21 #[.agg #[.int .i64 a, .int .i64 b, .int .i64 c], .agg #[.int .i64 a, .int .i64 b, .int .i64 c']] w fun e w' => e = .returned (.int .i64 (-1)) ∧ Below w.heap.size w w' := by
  go_enter Tryd.func21, Tryd.ntmps21
  go_wp2
  refine wp_loop_rounds 4 ?_
  rw [rounds_succ]
  go_wp2
  go_quiet (fail)
  go_wp2
  go_quiet (fail)
  go_wp2
  rw [rounds_succ]
  go_wp2
  go_quiet (fail)
  go_wp2
  go_quiet (fail)
  go_wp2
  rw [rounds_succ]
  go_wp2
  go_quiet (fail)
  go_wp2
  go_returns
  exact ⟨rfl, by repeat (first | exact Below.refl _ _ | refine below_drewN ?_ _ | refine Below.drew ?_ | (refine Below.alloc ?_ (by simp <;> omega) _))⟩
set_option maxHeartbeats 1000000 in
theorem rcompare_eq_eq_gt (a b c c' : Int) (h : c' < c) (w : World) :
    Calls Tryd.prog 21 #[.agg #[.int .i64 a, .int .i64 b, .int .i64 c], .agg #[.int .i64 a, .int .i64 b, .int .i64 c']] w fun e w' => e = .returned (.int .i64 1) ∧ Below w.heap.size w w' := by
  go_enter Tryd.func21, Tryd.ntmps21
  go_wp2
  refine wp_loop_rounds 4 ?_
  rw [rounds_succ]
  go_wp2
  go_quiet (fail)
  go_wp2
  go_quiet (fail)
  go_wp2
  rw [rounds_succ]
  go_wp2
  go_quiet (fail)
  go_wp2
  go_quiet (fail)
  go_wp2
  rw [rounds_succ]
  go_wp2
  go_quiet (fail)
  go_wp2
  go_quiet (fail)
  go_wp2
  go_returns
  exact ⟨rfl, by repeat (first | exact Below.refl _ _ | refine below_drewN ?_ _ | refine Below.drew ?_ | (refine Below.alloc ?_ (by simp <;> omega) _))⟩
set_option maxHeartbeats 1000000 in
theorem rcompare_eq_eq_eq (a b c : Int)  (w : World) :
    Calls Tryd.prog 21 #[.agg #[.int .i64 a, .int .i64 b, .int .i64 c], .agg #[.int .i64 a, .int .i64 b, .int .i64 c]] w fun e w' => e = .returned (.int .i64 0) ∧ Below w.heap.size w w' := by
  go_enter Tryd.func21, Tryd.ntmps21
  go_wp2
  refine wp_loop_rounds 4 ?_
  rw [rounds_succ]
  go_wp2
  go_quiet (fail)
  go_wp2
  go_quiet (fail)
  go_wp2
  rw [rounds_succ]
  go_wp2
  go_quiet (fail)
  go_wp2
  go_quiet (fail)
  go_wp2
  rw [rounds_succ]
  go_wp2
  go_quiet (fail)
  go_wp2
  go_quiet (fail)
  go_wp2
  rw [rounds_succ]
  go_wp2
  go_returns
  exact ⟨rfl, by repeat (first | exact Below.refl _ _ | refine below_drewN ?_ _ | refine Below.drew ?_ | (refine Below.alloc ?_ (by simp <;> omega) _))⟩
theorem rcompare_any (a b c a' b' c' : Int) (w : World) :
    Calls Tryd.prog 21 #[.agg #[.int .i64 a, .int .i64 b, .int .i64 c], .agg #[.int .i64 a', .int .i64 b', .int .i64 c']] w fun e w' => e = .returned (.int .i64 (V.cmp a b c a' b' c')) ∧ Below w.heap.size w w' := by
  have l : ∀ {x y : Int}, x < y → V.cmp1 x y = -1 := fun h => if_pos h
  have g : ∀ {x y : Int}, y < x → V.cmp1 x y = 1 := fun h => by unfold V.cmp1; rw [if_neg (by omega), if_pos h]
  have z : ∀ {x : Int}, V.cmp1 x x = 0 := fun {x} => by unfold V.cmp1; rw [if_neg (by omega), if_neg (by omega)]
  rcases Int.lt_trichotomy a a' with h | rfl | h
  · rw [show V.cmp a b c a' b' c' = -1 by simp [V.cmp, V.or3, l h]]; exact rcompare_lt _ _ _ _ _ _ h w
  · rcases Int.lt_trichotomy b b' with h | rfl | h
    · rw [show V.cmp a b c a b' c' = -1 by simp [V.cmp, V.or3, l h, z]]; exact rcompare_eq_lt _ _ _ _ _ h w
    · rcases Int.lt_trichotomy c c' with h | rfl | h
      · rw [show V.cmp a b c a b c' = -1 by simp [V.cmp, V.or3, l h, z]]; exact rcompare_eq_eq_lt _ _ _ _ h w
      · rw [show V.cmp a b c a b c = 0 by simp [V.cmp, V.or3, z]]; exact rcompare_eq_eq_eq _ _ _ w
      · rw [show V.cmp a b c a b c' = 1 by simp [V.cmp, V.or3, g h, z]]; exact rcompare_eq_eq_gt _ _ _ _ h w
    · rw [show V.cmp a b c a b' c' = 1 by simp [V.cmp, V.or3, g h, z]]; exact rcompare_eq_gt _ _ _ _ _ h w
  · rw [show V.cmp a b c a' b' c' = 1 by simp [V.cmp, V.or3, g h]]; exact rcompare_gt _ _ _ _ _ _ h w
end Go.Proofs.YthbepoeohjddnaaDoor
