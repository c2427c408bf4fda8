/- The walks of versions: May of the program and of the document. -/
import Derived.Test.YthbepoeohjddnaaDoorChecked
import Derived.Test.YthbepoeohjddnaaDoorVersPlain
import Derived.Handy
import Derived.WalkLawsBesides
import Derived.WalkSpells
import Derived.Lib.Hide
import Derived.Outline
import Derived.Deep.QuietTactic
import Derived.BigQuiet
namespace Go.Proofs.YthbepoeohjddnaaDoor
open Go.RowKit
set_option linter.unusedSimpArgs false
set_option linter.unusedVariables false
theorem bcell {W w1 : World} (hb : Below W.heap.size W w1) : (∀ b o, b < W.heap.size → w1.cell? ⟨b, o, none⟩ = W.cell? ⟨b, o, none⟩) ∧ (∀ b o, b < W.heap.size → w1.frozen? ⟨b, o, none⟩ = W.frozen? ⟨b, o, none⟩) :=
  ⟨fun b o h => hb.cell (p := ⟨b, o, none⟩) h, fun b o h => hb.frozen (p := ⟨b, o, none⟩) h⟩
theorem ret_bool {a b : Bool} (h : a = b) : Ending.returned (.bool a) = .returned (.bool b) := by rw [h]
theorem ret_int {k : IntKind} {a b : Int} (h : a = b) : Ending.returned (.int k a) = .returned (.int k b) := by rw [h]
set_option maxHeartbeats 400000 in
theorem part_any (a : Int) (w : World) :
    Calls Tryd.prog 26 #[.int .i64 a] w fun e w' => e = .returned (.bool (decide (0 ≤ a) && decide (a ≤ 999))) ∧ w = w' := by
  by_cases h : 0 ≤ a
  all_goals
    go_enter Tryd.func26, Tryd.ntmps26
    go_wp2
    go_ret
    exact ⟨ret_bool (by rw [Bool.eq_iff_iff]; simp; omega), rfl⟩
set_option maxHeartbeats 400000 in
theorem may_any (a b c : Int) (w : World) :
    Calls Tryd.prog 18 #[.agg #[.int .i64 a, .int .i64 b, .int .i64 c]] w fun e w' => e = .returned (.bool (V.may a b c)) ∧ Below w.heap.size w w' := by
  have i0 : ∀ w, (Instr.index 38 (.agg #[.int .i64 a, .int .i64 b, .int .i64 c]) (.int .i64 0)).run Tryd.prog w = .ok (.int .i64 a) w := fun _ => by kernel_rfl
  have i1 : ∀ w, (Instr.index 38 (.agg #[.int .i64 a, .int .i64 b, .int .i64 c]) (.int .i64 1)).run Tryd.prog w = .ok (.int .i64 b) w := fun _ => by kernel_rfl
  have i2 : ∀ w, (Instr.index 38 (.agg #[.int .i64 a, .int .i64 b, .int .i64 c]) (.int .i64 2)).run Tryd.prog w = .ok (.int .i64 c) w := fun _ => by kernel_rfl
  go_enter Tryd.func18, Tryd.ntmps18
  go_wp2
  go_rounds 4
  all_goals go_returns
  all_goals refine ⟨?_, by go_grown⟩
  all_goals first | exact ret_bool (V.may_of (by omega)).symm | exact ret_bool (V.may_not (by omega)).symm
set_option maxHeartbeats 400000 in
theorem rmay_any (a b c : Int) (w : World) :
    Calls Tryd.prog 19 #[.agg #[.int .i64 a, .int .i64 b, .int .i64 c]] w fun e w' => e = .returned (.bool (V.may a b c)) ∧ Below w.heap.size w w' := by
  go_enter Tryd.func19, Tryd.ntmps19
  go_wp2_with (first | (go_at_call 26; refine (part_any _ _).mono ?_; rintro e w' ⟨rfl, rfl⟩))
  all_goals go_returns
  all_goals refine ⟨?_, by go_grown⟩
  all_goals exact ret_bool (by rw [Bool.eq_iff_iff]; simp [V.may]; omega)
end Go.Proofs.YthbepoeohjddnaaDoor
