/- Two versions are equal just if their numbers are: the model's equality at the version's type. -/
import Derived.Test.YthbepoeohjddnaaDoorVersWalks1
import Derived.Laws.StructEq
namespace Go.Proofs.YthbepoeohjddnaaDoor
open Go.RowKit
set_option linter.unusedSimpArgs false
set_option linter.unusedVariables false
theorem verStruct : Tryd.prog.underlying 23 = some (.struct (Tryd.prog.fieldsOf 23)) := by kernel_rfl
theorem verFields : (Tryd.prog.fieldsOf 23).toList.map (fun f => (f.name, f.type, f.offset)) = [("Major", 3, 0), ("Minor", 3, 1), ("Patch", 3, 2)] := by kernel_rfl
/-- Are two versions the same? -/
def V.same (a b c a' b' c' : Int) : Bool := decide (a = a') && (decide (b = b') && decide (c = c'))
theorem V.same_iff {a b c a' b' c' : Int} : V.same a b c a' b' c' = true ↔ a = a' ∧ b = b' ∧ c = c' := by simp [V.same]
theorem V.same_no {a b c a' b' c' : Int} (h : ¬ (a = a' ∧ b = b' ∧ c = c')) : V.same a b c a' b' c' = false := Bool.eq_false_iff.2 fun k => h (V.same_iff.1 k)
@[go_sem high] theorem verGuard (w : World) (x y : Operand) (xs ys : Array Value) : (eqGuard .eql 23 x y (.agg xs) (.agg ys)).run Tryd.prog w = .ok () w :=
  run_eqGuard_agg w .eql 23 x y xs ys (by kernel_rfl)
theorem verEqual (w : World) (a b c a' b' c' : Int) : (Op.equalIn 10000 23 (.agg #[.int .i64 a, .int .i64 b, .int .i64 c]) (.agg #[.int .i64 a', .int .i64 b', .int .i64 c'])).run Tryd.prog w = .ok (V.same a b c a' b' c') w := by
  have hs := verFields
  have e : ∀ w (a b : Int), (Op.equalIn 9999 3 (.int .i64 a) (.int .i64 b)).run Tryd.prog w = .ok (a == b) w := fun w a b => run_equalIn_int w 9998 3 _ _ a b Tryd.underlying3
  rw [run_equalIn_agg w 9999 23 _ _ verStruct (by kernel_rfl)]
  generalize (Tryd.prog.fieldsOf 23).toList = fs at hs
  rcases fs with _ | ⟨f, _ | ⟨g, _ | ⟨h, _ | ⟨k, l⟩⟩⟩⟩
  case cons.cons.cons.nil =>
    simp only [List.map_cons, List.map_nil, List.cons.injEq, Prod.mk.injEq, and_true] at hs
    obtain ⟨⟨n1, t1, o1⟩, ⟨n2, t2, o2⟩, ⟨n3, t3, o3⟩⟩ := hs
    by_cases ha : a = a' <;> by_cases hb : b = b' <;> by_cases hc : c = c' <;>
      simp [Op.eqFields, n1, t1, o1, n2, t2, o2, n3, t3, o3, go_sem, V.same, ha, hb, hc, e]
  all_goals simp at hs
/-- 'v == u' of two versions. -/
@[go_sem high] theorem verEql (w : World) (a b c a' b' c' : Int) : (binOp .eql 23 (.agg #[.int .i64 a, .int .i64 b, .int .i64 c]) (.agg #[.int .i64 a', .int .i64 b', .int .i64 c'])).run Tryd.prog w = .ok (.bool (V.same a b c a' b' c')) w := by
  rw [run_eql_struct, verEqual]
  rfl
end Go.Proofs.YthbepoeohjddnaaDoor
