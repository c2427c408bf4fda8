/- Pins and edges compared: the model's equality at their types. -/
import Derived.Test.YtjiifieafnjpgaaDoorLockF4
import Derived.Laws.StructEq
namespace Go.Proofs.YtjiifieafnjpgaaDoor
open Go.RowKit
set_option linter.unusedSimpArgs false
set_option linter.unusedVariables false
open Lock
theorem same_iffL {a b c a' b' c' : Int} : VL.V.same a b c a' b' c' = true ↔ a = a' ∧ b = b' ∧ c = c' := by simp [VL.V.same]
theorem pinStruct : Tryd.prog.underlying 42 = some (.struct (Tryd.prog.fieldsOf 42)) := by kernel_rfl
theorem pinFields : (Tryd.prog.fieldsOf 42).toList.map (fun f => (f.name, f.type, f.offset)) = [("Name", 9, 0), ("Version", 34, 1)] := by kernel_rfl
theorem edgeStruct : Tryd.prog.underlying 40 = some (.struct (Tryd.prog.fieldsOf 40)) := by kernel_rfl
theorem edgeFields : (Tryd.prog.fieldsOf 40).toList.map (fun f => (f.name, f.type, f.offset)) = [("Label", 9, 0), ("To", 3, 1)] := by kernel_rfl
def samePn (x y : Pn) : Bool := decide (x = y)
def sameEg (x y : Eg) : Bool := decide (x = y)
theorem verEqual9 (w : World) (a b c a' b' c' : Int) : (Op.equalIn 9999 34 (.agg #[.int .i64 a, .int .i64 b, .int .i64 c]) (.agg #[.int .i64 a', .int .i64 b', .int .i64 c'])).run Tryd.prog w = .ok (VL.V.same a b c a' b' c') w := by
  have hs := VL.verFields
  have e : ∀ w (a b : Int), (Op.equalIn 9998 3 (.int .i64 a) (.int .i64 b)).run Tryd.prog w = .ok (a == b) w := fun w a b => run_equalIn_int w 9997 3 _ _ a b Tryd.underlying3
  rw [run_equalIn_agg w 9998 34 _ _ VL.verStruct (by kernel_rfl)]
  generalize (Tryd.prog.fieldsOf 34).toList = fs at hs
  rcases fs with _ | ⟨f, _ | ⟨g, _ | ⟨h, _ | ⟨k, l⟩⟩⟩⟩
  case cons.cons.cons.nil =>
    simp only [List.map_cons, List.map_nil, List.cons.injEq, Prod.mk.injEq, and_true] at hs
    obtain ⟨⟨n1, t1, o1⟩, ⟨n2, t2, o2⟩, ⟨n3, t3, o3⟩⟩ := hs
    by_cases ha : a = a' <;> by_cases hb : b = b' <;> by_cases hc : c = c' <;>
      simp [Op.eqFields, n1, t1, o1, n2, t2, o2, n3, t3, o3, go_sem, VL.V.same, ha, hb, hc, e]
  all_goals simp at hs
theorem eqStrL (w : World) (a b : List UInt8) : (Op.equalIn 9999 9 (.string (bs a)) (.string (bs b))).run Tryd.prog w = .ok (decide (a = b)) w := by
  have := run_equalIn_string (P := Tryd.prog) w 9998 9 (bs a) (bs b) Tryd.underlying9
  rw [sv_inj] at this
  exact this
@[go_sem high] theorem pinGuardN (w : World) (x y : Operand) (xs ys : Array Value) : (eqGuard .neq 42 x y (.agg xs) (.agg ys)).run Tryd.prog w = .ok () w :=
  run_eqGuard_agg w .neq 42 x y xs ys (by kernel_rfl)
@[go_sem high] theorem edgeGuardN (w : World) (x y : Operand) (xs ys : Array Value) : (eqGuard .neq 40 x y (.agg xs) (.agg ys)).run Tryd.prog w = .ok () w :=
  run_eqGuard_agg w .neq 40 x y xs ys (by kernel_rfl)
theorem pinEqual (w : World) (n n' : List UInt8) (a b c a' b' c' : Int) : (Op.equalIn 10000 42 (.agg #[.string (bs n), .int .i64 a, .int .i64 b, .int .i64 c]) (.agg #[.string (bs n'), .int .i64 a', .int .i64 b', .int .i64 c'])).run Tryd.prog w = .ok (samePn ⟨n, ⟨a, b, c⟩⟩ ⟨n', ⟨a', b', c'⟩⟩) w := by
  have hs := pinFields
  rw [run_equalIn_agg w 9999 42 _ _ pinStruct (by kernel_rfl)]
  generalize (Tryd.prog.fieldsOf 42).toList = fs at hs
  rcases fs with _ | ⟨f, _ | ⟨g, _ | ⟨h, l⟩⟩⟩
  case cons.cons.nil =>
    simp only [List.map_cons, List.map_nil, List.cons.injEq, Prod.mk.injEq, and_true] at hs
    obtain ⟨⟨n1, t1, o1⟩, ⟨n2, t2, o2⟩⟩ := hs
    have hsz : Tryd.prog.cellsOf 34 = 3 := by kernel_rfl
    by_cases ha : n = n' <;> cases hv : VL.V.same a b c a' b' c' <;>
      simp [Op.eqFields, n1, t1, o1, n2, t2, o2, go_sem, ha, hv, eqStrL, verEqual9, samePn]
    · intro h1 h2 h3
      rw [same_iffL.2 ⟨h1, h2, h3⟩] at hv
      exact absurd hv (by simp)
    · exact same_iffL.1 hv
  all_goals simp at hs
theorem edgeEqual (w : World) (n n' : List UInt8) (a a' : Int) : (Op.equalIn 10000 40 (.agg #[.string (bs n), .int .i64 a]) (.agg #[.string (bs n'), .int .i64 a'])).run Tryd.prog w = .ok (sameEg ⟨n, a⟩ ⟨n', a'⟩) w := by
  have hs := edgeFields
  have e : ∀ w (a b : Int), (Op.equalIn 9999 3 (.int .i64 a) (.int .i64 b)).run Tryd.prog w = .ok (a == b) w := fun w a b => run_equalIn_int w 9998 3 _ _ a b Tryd.underlying3
  rw [run_equalIn_agg w 9999 40 _ _ edgeStruct (by kernel_rfl)]
  generalize (Tryd.prog.fieldsOf 40).toList = fs at hs
  rcases fs with _ | ⟨f, _ | ⟨g, _ | ⟨h, l⟩⟩⟩
  case cons.cons.nil =>
    simp only [List.map_cons, List.map_nil, List.cons.injEq, Prod.mk.injEq, and_true] at hs
    obtain ⟨⟨n1, t1, o1⟩, ⟨n2, t2, o2⟩⟩ := hs
    by_cases ha : n = n' <;> by_cases hb : a = a' <;>
      simp [Op.eqFields, n1, t1, o1, n2, t2, o2, go_sem, ha, hb, e, eqStrL, sameEg]
  all_goals simp at hs
@[go_sem high] theorem pinNeq (w : World) (n n' : List UInt8) (a b c a' b' c' : Int) : (binOp .neq 42 (.agg #[.string (bs n), .int .i64 a, .int .i64 b, .int .i64 c]) (.agg #[.string (bs n'), .int .i64 a', .int .i64 b', .int .i64 c'])).run Tryd.prog w = .ok (.bool (!samePn ⟨n, ⟨a, b, c⟩⟩ ⟨n', ⟨a', b', c'⟩⟩)) w := by
  rw [run_neq_struct, pinEqual]
  rfl
@[go_sem high] theorem edgeNeq (w : World) (n n' : List UInt8) (a a' : Int) : (binOp .neq 40 (.agg #[.string (bs n), .int .i64 a]) (.agg #[.string (bs n'), .int .i64 a'])).run Tryd.prog w = .ok (.bool (!sameEg ⟨n, a⟩ ⟨n', a'⟩)) w := by
  rw [run_neq_struct, edgeEqual]
  rfl
end Go.Proofs.YtjiifieafnjpgaaDoor
