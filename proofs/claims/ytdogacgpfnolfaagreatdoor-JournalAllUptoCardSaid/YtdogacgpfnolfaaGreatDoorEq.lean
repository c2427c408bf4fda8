/- Files and deeds compared. -/
import Derived.Test.YtdogacgpfnolfaaGreatDoorDkG
import Derived.Test.YtdogacgpfnolfaaGreatDoorChecked
import Derived.Test.YtdogacgpfnolfaaGreatDoorRead
import Derived.Laws.StructEq
import Derived.WalkMore
import Derived.WalkLawsBesides
import Derived.WalkSpells
namespace Go.Proofs.YtdogacgpfnolfaaGreatDoor
open Go.RowKit
set_option linter.unusedSimpArgs false
set_option linter.unusedVariables false
theorem fileStruct : Tryz.prog.underlying 70 = some (.struct (Tryz.prog.fieldsOf 70)) := by kernel_rfl
theorem fileFields : (Tryz.prog.fieldsOf 70).toList.map (fun f => (f.name, f.type, f.offset)) = [("Path", 9, 0), ("Dir", 4, 1), ("Data", 9, 2)] := by kernel_rfl
theorem deedStruct : Tryz.prog.underlying 39 = some (.struct (Tryz.prog.fieldsOf 39)) := by kernel_rfl
theorem deedFields : (Tryz.prog.fieldsOf 39).toList.map (fun f => (f.name, f.type, f.offset)) = [("Kind", 3, 0), ("Path", 9, 1), ("Data", 9, 2)] := by kernel_rfl
def sameF (x y : Disk.Fl) : Bool := decide (x = y)
def sameD (x y : Disk.Dd) : Bool := decide (x = y)
@[go_sem high] theorem fileGuard1 (w : World) (x y : Operand) (xs ys : Array Value) : (eqGuard .eql 70 x y (.agg xs) (.agg ys)).run Tryz.prog w = .ok () w :=
  run_eqGuard_agg w .eql 70 x y xs ys (by kernel_rfl)
@[go_sem high] theorem fileGuard2 (w : World) (x y : Operand) (xs ys : Array Value) : (eqGuard .neq 70 x y (.agg xs) (.agg ys)).run Tryz.prog w = .ok () w :=
  run_eqGuard_agg w .neq 70 x y xs ys (by kernel_rfl)
@[go_sem high] theorem deedGuard1 (w : World) (x y : Operand) (xs ys : Array Value) : (eqGuard .eql 39 x y (.agg xs) (.agg ys)).run Tryz.prog w = .ok () w :=
  run_eqGuard_agg w .eql 39 x y xs ys (by kernel_rfl)
@[go_sem high] theorem deedGuard2 (w : World) (x y : Operand) (xs ys : Array Value) : (eqGuard .neq 39 x y (.agg xs) (.agg ys)).run Tryz.prog w = .ok () w :=
  run_eqGuard_agg w .neq 39 x y xs ys (by kernel_rfl)
theorem eqInt (w : World) (a b : Int) : (Op.equalIn 9999 3 (.int .i64 a) (.int .i64 b)).run Tryz.prog w = .ok (a == b) w := run_equalIn_int w 9998 3 _ _ a b Tryz.underlying3
theorem eqStr (w : World) (a b : List UInt8) : (Op.equalIn 9999 9 (.string (bs a)) (.string (bs b))).run Tryz.prog w = .ok (decide (a = b)) w := by
  have := run_equalIn_string (P := Tryz.prog) w 9998 9 (bs a) (bs b) Tryz.underlying9
  rw [sv_inj] at this
  exact this
theorem eqBool (w : World) (a b : Bool) : (Op.equalIn 9999 4 (.bool a) (.bool b)).run Tryz.prog w = .ok (a == b) w := run_equalIn_bool w 9998 4 a b Tryz.underlying4
theorem fileEqual (w : World) (x y : Disk.Fl) : (Op.equalIn 10000 70 (.agg #[.string (bs x.path), .bool x.dir, .string (bs x.data)]) (.agg #[.string (bs y.path), .bool y.dir, .string (bs y.data)])).run Tryz.prog w = .ok (sameF x y) w := by
  have hs := fileFields
  rw [run_equalIn_agg w 9999 70 _ _ fileStruct (by kernel_rfl)]
  generalize (Tryz.prog.fieldsOf 70).toList = fs at hs
  obtain ⟨xp, xk, xd⟩ := x
  obtain ⟨yp, yk, yd⟩ := y
  rcases fs with _ | ⟨f1, _ | ⟨g, _ | ⟨h, _ | ⟨k, l⟩⟩⟩⟩
  case cons.cons.cons.nil =>
    simp only [List.map_cons, List.map_nil, List.cons.injEq, Prod.mk.injEq, and_true] at hs
    obtain ⟨⟨n1, t1, o1⟩, ⟨n2, t2, o2⟩, ⟨n3, t3, o3⟩⟩ := hs
    by_cases ha : xk = yk <;> by_cases hb : xp = yp <;> by_cases hc : xd = yd <;>
      simp [Op.eqFields, n1, t1, o1, n2, t2, o2, n3, t3, o3, go_sem, sameF, ha, hb, hc, eqBool, eqStr]
  all_goals simp at hs
theorem deedEqual (w : World) (x y : Disk.Dd) : (Op.equalIn 10000 39 (.agg #[.int .i64 x.kind, .string (bs x.path), .string (bs x.data)]) (.agg #[.int .i64 y.kind, .string (bs y.path), .string (bs y.data)])).run Tryz.prog w = .ok (sameD x y) w := by
  have hs := deedFields
  rw [run_equalIn_agg w 9999 39 _ _ deedStruct (by kernel_rfl)]
  generalize (Tryz.prog.fieldsOf 39).toList = fs at hs
  obtain ⟨xk, xp, xd⟩ := x
  obtain ⟨yk, yp, yd⟩ := y
  rcases fs with _ | ⟨f1, _ | ⟨g, _ | ⟨h, _ | ⟨k, l⟩⟩⟩⟩
  case cons.cons.cons.nil =>
    simp only [List.map_cons, List.map_nil, List.cons.injEq, Prod.mk.injEq, and_true] at hs
    obtain ⟨⟨n1, t1, o1⟩, ⟨n2, t2, o2⟩, ⟨n3, t3, o3⟩⟩ := hs
    by_cases ha : xk = yk <;> by_cases hb : xp = yp <;> by_cases hc : xd = yd <;>
      simp [Op.eqFields, n1, t1, o1, n2, t2, o2, n3, t3, o3, go_sem, sameD, ha, hb, hc, eqInt, eqStr]
  all_goals simp at hs
@[go_sem high] theorem fileEql (w : World) (x y : Disk.Fl) : (binOp .eql 70 (.agg #[.string (bs x.path), .bool x.dir, .string (bs x.data)]) (.agg #[.string (bs y.path), .bool y.dir, .string (bs y.data)])).run Tryz.prog w = .ok (.bool (sameF x y)) w := by
  rw [run_eql_struct, fileEqual]
  rfl
@[go_sem high] theorem fileNeq (w : World) (x y : Disk.Fl) : (binOp .neq 70 (.agg #[.string (bs x.path), .bool x.dir, .string (bs x.data)]) (.agg #[.string (bs y.path), .bool y.dir, .string (bs y.data)])).run Tryz.prog w = .ok (.bool (!sameF x y)) w := by
  rw [run_neq_struct, fileEqual]
  rfl
@[go_sem high] theorem deedEql (w : World) (x y : Disk.Dd) : (binOp .eql 39 (.agg #[.int .i64 x.kind, .string (bs x.path), .string (bs x.data)]) (.agg #[.int .i64 y.kind, .string (bs y.path), .string (bs y.data)])).run Tryz.prog w = .ok (.bool (sameD x y)) w := by
  rw [run_eql_struct, deedEqual]
  rfl
@[go_sem high] theorem deedNeq (w : World) (x y : Disk.Dd) : (binOp .neq 39 (.agg #[.int .i64 x.kind, .string (bs x.path), .string (bs x.data)]) (.agg #[.int .i64 y.kind, .string (bs y.path), .string (bs y.data)])).run Tryz.prog w = .ok (.bool (!sameD x y)) w := by
  rw [run_neq_struct, deedEqual]
  rfl
end Go.Proofs.YtdogacgpfnolfaaGreatDoor
