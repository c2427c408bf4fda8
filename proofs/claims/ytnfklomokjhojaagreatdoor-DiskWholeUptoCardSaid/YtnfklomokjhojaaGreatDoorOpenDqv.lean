/- What is asked of a disk, that came in as a value: what it says, and its bulk. -/
import Derived.Test.YtnfklomokjhojaaGreatDoorOpenDqs
namespace Go.Proofs.YtnfklomokjhojaaGreatDoor
open Go.RowKit Go.Deep Go.ChangeShapes Go.WideShapes
set_option maxRecDepth 100000 in
theorem open_dqv {H : Type} {enc : TypeId × Value → H} {W : World} {base : Nat} {v : Value} {d : DataW H} {p : List MemPlace}
    (hv : Value.okWide Tryz.prog W .any base 29 v) (h : DataW.Trod enc Tryz.prog W 0 (fun _ => true) true 29 v d p) :
    ∃ x : Disk.Dq, v = .agg #[.int .i64 x.kind, .string (bs x.path), .string (bs x.to), .string (bs x.data), .int .i64 x.n] ∧ (x.path.length + x.to.length + x.data.length + 4 ≤ Rows.uptoBulk d ∧ x.Fits) := by
  obtain ⟨fuel, hf⟩ := h
  obtain ⟨cs, rfl, hcs⟩ := okWide_struct dqStruct hv
  obtain ⟨x, hx, hb⟩ := open_dq hf
  refine ⟨x, ?_, hb⟩
  have e : cs.toList = [.int .i64 x.kind, .string (bs x.path), .string (bs x.to), .string (bs x.data), .int .i64 x.n] := hx
  exact congrArg Value.agg (Array.ext' e)
end Go.Proofs.YtnfklomokjhojaaGreatDoor
