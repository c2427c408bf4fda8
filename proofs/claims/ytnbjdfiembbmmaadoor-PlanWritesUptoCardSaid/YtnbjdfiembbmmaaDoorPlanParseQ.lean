/- What plan.Parse answers. -/
import Derived.Test.YtnbjdfiembbmmaaDoorPlanParse
import Derived.Test.YtnbjdfiembbmmaaDoorScanJP
namespace Go.Proofs.YtnbjdfiembbmmaaDoor
open Go.RowKit
set_option linter.unusedSimpArgs false
set_option linter.unusedVariables false
/-- What Parse answers, and what it leaves in memory. -/
def ParsePost (T : List UInt8) (w : World) (e : Ending) (w' : World) : Prop :=
  ∃ v, e = .returned (.tuple #[v, .int .i64 (Plan.parse T).1]) ∧ Deeds w' w'.heap.size v (Plan.parse T).2 ∧ Below w.heap.size w w'
theorem ParsePost.bad {T : List UInt8} {c : Int} {w w' : World} (h : Plan.parse T = (c, [])) (hb : Below w.heap.size w w') : ParsePost T w (.returned (.tuple #[.slice none 0 0, .int .i64 c])) w' := by
  unfold ParsePost
  rw [h]
  exact ⟨_, rfl, Deeds.nil _ _, hb⟩
theorem ParsePost.good {T : List UInt8} {ds : List Plan.D} {v : Value} {w w' : World} (h : Plan.parse T = (0, ds)) (hd : Deeds w' w'.heap.size v ds) (hb : Below w.heap.size w w') : ParsePost T w (.returned (.tuple #[v, .int .i64 0])) w' := by
  unfold ParsePost
  rw [h]
  exact ⟨_, rfl, hd, hb⟩
end Go.Proofs.YtnbjdfiembbmmaaDoor
