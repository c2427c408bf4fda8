/- PlanBack's and PlanCut's walks, with Parse's contract. -/
import Derived.Test.YtnbjdfiembbmmaaDoorPlanParseW
import Derived.Test.YtnbjdfiembbmmaaDoorPlanBackP
import Derived.Test.YtnbjdfiembbmmaaDoorPlanCutW
namespace Go.Proofs.YtnbjdfiembbmmaaDoor
open Go.RowKit
theorem parseAll : ParseAll := fun s hs w => parse_any s hs w
theorem plan_back_law (s : ByteArray) (hs : s.size ≤ 1048576) (w : World) :
    Calls Tryd.prog 5 #[.string s] w fun e w' => e = .returned (.bool true) ∧ Below w.heap.size w w' := planBack parseAll s hs w
theorem plan_cut_law {w : World} {v : Value} {ds : List Plan.D} (h : Deeds w w.heap.size v ds) (hcap : ∀ a c, v = .slice a ds.length c → ds.length ≤ c) (hn : ds.length ≤ 1048576) (hsz : ∀ d ∈ ds, d.path.length ≤ 1048576 ∧ d.data.length ≤ 1048576) (t : Int) :
    Calls Tryd.prog 6 #[v, .int .i64 t] w fun e w' => e = .returned (.bool true) ∧ Below w.heap.size w w' := planCut parseAll h hcap hn hsz t
end Go.Proofs.YtnbjdfiembbmmaaDoor
