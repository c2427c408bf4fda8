/- The walk of the statement VersOrder. -/
import Derived.Test.YthbepoeohjddnaaDoorVersKnown
import Derived.Test.YthbepoeohjddnaaDoorVersCmp
import Derived.Deep.RegionHeld3
namespace Go.Proofs.YthbepoeohjddnaaDoor
open Go.RowKit
set_option linter.unusedSimpArgs false
set_option linter.unusedVariables false
/-- Two versions in blocks n and n + 1 stay there while a callee makes blocks of its own. -/
theorem two_keep {w W w2 : World} {a b c a' b' c' : Value} (hb : Below W.heap.size W w2)
    (h : W.cell? ⟨w.heap.size, 0, none⟩ = some a ∧ W.cell? ⟨w.heap.size, 1, none⟩ = some b ∧ W.cell? ⟨w.heap.size, 2, none⟩ = some c ∧ W.cell? ⟨w.heap.size + 1, 0, none⟩ = some a' ∧ W.cell? ⟨w.heap.size + 1, 1, none⟩ = some b' ∧ W.cell? ⟨w.heap.size + 1, 2, none⟩ = some c' ∧ w.heap.size + 1 < W.heap.size ∧ Below w.heap.size w W) :
    w2.cell? ⟨w.heap.size, 0, none⟩ = some a ∧ w2.cell? ⟨w.heap.size, 1, none⟩ = some b ∧ w2.cell? ⟨w.heap.size, 2, none⟩ = some c ∧ w2.cell? ⟨w.heap.size + 1, 0, none⟩ = some a' ∧ w2.cell? ⟨w.heap.size + 1, 1, none⟩ = some b' ∧ w2.cell? ⟨w.heap.size + 1, 2, none⟩ = some c' ∧ w.heap.size + 1 < w2.heap.size ∧ Below w.heap.size w w2 := by
  obtain ⟨h0, h1, h2, h3, h4, h5, hz, hB⟩ := h
  have hs := hb.size
  refine ⟨?_, ?_, ?_, ?_, ?_, ?_, by omega, hB.trans (hb.mono (by omega))⟩
  all_goals first | (rw [hb.cell (p := ⟨w.heap.size, _, none⟩) (Nat.lt_of_succ_lt hz)]; assumption) | (rw [hb.cell (p := ⟨w.heap.size + 1, _, none⟩) hz]; assumption)
theorem two_start {w : World} {a b c a' b' c' : Value} {t : TypeId} : Below w.heap.size w ((w.alloc (.cells #[a, b, c] t)).alloc (.cells #[a', b', c'] t)).drew := by go_grown
set_option maxHeartbeats 4000000 in
set_option maxRecDepth 100000 in
theorem order_walk (a b c a' b' c' : Int) (w : World) :
    Calls Tryd.prog 4 #[.agg #[.int .i64 a, .int .i64 b, .int .i64 c], .agg #[.int .i64 a', .int .i64 b', .int .i64 c']] w fun e w' => e = .returned (.bool true) ∧ Below w.heap.size w w' := by
  go_enter Tryd.func4, Tryd.ntmps4
  go_wp2
  go_region_held3 (fun w' => w'.cell? ⟨w.heap.size, 0, none⟩ = some (.int .i64 a) ∧ w'.cell? ⟨w.heap.size, 1, none⟩ = some (.int .i64 b) ∧ w'.cell? ⟨w.heap.size, 2, none⟩ = some (.int .i64 c) ∧ w'.cell? ⟨w.heap.size + 1, 0, none⟩ = some (.int .i64 a') ∧ w'.cell? ⟨w.heap.size + 1, 1, none⟩ = some (.int .i64 b') ∧ w'.cell? ⟨w.heap.size + 1, 2, none⟩ = some (.int .i64 c') ∧ w.heap.size + 1 < w'.heap.size ∧ Below w.heap.size w w')
    (first | (exact two_keep (by assumption) (by assumption)) | (refine ⟨by simp, by simp, by simp, by simp, by simp, by simp, by simp, two_start⟩))
    (first | (go_at_call 18; refine (may_any _ _ _ _).mono ?_; rintro e w2 ⟨rfl, hb⟩) | (go_at_call 19; refine (rmay_any _ _ _ _).mono ?_; rintro e w2 ⟨rfl, hb⟩) | (go_at_call 20; refine (compare_any _ _ _ _ _ _ _).mono ?_; rintro e w2 ⟨rfl, hb⟩) | (go_at_call 21; refine (rcompare_any _ _ _ _ _ _ _).mono ?_; rintro e w2 ⟨rfl, hb⟩) | (go_at_call 17; refine (known_true _).mono ?_; rintro e w2 ⟨rfl, hb⟩))
  rename_i hH
  obtain ⟨_, _, _, _, _, _, _, hB⟩ := hH
  go_wp2
  go_returns
  exact ⟨rfl, hB⟩
end Go.Proofs.YthbepoeohjddnaaDoor
