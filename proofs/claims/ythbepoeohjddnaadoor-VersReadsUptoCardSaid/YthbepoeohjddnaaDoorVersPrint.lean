/- The walk of Print: a version's text; the table of powers of ten is read. -/
import Derived.Test.YthbepoeohjddnaaDoorVersKnown
import Derived.Test.YthbepoeohjddnaaDoorVersText
import Derived.Deep.RegionHeld3
import Derived.Lib.LaidTab
namespace Go.Proofs.YthbepoeohjddnaaDoor
open Go.RowKit
set_option linter.unusedSimpArgs false
set_option linter.unusedVariables false
/-- The table of powers of ten holds what its initialiser lays. -/
def Pow10 (w : World) : Prop := Go.Lib.TabIs Tryd.prog w "internal/strconv.uint64pow10" .u64 Go.Lib.pow10Tab
theorem gPow10 : Tryd.prog.globalNamed "internal/strconv.uint64pow10" = some 2 := by kernel_rfl
theorem Pow10.size {w : World} (h : Pow10 w) : 2 < w.heap.size := by
  unfold Pow10 Go.Lib.TabIs World.var? at h
  rw [gPow10] at h
  simp only [Option.bind_some] at h
  refine Decidable.byContradiction fun hh => ?_
  rw [Array.getElem?_eq_none (by omega)] at h
  exact absurd h (by simp)
theorem Pow10.below {B : Nat} {w w' : World} (h : Pow10 w) (hb : Below B w w') (hB : w.heap.size ≤ B) : Pow10 w' :=
  var?_below hb gPow10 (Nat.lt_of_lt_of_le h.size hB) h
theorem below_grow {w : World} (k : Nat) (os : Array Obj) : Below w.heap.size w (Go.Sort.grow (w.drewN k) os) := by
  refine ⟨rfl, rfl, rfl, by simp [Go.Sort.grow], fun i hi => ?_⟩
  show (w.heap ++ os)[i]? = w.heap[i]?
  exact Array.getElem?_append_left hi
theorem itoa_any (n : Int) (h : 0 ≤ n ∧ n ≤ 9223372036854775807) (w : World) (ht : Pow10 w) :
    Calls Tryd.prog 29 #[.int .i64 n] w fun e w' => e = .returned (.string (V.dig n)) ∧ Below w.heap.size w w' := by
  refine (Tryd.strconv_Itoa n (by omega) h.2 w ht).mono fun e w' hh => ?_
  obtain ⟨rfl, k, os, rfl⟩ := hh
  refine ⟨?_, below_grow k os⟩
  unfold V.dig Go.Lib.itoa
  rw [if_neg (by omega)]
/-- A version in block n stays there while a callee makes blocks of its own. -/
theorem one_keep {w W w2 : World} {a b c : Value} (hb : Below W.heap.size W w2) (hw : Pow10 w)
    (h : W.cell? ⟨w.heap.size, 0, none⟩ = some a ∧ W.cell? ⟨w.heap.size, 1, none⟩ = some b ∧ W.cell? ⟨w.heap.size, 2, none⟩ = some c ∧ w.heap.size < W.heap.size ∧ Below w.heap.size w W) :
    w2.cell? ⟨w.heap.size, 0, none⟩ = some a ∧ w2.cell? ⟨w.heap.size, 1, none⟩ = some b ∧ w2.cell? ⟨w.heap.size, 2, none⟩ = some c ∧ w.heap.size < w2.heap.size ∧ Below w.heap.size w w2 := by
  obtain ⟨h0, h1, h2, hz, hB⟩ := h
  have hs := hb.size
  refine ⟨?_, ?_, ?_, by omega, hB.trans (hb.mono (by omega))⟩
  all_goals (rw [hb.cell (p := ⟨w.heap.size, _, none⟩) hz]; assumption)
theorem dot_size : ByteArray.size ⟨#[46]⟩ = 1 := rfl
set_option maxHeartbeats 2000000 in
set_option maxRecDepth 100000 in
theorem print_yes (a b c : Int) (h : V.may a b c = true) (w : World) (ht : Pow10 w) :
    Calls Tryd.prog 22 #[.agg #[.int .i64 a, .int .i64 b, .int .i64 c]] w fun e w' => e = .returned (.string (V.str a b c)) ∧ Below w.heap.size w w' := by
  have hb := V.may_iff.1 h
  have ha := V.dig_short hb.1
  have hb' := V.dig_short hb.2.1
  have hc' := V.dig_short hb.2.2
  have e0 : ∀ w, (Op.stringOp .add (V.dig a) (⟨#[46]⟩)).run Tryd.prog w = .ok (.string (V.dig a ++ ⟨#[46]⟩)) w := fun w => run_string_add_sum w _ _ (by simp [ByteArray.size_append, dot_size]; omega)
  have e1 : ∀ w, (Op.stringOp .add (V.dig a ++ ⟨#[46]⟩) (V.dig b)).run Tryd.prog w = .ok (.string (V.dig a ++ ⟨#[46]⟩ ++ V.dig b)) w := fun w => run_string_add_sum w _ _ (by simp [ByteArray.size_append, dot_size]; omega)
  have e2 : ∀ w, (Op.stringOp .add (V.dig a ++ ⟨#[46]⟩ ++ V.dig b) (⟨#[46]⟩)).run Tryd.prog w = .ok (.string (V.dig a ++ ⟨#[46]⟩ ++ V.dig b ++ ⟨#[46]⟩)) w := fun w => run_string_add_sum w _ _ (by simp [ByteArray.size_append, dot_size]; omega)
  have e3 : ∀ w, (Op.stringOp .add (V.dig a ++ ⟨#[46]⟩ ++ V.dig b ++ ⟨#[46]⟩) (V.dig c)).run Tryd.prog w = .ok (.string (V.dig a ++ ⟨#[46]⟩ ++ V.dig b ++ ⟨#[46]⟩ ++ V.dig c)) w := fun w => run_string_add_sum w _ _ (by simp [ByteArray.size_append, dot_size]; omega)
  clear ha hb' hc'
  have HS := Lib.hid (V.str_yes h)
  have H := Lib.hid h
  clear h
  go_enter Tryd.func22, Tryd.ntmps22
  go_wp2_with fail
  refine (may_any _ _ _ _).mono ?_
  rintro e w1 ⟨rfl, hb1⟩
  rw [H.out]
  have B1 : Below w.heap.size w w1 := by refine Below.trans ?_ (hb1.mono ?_) <;> go_grown
  obtain ⟨hc, hf⟩ := bcell hb1
  have hz : w.heap.size < w1.heap.size := by have := hb1.size; simp at this; omega
  go_wp2
  go_region_held3 (fun w' => w'.cell? ⟨w.heap.size, 0, none⟩ = some (.int .i64 a) ∧ w'.cell? ⟨w.heap.size, 1, none⟩ = some (.int .i64 b) ∧ w'.cell? ⟨w.heap.size, 2, none⟩ = some (.int .i64 c) ∧ w.heap.size < w'.heap.size ∧ Below w.heap.size w w')
    (first | (exact one_keep (by assumption) ht (by assumption)) | (refine ⟨by simp [hc], by simp [hc], by simp [hc], by simpa using hz, ?_⟩; exact B1.drew))
    (first | (go_at_call 29; refine (itoa_any _ (by omega) _ (ht.below (And.right (And.right (And.right (And.right ‹_ ∧ _›)))) (Nat.le_refl _))).mono ?_; rintro e w2 ⟨rfl, hb⟩))
  rename_i hH
  obtain ⟨_, _, _, _, hB⟩ := hH
  go_wp2
  go_returns
  exact ⟨by rw [HS.out]; rfl, hB⟩
set_option maxHeartbeats 400000 in
theorem print_no (a b c : Int) (h : V.may a b c = false) (w : World) :
    Calls Tryd.prog 22 #[.agg #[.int .i64 a, .int .i64 b, .int .i64 c]] w fun e w' => e = .returned (.string (V.str a b c)) ∧ Below w.heap.size w w' := by
  have HS := Lib.hid (V.str_no h)
  have H := Lib.hid h
  clear h
  go_enter Tryd.func22, Tryd.ntmps22
  go_wp2_with fail
  refine (may_any _ _ _ _).mono ?_
  rintro e w1 ⟨rfl, hb1⟩
  rw [H.out]
  go_wp2
  go_returns
  exact ⟨by rw [HS.out]; rfl, by refine Below.trans ?_ (hb1.mono ?_) <;> go_grown⟩
theorem print_any (a b c : Int) (w : World) (ht : Pow10 w) :
    Calls Tryd.prog 22 #[.agg #[.int .i64 a, .int .i64 b, .int .i64 c]] w fun e w' => e = .returned (.string (V.str a b c)) ∧ Below w.heap.size w w' := by
  cases h : V.may a b c
  · exact print_no a b c h w
  · exact print_yes a b c h w ht
end Go.Proofs.YthbepoeohjddnaaDoor
