/- Print of the document: the same text as the program's. -/
import Derived.Test.YthbepoeohjddnaaDoorVersRef1
import Derived.Test.YthbepoeohjddnaaDoorVersWalks1
import Derived.Lib.ConvBytes
import Derived.Deep.RegionWith
import Derived.Deep.RegionHeld3
namespace Go.Proofs.YthbepoeohjddnaaDoor
open Go.RowKit
set_option linter.unusedSimpArgs false
set_option linter.unusedVariables false
/-- One byte in a new block, as a text. -/
theorem conv_one (n : Int) (h : 0 ≤ n ∧ n ≤ 255) (w : World) (g : Nat) (hc : w.cell? ⟨g, 0, none⟩ = some (.int .u8 n)) :
    (convert 52 9 (.slice (some ⟨g, 0, none⟩) 1 1)).run Tryd.prog w = .ok (.string ⟨#[UInt8.ofNat n.toNat]⟩) w := by
  have := run_convert_bytes_back (P := Tryd.prog) w 52 9 5 ⟨g, 0, none⟩ 1 [UInt8.ofNat n.toNat] Tryd.underlying52 Tryd.underlying5 Tryd.underlying9 (fun j hj => by
    have : j = 0 := by simpa using hj
    subst this
    show w.cell? ⟨g, 0, none⟩ = _
    rw [hc]
    simp only [List.getElem_cons_zero, UInt8.toNat_ofNat', Nat.reducePow]
    congr 2
    omega)
  exact this
set_option maxHeartbeats 1000000 in
set_option maxRecDepth 100000 in
theorem number_1 (n : Int) (h : 0 ≤ n ∧ n < 10) (w : World) :
    Calls Tryd.prog 32 #[.int .i64 n] w fun e w' => e = .returned (.string (V.dig n)) ∧ Below w.heap.size w w' := by
  have hd : V.dig n = ⟨#[UInt8.ofNat (48 + n).toNat]⟩ := by
    unfold V.dig
    rw [Num.dec_small (by omega), show (48 + n).toNat = 48 + n.toNat by omega]
  have hcv := conv_one (48 + n) (by omega) (w.alloc (.cells #[.int .u8 (48 + n)] 5)) w.heap.size (World.cell?_alloc_new _ _ _ _)
  rw [← hd] at hcv
  clear hd
  go_enter Tryd.func32, Tryd.ntmps32
  go_wp2
  go_returns
  exact ⟨rfl, by go_grown⟩
/-- The text of a number of two or three digits. -/
theorem dig_more {n : Int} (h : 10 ≤ n ∧ n < 1000) : V.dig n = V.dig (n / 10) ++ ⟨#[UInt8.ofNat (48 + n % 10).toNat]⟩ := by
  apply ByteArray.ext
  apply Array.toList_inj.1
  show Go.Lib.decDigits n.toNat = _
  rw [Num.dec_big (by omega)]
  simp only [V.dig, ByteArray.data_append, Array.toList_append]
  rw [show (n / 10).toNat = n.toNat / 10 by omega, show (48 + n % 10).toNat = 48 + n.toNat % 10 by omega]
set_option maxHeartbeats 2000000 in
set_option maxRecDepth 100000 in
theorem number_step (n : Int) (h : 10 ≤ n ∧ n < 1000) (w : World)
    (ih : ∀ w, Calls Tryd.prog 32 #[.int .i64 (n / 10)] w fun e w' => e = .returned (.string (V.dig (n / 10))) ∧ Below w.heap.size w w') :
    Calls Tryd.prog 32 #[.int .i64 n] w fun e w' => e = .returned (.string (V.dig n)) ∧ Below w.heap.size w w' := by
  have IH := Lib.hid ih
  have hsz : (V.dig (n / 10)).size ≤ 3 := V.dig_short (by omega)
  have hadd : ∀ w, (Op.stringOp .add (V.dig (n / 10)) ⟨#[UInt8.ofNat (48 + n % 10).toNat]⟩).run Tryd.prog w = .ok (.string (V.dig n)) w := fun w => by
    rw [dig_more h]; exact run_string_add_sum w _ _ (by
      have : ByteArray.size ⟨#[UInt8.ofNat (48 + n % 10).toNat]⟩ = 1 := rfl
      omega)
  have hcv : ∀ w g, w.cell? ⟨g, 0, none⟩ = some (.int .u8 (48 + n % 10)) → (convert 52 9 (.slice (some ⟨g, 0, none⟩) 1 1)).run Tryd.prog w = .ok (.string ⟨#[UInt8.ofNat (48 + n % 10).toNat]⟩) w := fun w g hc => conv_one (48 + n % 10) (by omega) w g hc
  have q1 : n.tdiv 10 = n / 10 := Int.tdiv_eq_ediv_of_nonneg (by omega)
  have q2 : n.tmod 10 = n % 10 := Int.tmod_eq_emod_of_nonneg (by omega)
  have q3 : IntKind.i64.wrap (n / 10) = n / 10 := IntWalk.i64_in _ (by omega)
  have q4 : IntKind.i64.wrap (n % 10) = n % 10 := IntWalk.i64_in _ (by omega)
  have q5 : IntKind.i64.wrap (48 + n % 10) = 48 + n % 10 := IntWalk.i64_in _ (by omega)
  have q6 : IntKind.u8.wrap (48 + n % 10) = 48 + n % 10 := IntWalk.u8_in _ (by omega)
  clear ih hsz
  go_enter Tryd.func32, Tryd.ntmps32
  go_wp2
  go_region_with (go_at_call 32; refine (IH.out _).mono ?_; rintro e w2 ⟨rfl, hb⟩; obtain ⟨hc, hf⟩ := bcell hb)
  all_goals
    have B2 : Below w.heap.size w w2 := by refine Below.trans ?_ (hb.mono ?_) <;> go_grown
    have hz2 := B2.size
    go_wp2
    go_returns
    exact ⟨rfl, by go_grown⟩
theorem number_any (n : Int) (h : 0 ≤ n ∧ n ≤ 999) (w : World) :
    Calls Tryd.prog 32 #[.int .i64 n] w fun e w' => e = .returned (.string (V.dig n)) ∧ Below w.heap.size w w' := by
  by_cases h1 : n < 10
  · exact number_1 n (by omega) w
  · refine number_step n (by omega) w fun w => ?_
    by_cases h2 : n / 10 < 10
    · exact number_1 _ (by omega) w
    · exact number_step _ (by omega) w fun w => number_1 _ (by omega) w
/-- A version in block n stays there while a callee makes blocks of its own. -/
theorem ver_keep {w W w2 : World} {a b c : Value} (hb : Below W.heap.size W w2)
    (h : W.cell? ⟨w.heap.size, 0, none⟩ = some a ∧ W.cell? ⟨w.heap.size, 1, none⟩ = some b ∧ W.cell? ⟨w.heap.size, 2, none⟩ = some c ∧ w.heap.size < W.heap.size ∧ Below w.heap.size w W) :
    w2.cell? ⟨w.heap.size, 0, none⟩ = some a ∧ w2.cell? ⟨w.heap.size, 1, none⟩ = some b ∧ w2.cell? ⟨w.heap.size, 2, none⟩ = some c ∧ w.heap.size < w2.heap.size ∧ Below w.heap.size w w2 := by
  obtain ⟨h0, h1, h2, hz, hB⟩ := h
  have hs := hb.size
  refine ⟨?_, ?_, ?_, by omega, hB.trans (hb.mono (by omega))⟩
  all_goals (rw [hb.cell (p := ⟨w.heap.size, _, none⟩) hz]; assumption)
theorem dot_size : ByteArray.size ⟨#[46]⟩ = 1 := rfl
set_option maxHeartbeats 2000000 in
set_option maxRecDepth 100000 in
theorem rprint_yes (a b c : Int) (h : V.may a b c = true) (w : World) :
    Calls Tryd.prog 25 #[.agg #[.int .i64 a, .int .i64 b, .int .i64 c]] w fun e w' => e = .returned (.string (V.str a b c)) ∧ Below w.heap.size w w' := by
  have hb := V.may_iff.1 h
  have ha := V.dig_short hb.1
  have hb' := V.dig_short hb.2.1
  have hc' := V.dig_short hb.2.2
  have e0 : ∀ w, (Op.stringOp .add (V.dig a) (⟨#[46]⟩)).run Tryd.prog w = .ok (.string (V.dig a ++ ⟨#[46]⟩)) w := fun w => run_string_add_sum w _ _ (by simp [ByteArray.size_append, dot_size]; omega)
  have e1 : ∀ w, (Op.stringOp .add (V.dig a ++ ⟨#[46]⟩) (V.dig b)).run Tryd.prog w = .ok (.string (V.dig a ++ ⟨#[46]⟩ ++ V.dig b)) w := fun w => run_string_add_sum w _ _ (by simp [ByteArray.size_append, dot_size]; omega)
  have e2 : ∀ w, (Op.stringOp .add (V.dig a ++ ⟨#[46]⟩ ++ V.dig b) (⟨#[46]⟩)).run Tryd.prog w = .ok (.string (V.dig a ++ ⟨#[46]⟩ ++ V.dig b ++ ⟨#[46]⟩)) w := fun w => run_string_add_sum w _ _ (by simp [ByteArray.size_append, dot_size]; omega)
  have e3 : ∀ w, (Op.stringOp .add (V.dig a ++ ⟨#[46]⟩ ++ V.dig b ++ ⟨#[46]⟩) (V.dig c)).run Tryd.prog w = .ok (.string (V.dig a ++ ⟨#[46]⟩ ++ V.dig b ++ ⟨#[46]⟩ ++ V.dig c)) w := fun w => run_string_add_sum w _ _ (by simp [ByteArray.size_append, dot_size]; omega)
  clear ha hb' hc'
  have HS := Lib.hid (V.str_yes h)
  have H := Lib.hid h
  clear h
  go_enter Tryd.func25, Tryd.ntmps25
  go_wp2_with fail
  refine (rmay_any _ _ _ _).mono ?_
  rintro e w1 ⟨rfl, hb1⟩
  rw [H.out]
  have B1 : Below w.heap.size w w1 := by refine Below.trans ?_ (hb1.mono ?_) <;> go_grown
  obtain ⟨hc, hf⟩ := bcell hb1
  have hz : w.heap.size < w1.heap.size := by have := hb1.size; simp at this; omega
  go_wp2
  go_region_held3 (fun w' => w'.cell? ⟨w.heap.size, 0, none⟩ = some (.int .i64 a) ∧ w'.cell? ⟨w.heap.size, 1, none⟩ = some (.int .i64 b) ∧ w'.cell? ⟨w.heap.size, 2, none⟩ = some (.int .i64 c) ∧ w.heap.size < w'.heap.size ∧ Below w.heap.size w w')
    (first | (exact ver_keep (by assumption) (by assumption)) | (refine ⟨by simp [hc], by simp [hc], by simp [hc], by simpa using hz, ?_⟩; exact B1.drew))
    (first | (go_at_call 32; refine (number_any _ (by omega) _).mono ?_; rintro e w2 ⟨rfl, hb⟩))
  rename_i hH
  obtain ⟨_, _, _, _, hB⟩ := hH
  go_wp2
  go_returns
  exact ⟨by rw [HS.out]; rfl, hB⟩
set_option maxHeartbeats 400000 in
theorem rprint_any (a b c : Int) (w : World) :
    Calls Tryd.prog 25 #[.agg #[.int .i64 a, .int .i64 b, .int .i64 c]] w fun e w' => e = .returned (.string (V.str a b c)) ∧ Below w.heap.size w w' := by
  cases h : V.may a b c
  · have HS := Lib.hid (V.str_no h)
    have H := Lib.hid h
    clear h
    go_enter Tryd.func25, Tryd.ntmps25
    go_wp2_with fail
    refine (rmay_any _ _ _ _).mono ?_
    rintro e w1 ⟨rfl, hb1⟩
    rw [H.out]
    go_wp2
    go_returns
    exact ⟨by rw [HS.out]; rfl, by refine Below.trans ?_ (hb1.mono ?_) <;> go_grown⟩
  · exact rprint_yes a b c h w
end Go.Proofs.YthbepoeohjddnaaDoor
