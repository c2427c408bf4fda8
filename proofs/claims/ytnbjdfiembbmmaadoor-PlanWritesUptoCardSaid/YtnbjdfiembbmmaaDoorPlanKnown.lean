/- The example of the plans' laws, and PlanBack's walk. -/
import Derived.Test.YtnbjdfiembbmmaaDoorPlanParseQ
import Derived.Test.YtnbjdfiembbmmaaDoorPlanLaw
import Derived.Test.YtnbjdfiembbmmaaDoorPlanSame
namespace Go.Proofs.YtnbjdfiembbmmaaDoor
open Go.RowKit
set_option linter.unusedSimpArgs false
set_option linter.unusedVariables false
def ParseAll : Prop := ∀ (s : ByteArray), s.size ≤ 3500000000000 → ∀ (w : World), Calls Tryd.prog 17 #[.string s] w (ParsePost s.data.toList w)
def knownDs : List Plan.D := [⟨3, [47, 98], []⟩, ⟨4, [47, 98, 47, 103], [65, 255]⟩]
def knownText : List UInt8 := [112, 108, 97, 110, 10, 109, 107, 100, 105, 114, 32, 47, 98, 10, 112, 117, 116, 32, 47, 98, 47, 103, 32, 52, 49, 102, 102, 10]
theorem known_ok : Plan.ok knownDs = true := by decide
theorem known_text : Plan.text knownDs = knownText := by decide
theorem Deeds.drewN {w : World} {B : Nat} {v : Value} {ds : List Plan.D} (h : Deeds w B v ds) (q : Nat) : Deeds (w.drewN q) B v ds := ⟨h.is⟩
theorem Deeds.new {w : World} {t : TypeId} {b : Nat} (hb : b = w.heap.size) : Deeds (w.alloc (.cells #[.int .i64 3, .string ⟨#[47, 98]⟩, .string ByteArray.empty, .int .i64 4, .string ⟨#[47, 98, 47, 103]⟩, .string ⟨#[65, 255]⟩] t)) (b + 1) (.slice (some ⟨b, 0, none⟩) 2 2) knownDs := by
  subst hb
  refine ⟨some ⟨w.heap.size, 0, none⟩, 2, rfl, fun i d hd => ⟨w.heap.size, 0, rfl, by omega, ?_⟩⟩
  match i, hd with
  | 0, hd =>
    simp [knownDs] at hd; subst hd
    simp only [World.cell?_alloc_new]
    exact ⟨rfl, rfl, rfl⟩
  | 1, hd =>
    simp [knownDs] at hd; subst hd
    simp only [World.cell?_alloc_new]
    exact ⟨rfl, rfl, rfl⟩
  | i + 2, hd => simp [knownDs] at hd
set_option maxHeartbeats 1000000 in
set_option maxRecDepth 100000 in
theorem planKnown (hPA : ParseAll) (w : World) :
    Calls Tryd.prog 16 #[] w fun e w' => e = .returned (.bool true) ∧ Below w.heap.size w w' := by
  have HPA := Lib.hid hPA
  clear hPA
  have HD0 := Lib.hid (Deeds.new (w := w) (t := 54) rfl)
  have HSZ : Hid (∀ d ∈ knownDs, d.path.length ≤ 1048576 ∧ d.data.length ≤ 1048576) := Lib.hid (by
    intro d hd
    simp [knownDs] at hd
    rcases hd with rfl | rfl <;> exact ⟨by decide, by decide⟩)
  have HPR : Hid (printRes knownDs = .tuple #[.string (bs knownText), .int .i64 0]) := Lib.hid (by unfold printRes; rw [if_pos known_ok, known_text])
  have HC := Lib.hid (Plan.code_yes known_ok)
  have HP : Hid (Plan.parse knownText = (0, knownDs)) := Lib.hid (by rw [← known_text]; exact Plan.parse_text known_ok)
  obtain ⟨ds, hds⟩ : ∃ ds, ds = knownDs := ⟨_, rfl⟩
  rw [← hds] at HD0 HSZ HPR HC HP
  have HLEN : Hid (ds.length = 2) := Lib.hid (by rw [hds]; rfl)
  clear hds
  go_enter Tryd.func16, Tryd.ntmps16
  go_wp2_with fail
  refine (print_any HD0.out (by simp) (by have := HLEN.out; omega) HSZ.out).mono ?_
  rintro e w1 ⟨rfl, hb1⟩
  rw [HPR.out]
  have HD1 := Lib.hid (HD0.out.below hb1 (by simp))
  have hz1 := hb1.size
  simp at hz1
  have hts : (bs knownText).size ≤ 3500000000000 := by decide
  have hq : ((bs knownText).toList == [112, 108, 97, 110, 10, 109, 107, 100, 105, 114, 32, 47, 98, 10, 112, 117, 116, 32, 47, 98, 47, 103, 32, 52, 49, 102, 102, 10]) = true := by rw [str_eq_lit]; decide
  obtain ⟨T, hT⟩ : ∃ T, T = bs knownText := ⟨_, rfl⟩
  have HT : Hid (T.data.toList = knownText) := Lib.hid (by rw [hT]; rfl)
  rw [← hT] at hq hts
  rw [← hT]
  clear hT
  go_wp2_with fail
  refine (HPA.out T hts _).mono ?_
  rintro e w2 ⟨v, rfl, hd2, hb2⟩
  rw [HT.out, HP.out] at hd2 ⊢
  have HD2 := Lib.hid hd2
  have HD3 := Lib.hid ((HD1.out.below hb2 hz1).mono (Nat.le_trans hz1 hb2.size))
  obtain ⟨a2, c2, rfl⟩ := hd2.form
  have hz2 := hb2.size
  clear hd2
  go_wp2_with fail
  refine (sameD_any HD3.out HD2.out (by have := HLEN.out; omega) (by have := HLEN.out; omega)).mono ?_
  rintro e w3 ⟨rfl, q3, rfl⟩
  rw [show decide (ds = ds) = true by simp]
  go_wp2_with fail
  refine (check_any (HD3.out.drewN q3) (Nat.le_refl _) (by have := HLEN.out; omega) (fun d hd => by have := HSZ.out d hd; omega)).mono ?_
  rintro e w4 ⟨rfl, hb4⟩
  rw [HC.out]
  go_wp2
  go_returns
  exact ⟨rfl, by
    have hb0 : Below w.heap.size w (w.alloc (.cells #[.int .i64 3, .string ⟨#[47, 98]⟩, .string ByteArray.empty, .int .i64 4, .string ⟨#[47, 98, 47, 103]⟩, .string ⟨#[65, 255]⟩] 54)) := (Below.refl _ w).alloc (Nat.le_refl _) _
    have hbA := hb0.trans (hb1.mono (by simp))
    have hbB := hbA.trans (hb2.mono (by omega))
    have hbC := Below.drewN hbB q3
    exact hbC.trans (hb4.mono (by show _ ≤ w2.heap.size; omega))⟩
end Go.Proofs.YtnbjdfiembbmmaaDoor
