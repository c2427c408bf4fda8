/- Small functions of texts as lines of words: are two lists the same? is a text a word? -/
import Derived.Test.YtnbjdfiembbmmaaDoorChecked
import Derived.Test.YtnbjdfiembbmmaaDoorRead
import Derived.Test.YtnbjdfiembbmmaaDoorScanP
import Derived.Handy
import Derived.BigQuiet
import Derived.WalkMore
import Derived.WalkLawsBesides
import Derived.WalkSpells
import Derived.Outline
import Derived.Lib.Hide
namespace Go.Proofs.YtnbjdfiembbmmaaDoor
open Go.RowKit
set_option linter.unusedSimpArgs false
set_option linter.unusedVariables false
/-- A reading callee in a reading region, met after some draws. -/
theorem quiet_in {P : Program} {f : FuncId} {args : Array Value} {w : World} {m x : Nat} {v : Value}
    (h : Calls P f args (w.drewN (m + x)) fun e w' => e = .returned v ∧ ∃ k, w' = (w.drewN (m + x)).drewN k) : Calls P f args (w.drewN (m + x)) fun e w'' => e = .returned v ∧ ∃ n, w'' = w.drewN (m + n) :=
  h.mono fun _ _ ⟨he, k, hk⟩ => ⟨he, x + k, by rw [hk, World.drewN_drewN, Nat.add_assoc]⟩
theorem take_eq_of {α : Type} {la lb : List α} (hl : la.length = lb.length) {k : Nat} (h : la.take k = lb.take k) (hk : la.length ≤ k) : la = lb := by
  rw [List.take_of_length_le hk, List.take_of_length_le (by omega)] at h; exact h
theorem take_ne_of {α : Type} {la lb : List α} {k : Nat} {x y : α} (hx : la[k]? = some x) (hy : lb[k]? = some y) (h : x ≠ y) : la ≠ lb := fun e => by
  subst e; rw [hx] at hy; exact h (Option.some.inj hy)
theorem take_next {α : Type} {la lb : List α} {k : Nat} {x y : α} (h : la.take k = lb.take k) (hx : la[k]? = some x) (hy : lb[k]? = some y) (e : x = y) : la.take (k + 1) = lb.take (k + 1) := by
  subst e
  rw [List.take_add_one, List.take_add_one, hx, hy, h]
set_option maxHeartbeats 1000000 in
set_option maxRecDepth 100000 in
theorem words_any {w : World} {B : Nat} {v1 v2 : Value} {la lb : List (List UInt8)} (h1 : Row w B v1 (la.map sv)) (h2 : Row w B v2 (lb.map sv)) (hs1 : la.length ≤ 9223372036854775807) (hs2 : lb.length ≤ 9223372036854775807) :
    Calls Tryd.prog 47 #[v1, v2] w fun e w' => e = .returned (.bool (decide (la = lb))) ∧ ∃ m, w' = w.drewN m := by
  by_cases hl : la.length = lb.length
  · have hlen : ((((la.map sv).length : Nat) : Int) == (((lb.map sv).length : Nat) : Int)) = true := by simp [hl]
    rcases Nat.eq_zero_or_pos la.length with h0 | hp
    · have ha : la = [] := List.length_eq_zero_iff.1 h0
      have hb : lb = [] := List.length_eq_zero_iff.1 (by omega)
      subst ha hb
      obtain ⟨a1, c1, rfl⟩ := h1.form
      obtain ⟨a2, c2, rfl⟩ := h2.form
      clear hlen hl
      go_enter Tryd.func47, Tryd.ntmps47
      go_wp2
      refine wp_loop_rounds 1 ?_
      rw [rounds_succ]
      go_wp2
      go_returns
      exact ⟨by simp, 0, rfl⟩
    · obtain ⟨b1, c1, rfl, hB1, hc1⟩ := h1.some (by simpa using hp)
      obtain ⟨b2, c2, rfl, hB2, hc2⟩ := h2.some (by simp; omega)
      simp only [List.length_map] at hlen ⊢
      have HC1 := Lib.hid hc1
      have HC2 := Lib.hid hc2
      have HL := Lib.hid hl
      clear hc1 hc2 h1 h2 hl
      go_enter Tryd.func47, Tryd.ntmps47
      go_wp2
      go_loopw [5] (fun p wr => ∃ k : Nat, p = .int .i64 k ∧ k ≤ la.length ∧ la.take k = lb.take k ∧ (∃ m, wr = w.drewN m)) (fun p _ => la.length - (intOf p).toNat)
      case atStart => exact ⟨0, rfl, by omega, rfl, 0, rfl⟩
      case round =>
        obtain ⟨k, rfl, hk, htk, m, rfl⟩ := hrel
        have HT := Lib.hid htk
        clear htk
        by_cases hkl : k < la.length
        · obtain ⟨x, hx⟩ : ∃ x, la[k]? = some x := ⟨_, List.getElem?_eq_getElem hkl⟩
          obtain ⟨y, hy⟩ : ∃ y, lb[k]? = some y := ⟨_, List.getElem?_eq_getElem (by have := HL.out; omega)⟩
          have e1 : w.cell? (b1.add k) = some (.string (bs x)) := by
            exact HC1.out k _ (by rw [List.getElem?_map, hx]; rfl)
          have e2 : w.cell? (b2.add k) = some (.string (bs y)) := by
            exact HC2.out k _ (by rw [List.getElem?_map, hy]; rfl)
          have HX := Lib.hid (And.intro hx hy)
          have hkb : k < lb.length := by have := HL.out; omega
          clear hx hy
          by_cases hxy : x = y
          · have hq : ((bs x).toList == (bs y).toList) = true := by rw [sv_inj]; simp [hxy]
            go_wp2
            go_quiet (fail)
            go_wp2
            go_roundw
            case rel => exact ⟨k + 1, by go_num, by omega, take_next HT.out HX.out.1 HX.out.2 hxy, m + nq, by first | rfl | rw [World.drewN_drewN]⟩
            case measure => simp [intOf]; omega
          · have hq : ((bs x).toList == (bs y).toList) = false := by rw [sv_inj]; simp [hxy]
            have hne : decide (la = lb) = false := by simp [take_ne_of HX.out.1 HX.out.2 hxy]
            have HN := Lib.hid hne
            clear hne
            go_wp2
            go_quiet (fail)
            go_wp2
            go_returns
            exact ⟨by rw [HN.out]; rfl, m + nq, by first | rfl | rw [World.drewN_drewN]⟩
        · have hne : decide (la = lb) = true := by simp [take_eq_of HL.out HT.out (by omega)]
          have HN := Lib.hid hne
          clear hne
          go_wp2
          go_returns
          exact ⟨by rw [HN.out]; rfl, m, rfl⟩
  · have hlen : ((((la.map sv).length : Nat) : Int) == (((lb.map sv).length : Nat) : Int)) = false := by rw [beq_eq_false_iff_ne]; simp; omega
    obtain ⟨a1, c1, rfl⟩ := h1.form
    obtain ⟨a2, c2, rfl⟩ := h2.form
    have hne : decide (la = lb) = false := by
      simp only [decide_eq_false_iff_not]; rintro rfl; exact hl rfl
    have HN := Lib.hid hne
    simp only [List.length_map] at hlen ⊢
    clear hne h1 h2 hl
    go_enter Tryd.func47, Tryd.ntmps47
    go_wp2
    go_returns
    exact ⟨by rw [HN.out]; rfl, 0, rfl⟩
set_option maxHeartbeats 1000000 in
set_option maxRecDepth 100000 in
theorem same_any {w : World} {B : Nat} {v1 v2 : Value} {la lb : List (List (List UInt8))} (h1 : Grid w B v1 la) (h2 : Grid w B v2 lb) (hs1 : la.length ≤ 9223372036854775807) (hs2 : lb.length ≤ 9223372036854775807)
    (hr1 : ∀ l ∈ la, l.length ≤ 9223372036854775807) (hr2 : ∀ l ∈ lb, l.length ≤ 9223372036854775807) :
    Calls Tryd.prog 22 #[v1, v2] w fun e w' => e = .returned (.bool (decide (la = lb))) ∧ ∃ m, w' = w.drewN m := by
  obtain ⟨vs1, hv1, hn1, hg1⟩ := h1.is
  obtain ⟨vs2, hv2, hn2, hg2⟩ := h2.is
  by_cases hl : la.length = lb.length
  · have hlen : (((vs1.length : Nat) : Int) == ((vs2.length : Nat) : Int)) = true := by simp; omega
    rcases Nat.eq_zero_or_pos la.length with h0 | hp
    · have ha : la = [] := List.length_eq_zero_iff.1 h0
      have hb : lb = [] := List.length_eq_zero_iff.1 (by omega)
      subst ha hb
      obtain ⟨a1, c1, rfl⟩ := hv1.form
      obtain ⟨a2, c2, rfl⟩ := hv2.form
      simp only [hn1, hn2]
      clear hlen hl h1 h2 hv1 hv2 hg1 hg2 hr1 hr2
      go_enter Tryd.func22, Tryd.ntmps22
      go_wp2
      refine wp_loop_rounds 1 ?_
      rw [rounds_succ]
      go_wp2
      go_returns
      exact ⟨by simp, 0, rfl⟩
    · obtain ⟨b1, c1, rfl, hB1, hc1⟩ := hv1.some (by omega)
      obtain ⟨b2, c2, rfl, hB2, hc2⟩ := hv2.some (by omega)
      simp only [hn1, hn2] at hlen ⊢
      have HC1 := Lib.hid hc1
      have HC2 := Lib.hid hc2
      have HL := Lib.hid hl
      have HG1 := Lib.hid hg1
      have HG2 := Lib.hid hg2
      have HR1 := Lib.hid hr1
      have HR2 := Lib.hid hr2
      clear hc1 hc2 h1 h2 hl hg1 hg2 hv1 hv2 hr1 hr2
      go_enter Tryd.func22, Tryd.ntmps22
      go_wp2
      go_loopw [5] (fun p wr => ∃ k : Nat, p = .int .i64 k ∧ k ≤ la.length ∧ la.take k = lb.take k ∧ ∃ m, wr = w.drewN m) (fun p _ => la.length - (intOf p).toNat)
      case atStart => exact ⟨0, rfl, by omega, rfl, 0, rfl⟩
      case round =>
        obtain ⟨k, rfl, hk, htk, m, rfl⟩ := hrel
        have HT := Lib.hid htk
        clear htk
        by_cases hkl : k < la.length
        · obtain ⟨x, hx⟩ : ∃ x, la[k]? = some x := ⟨_, List.getElem?_eq_getElem hkl⟩
          obtain ⟨y, hy⟩ : ∃ y, lb[k]? = some y := ⟨_, List.getElem?_eq_getElem (by have := HL.out; omega)⟩
          obtain ⟨u1, hu1⟩ : ∃ x, vs1[k]? = some x := ⟨_, List.getElem?_eq_getElem (by omega)⟩
          obtain ⟨u2, hu2⟩ : ∃ x, vs2[k]? = some x := ⟨_, List.getElem?_eq_getElem (by have := HL.out; omega)⟩
          have e1 : w.cell? (b1.add k) = some u1 := by
            exact HC1.out k _ hu1
          have e2 : w.cell? (b2.add k) = some u2 := by
            exact HC2.out k _ hu2
          have r1 := (HG1.out k u1 x hu1 hx)
          have r2 := (HG2.out k u2 y hu2 hy)
          have s1 := HR1.out x (List.mem_of_getElem? hx)
          have s2 := HR2.out y (List.mem_of_getElem? hy)
          have HX := Lib.hid (And.intro hx hy)
          have hkb : k < lb.length := by have := HL.out; omega
          have HRR := Lib.hid (And.intro r1 r2)
          have HS := Lib.hid (And.intro s1 s2)
          clear hx hy r1 r2 s1 s2 hu1 hu2
          by_cases hxy : x = y
          · have hq : decide (x = y) = true := by simp [hxy]
            go_wp2
            go_quiet ((go_at_call 47; exact quiet_in (words_any (HRR.out.1.drewN _) (HRR.out.2.drewN _) HS.out.1 HS.out.2)))
            go_wp2
            go_roundw
            case rel => exact ⟨k + 1, by go_num, by omega, take_next HT.out HX.out.1 HX.out.2 hxy, m + nq, by first | rfl | rw [World.drewN_drewN]⟩
            case measure => simp [intOf]; omega
          · have hq : decide (x = y) = false := by simp [hxy]
            have hne : decide (la = lb) = false := by simp [take_ne_of HX.out.1 HX.out.2 hxy]
            have HN := Lib.hid hne
            clear hne
            go_wp2
            go_quiet ((go_at_call 47; exact quiet_in (words_any (HRR.out.1.drewN _) (HRR.out.2.drewN _) HS.out.1 HS.out.2)))
            go_wp2
            go_returns
            exact ⟨by rw [HN.out]; rfl, m + nq, by first | rfl | rw [World.drewN_drewN]⟩
        · have hne : decide (la = lb) = true := by simp [take_eq_of HL.out HT.out (by omega)]
          have HN := Lib.hid hne
          clear hne
          go_wp2
          go_returns
          exact ⟨by rw [HN.out]; rfl, m, rfl⟩
  · have hlen : (((vs1.length : Nat) : Int) == ((vs2.length : Nat) : Int)) = false := by rw [beq_eq_false_iff_ne]; omega
    obtain ⟨a1, c1, rfl⟩ := hv1.form
    obtain ⟨a2, c2, rfl⟩ := hv2.form
    have hne : decide (la = lb) = false := by
      simp only [decide_eq_false_iff_not]; rintro rfl; exact hl rfl
    have HN := Lib.hid hne
    clear hne h1 h2 hl hv1 hv2 hg1 hg2
    go_enter Tryd.func22, Tryd.ntmps22
    go_wp2
    go_returns
    exact ⟨by rw [HN.out]; rfl, 0, rfl⟩
end Go.Proofs.YtnbjdfiembbmmaaDoor
