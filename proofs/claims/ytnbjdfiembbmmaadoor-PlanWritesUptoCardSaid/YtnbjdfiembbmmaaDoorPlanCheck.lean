/- plan.Check: the walk. -/
import Derived.Test.YtnbjdfiembbmmaaDoorPlanP
import Derived.Test.YtnbjdfiembbmmaaDoorScanE
import Derived.Test.YtnbjdfiembbmmaaDoorScanA
import Derived.Maps.OwnOps
import Derived.Maps.Views
import Derived.Carry
import Derived.Handy
import Derived.WalkMore
import Derived.WalkLawsBesides
import Derived.WalkSpells
import Derived.Outline
import Derived.Lib.Hide
import Derived.BigQuiet
namespace Go.Proofs.YtnbjdfiembbmmaaDoor
open Go.RowKit
set_option linter.unusedSimpArgs false
set_option linter.unusedVariables false
abbrev PD := DataW Unit
/-- The map holds what is noted. -/
def Notes (D : PD) (s : List UInt8 → Int) : Prop := Maps.IsMap D ∧ ∀ p, D.atKey (.string p) (.lit (.int .i64 0)) = .lit (.int .i64 (s p))
theorem notes_put {D : PD} {s : List UInt8 → Int} (h : Notes D s) (p : List UInt8) (v : Int) : Notes (D.put (.string p) (.lit (.int .i64 v))) (Plan.upd s p v) := by
  refine ⟨h.1.put _ _, fun q => ?_⟩
  by_cases hq : q = p
  · subst hq
    rw [Maps.atKey_put_same h.1 (by simp [WideAt.IsKeyLit])]
    simp [Plan.upd]
  · rw [Maps.atKey_put_other (by simpa using hq)]
    simp [Plan.upd, hq, h.2 q]
theorem bcell {W w1 : World} (hb : Below W.heap.size W w1) : (∀ b o, b < W.heap.size → w1.cell? ⟨b, o, none⟩ = W.cell? ⟨b, o, none⟩) ∧ (∀ b o, b < W.heap.size → w1.frozen? ⟨b, o, none⟩ = W.frozen? ⟨b, o, none⟩) :=
  ⟨fun b o h => hb.cell (p := ⟨b, o, none⟩) h, fun b o h => hb.frozen (p := ⟨b, o, none⟩) h⟩
theorem chk_cons {ds : List Plan.D} {k : Nat} {d : Plan.D} {least : Int} {s : List UInt8 → Int} (hd : ds[k]? = some d) :
    Plan.chk least s (ds.drop k) = (Plan.okD least d && (Plan.fits (s d.path) d.kind && Plan.chk d.kind (Plan.upd s d.path (Plan.note (s d.path) d.kind)) (ds.drop (k + 1)))) := by
  have h := List.getElem?_eq_some_iff.1 hd
  rw [List.drop_eq_getElem_cons h.1, h.2]
  rfl
set_option maxHeartbeats 4000000 in
set_option maxRecDepth 100000 in
theorem check_any {w : World} {B : Nat} {v : Value} {ds : List Plan.D} (h : Deeds w B v ds) (hB : B ≤ w.heap.size) (hn : ds.length ≤ 4398046511104) (hsz : ∀ d ∈ ds, d.path.length ≤ 4398046511104 ∧ d.data.length ≤ 4398046511104) :
    Calls Tryd.prog 14 #[v] w fun e w' => e = .returned (.int .i64 (Plan.code ds)) ∧ Below w.heap.size w w' := by
  have hmm := @run_makeMap Tryd.prog
  obtain ⟨a1, c1, rfl⟩ := h.form
  obtain ⟨N, hN⟩ : ∃ N, N = ds.length := ⟨_, rfl⟩
  have HH := Lib.hid h
  have HSZ := Lib.hid hsz
  rw [← hN] at hn ⊢
  have HN := Lib.hid hN
  clear h hsz hN
  go_enter Tryd.func14, Tryd.ntmps14
  go_wp2
  go_loopw [4, 11] (fun p q wr => ∃ (k : Nat) (least : Int) (s : List UInt8 → Int) (D : PD), p = .int .i64 least ∧ q = .int .i64 k ∧ k ≤ N ∧ 1 ≤ least ∧ Plan.ok ds = Plan.chk least s (ds.drop k) ∧ Notes D s ∧ wr.ownsMap Tryd.prog 9 (plainElem Tryd.prog 3) w.heap.size k D ∧ Below w.heap.size w wr) (fun _ q _ => N - (intOf q).toNat)
  case atStart => exact ⟨0, 1, fun _ => 0, .map [], rfl, rfl, by omega, by omega, by rw [List.drop_zero]; rfl, ⟨Maps.isMap_empty, fun p => rfl⟩, World.ownsMap_made _ _ _ _, (Below.refl _ w).alloc (Nat.le_refl _) _⟩
  case round =>
    obtain ⟨k, least, s, D, rfl, rfl, hk, hl1, hchk, hnot, hown, hBr⟩ := hrel
    have HCHK := Lib.hid hchk
    have HNOT := Lib.hid hnot
    have HOWN := Lib.hid hown
    clear hchk hnot hown
    by_cases hkN : k < N
    · obtain ⟨d, hd⟩ : ∃ d, ds[k]? = some d := ⟨_, List.getElem?_eq_getElem (by have := HN.out; omega)⟩
      have hdd := HSZ.out d (List.mem_of_getElem? hd)
      obtain ⟨bk, o, cap, hve, hbB, hbc⟩ := HH.out.at (by have := HN.out; omega)
      injection hve with ha1 _ hc1
      subst ha1; subst hc1
      obtain ⟨e1, e2, e3⟩ := hbc k d hd
      rw [← hBr.cell (p := ⟨bk, o + k * 3, none⟩) (by show bk < _; omega)] at e1
      rw [← hBr.cell (p := ⟨bk, o + k * 3 + 1, none⟩) (by show bk < _; omega)] at e2
      rw [← hBr.cell (p := ⟨bk, o + k * 3 + 2, none⟩) (by show bk < _; omega)] at e3
      have hcons := chk_cons (least := least) (s := s) hd
      rw [← HCHK.out] at hcons
      have hpsz : (bs d.path).size ≤ 9223372036854775807 := by show d.path.toArray.size ≤ _; simp; omega
      have fail_ : Plan.okD least d = false → Plan.code ds = 44 := fun h => Plan.code_no (by rw [hcons, h]; rfl)
      have HFAIL := Lib.hid fail_
      have HCONS := Lib.hid hcons
      have HD := Lib.hid hd
      have HDD := Lib.hid hdd
      have HPSZ := Lib.hid hpsz
      have hbz := hBr.size
      clear hbc fail_ hcons hd hdd hpsz
      by_cases b1 : d.kind < least
      · have HF := Lib.hid (HFAIL.out (by unfold Plan.okD; rw [decide_eq_false (by omega)]; rfl))
        go_wp2_with fail
        go_returns
        exact ⟨by rw [HF.out]; rfl, hBr.alloc hBr.size _⟩
      by_cases b2 : 4 < d.kind
      · have HF := Lib.hid (HFAIL.out (by unfold Plan.okD; rw [decide_eq_false (p := d.kind ≤ 4) (by omega)]; simp))
        go_wp2_with fail
        go_returns
        exact ⟨by rw [HF.out]; rfl, hBr.alloc hBr.size _⟩
      have b4 : ((d.kind == 4) = true ∧ (d.kind != 4) = false ∧ d.kind = 4) ∨ ((d.kind == 4) = false ∧ ((bs d.data).toList == ([] : List UInt8)) = false ∧ d.kind ≠ 4 ∧ d.data.isEmpty = false) ∨ ((d.kind == 4) = false ∧ ((bs d.data).toList == ([] : List UInt8)) = true ∧ (d.kind != 4) = true ∧ d.kind ≠ 4 ∧ d.data.isEmpty = true) := by
        rw [sv_eq_empty']
        by_cases hk4 : d.kind = 4
        · exact Or.inl ⟨by rw [beq_iff_eq]; exact hk4, by simp [hk4], hk4⟩
        · cases hde : d.data.isEmpty
          · exact Or.inr (Or.inl ⟨by rw [beq_eq_false_iff_ne]; exact hk4, rfl, hk4, rfl⟩)
          · exact Or.inr (Or.inr ⟨by rw [beq_eq_false_iff_ne]; exact hk4, rfl, by simp [hk4], hk4, rfl⟩)
      have b5 : ((d.kind == 4) = false ∧ ((bs d.data).toList == ([] : List UInt8)) = false ∧ d.kind ≠ 4 ∧ d.data.isEmpty = false) ∨ (decide (d.kind = 4) || d.data.isEmpty) = true := by
        rcases b4 with ⟨_, _, h⟩ | h | ⟨_, _, _, _, h⟩
        · exact Or.inr (by simp [h])
        · exact Or.inl h
        · exact Or.inr (by simp [h])
      rcases b5 with ⟨q4, q5, hk4, hde⟩ | hgood
      · have HF := Lib.hid (HFAIL.out (by unfold Plan.okD; rw [decide_eq_false hk4, hde]; simp))
        clear hde b4
        go_wp2_with fail
        go_returns
        exact ⟨by rw [HF.out]; rfl, hBr.alloc hBr.size _⟩
      have hok3 : Plan.okD least d = (Plan.pathOk d.path && Plan.free d.path) := by
        unfold Plan.okD
        rw [decide_eq_true (by omega), decide_eq_true (p := d.kind ≤ 4) (by omega), hgood]
        rfl
      have HOK3 := Lib.hid hok3
      have HFREE : Hid (Plan.free d.path = (!((bs d.path).toList == [47, 106, 111, 117, 114, 110, 97, 108]) && !Go.Lib.hasPrefix d.path [47, 106, 111, 117, 114, 110, 97, 108, 47])) := Lib.hid (by
        rw [str_eq_lit]; rfl)
      have hkey : keyOf Tryd.prog 9 (.string (bs d.path)) = some (.string d.path) := by
        have hm : (bs d.path).size ≤ maxLen := by have := HPSZ.out; unfold maxLen; omega
        simp [keyOf, mapKey, Tryd.underlying9, bs]
        exact hm
      have hwf : (Lit.int .i64 d.kind).wf = true := by
        simp only [Lit.wf, IntKind.min, IntKind.max, IntKind.signed, IntKind.bits, Bool.and_eq_true, decide_eq_true_eq, if_true]
        omega
      have hwm : (Lit.int .i64 (-1)).wf = true := by decide
      have HKEY := Lib.hid hkey
      have HWF := Lib.hid hwf
      have HWM := Lib.hid hwm
      have hpre : ∀ w, Calls Tryd.prog 36 #[.string (bs d.path), .string ⟨#[47, 106, 111, 117, 114, 110, 97, 108, 47]⟩] w fun e w' => e = .returned (.bool (Go.Lib.hasPrefix d.path [47, 106, 111, 117, 114, 110, 97, 108, 47])) ∧ w' = w := fun w => Tryd.strings_HasPrefix (bs d.path) ⟨#[47, 106, 111, 117, 114, 110, 97, 108, 47]⟩ w
      have HPRE := Lib.hid hpre
      clear hok3 hkey hwf hwm hpre
      rcases b4 with ⟨q4, qn4, hk4⟩ | ⟨q4, q5, hk4, hde⟩ | ⟨q4, q5, qn4, hk4, hde⟩
      rotate_left 1
      · exfalso
        rw [decide_eq_false hk4, hde] at hgood
        exact absurd hgood (by simp)
      all_goals
        have HK4 := Lib.hid hk4
        clear hgood hk4
        cases hpo : Plan.pathOk d.path
        · have HF := Lib.hid (HFAIL.out (by rw [HOK3.out, hpo]; rfl))
          go_wp2_with fail
          refine (path_any (bs d.path) HPSZ.out _).mono ?_
          rintro e w2 ⟨rfl, hb2⟩
          rw [bs_list, hpo]
          go_wp2_with fail
          go_returns
          exact ⟨by rw [HF.out]; rfl, by refine hBr.trans (Below.trans ?_ (hb2.mono ?_)) <;> go_grown⟩
        · cases hj : ((bs d.path).toList == [47, 106, 111, 117, 114, 110, 97, 108])
          rotate_left 1
          · have HF := Lib.hid (HFAIL.out (by rw [HOK3.out, hpo, HFREE.out, hj]; rfl))
            go_wp2_with fail
            refine (path_any (bs d.path) HPSZ.out _).mono ?_
            rintro e w2 ⟨rfl, hb2⟩
            rw [bs_list, hpo]
            obtain ⟨hc2, hf2⟩ := bcell hb2
            have hzz : wr.heap.size < w2.heap.size := by have := hb2.size; simp at this; omega
            go_wp2_with fail
            go_returns
            exact ⟨by rw [HF.out]; rfl, by refine hBr.trans (Below.trans ?_ (hb2.mono ?_)) <;> go_grown⟩
          cases hpp : Go.Lib.hasPrefix d.path [47, 106, 111, 117, 114, 110, 97, 108, 47]
          rotate_left 1
          · have HF := Lib.hid (HFAIL.out (by rw [HOK3.out, hpo, HFREE.out, hj, hpp]; rfl))
            go_wp2_with fail
            refine (path_any (bs d.path) HPSZ.out _).mono ?_
            rintro e w2 ⟨rfl, hb2⟩
            rw [bs_list, hpo]
            obtain ⟨hc2, hf2⟩ := bcell hb2
            have hzz : wr.heap.size < w2.heap.size := by have := hb2.size; simp at this; omega
            have hz0 : w.heap.size ≤ w2.heap.size := by omega
            have HB2 : Hid (Below w.heap.size w w2) := Lib.hid (by refine hBr.trans (Below.trans ?_ (hb2.mono ?_)) <;> go_grown)
            have HOWN2 := Lib.hid ((HOWN.out.kept (World.grownBy_alloc wr (.cells (dcells d) 54) none) (by simp)).kept (Below.grow hb2) (by simp))
            go_wp2_with fail
            refine (HPRE.out _).mono ?_
            rintro e w3 ⟨rfl, rfl⟩
            rw [hpp]
            go_wp2_with fail
            go_returns
            exact ⟨by rw [HF.out]; rfl, HB2.out⟩
          have HOKD : Hid (Plan.okD least d = true) := Lib.hid (by rw [HOK3.out, hpo, HFREE.out, hj, hpp]; rfl)
          obtain ⟨sp, hsp⟩ : ∃ x, x = s d.path := ⟨_, rfl⟩
          have HSP := Lib.hid hsp
          have hcase : sp = 0 ∨ (sp = 1 ∧ d.kind = 3) ∨ (sp = 2 ∧ d.kind = 4) ∨ (sp = 1 ∧ d.kind ≠ 3) ∨ (sp = 2 ∧ d.kind ≠ 4) ∨ (sp ≠ 0 ∧ sp ≠ 1 ∧ sp ≠ 2) := by omega
          clear hsp
          rcases hcase with rfl | ⟨rfl, h3⟩ | ⟨rfl, h4⟩ | ⟨rfl, h3⟩ | ⟨rfl, h4⟩ | ⟨h0, h1, h2⟩
          · have HCH : Hid (Plan.ok ds = Plan.chk d.kind (Plan.upd s d.path d.kind) (ds.drop (k + 1))) := Lib.hid (by
              rw [HCONS.out, HOKD.out, ← HSP.out]; simp [Plan.fits, Plan.note])
            go_wp2_with fail
            refine (path_any (bs d.path) HPSZ.out _).mono ?_
            rintro e w2 ⟨rfl, hb2⟩
            rw [bs_list, hpo]
            obtain ⟨hc2, hf2⟩ := bcell hb2
            have hzz : wr.heap.size < w2.heap.size := by have := hb2.size; simp at this; omega
            have hz0 : w.heap.size ≤ w2.heap.size := by omega
            have HB2 : Hid (Below w.heap.size w w2) := Lib.hid (by refine hBr.trans (Below.trans ?_ (hb2.mono ?_)) <;> go_grown)
            have HOWN2 := Lib.hid ((HOWN.out.kept (World.grownBy_alloc wr (.cells (dcells d) 54) none) (by simp)).kept (Below.grow hb2) (by simp))
            go_wp2_with fail
            refine (HPRE.out _).mono ?_
            rintro e w3 ⟨rfl, rfl⟩
            rw [hpp]
            go_wp2_with (first | (at_lookup; refine wpList_lookup_own_int _ rfl _ _ 59 rfl 9 3 .i64 (Maps.string_keyed Tryd.underlying9) Tryd.underlying59 Tryd.underlying3 (Tryd.zeroValue3 _) w.heap.size k D rfl HOWN2.out _ (.string d.path) rfl HKEY.out ?_; intro c hat hwc; obtain rfl : c = 0 := (by have h1 := (HNOT.out.2 d.path).symm.trans hat; simp only [DataW.lit.injEq, Lit.int.injEq, true_and] at h1; rw [← h1]; exact HSP.out.symm)) | (at_mapUpdate; refine wpList_mapUpdate_own _ rfl _ _ _ 59 rfl 9 3 (Maps.string_keyed Tryd.underlying9) Tryd.underlying59 (plainElem Tryd.prog 3) w.heap.size k D rfl HOWN2.out (by unfold maxLen; omega) _ _ (.string d.path) rfl rfl HKEY.out (.lit (.int .i64 d.kind)) [] (plainElem_int Tryd.underlying3 HWF.out) ?_; intro w5 hown5 hgrow5))
            go_roundw
            case rel => exact ⟨k + 1, d.kind, Plan.upd s d.path d.kind, D.put (.string d.path) (.lit (.int .i64 d.kind)), rfl, by go_num, by omega, by omega, HCH.out, notes_put HNOT.out _ _, hown5, HB2.out.grown hgrow5 hz0 (fun g e => by cases e; exact Nat.le_refl _)⟩
            case measure => simp [intOf]; omega
          · have HCH : Hid (Plan.ok ds = Plan.chk d.kind (Plan.upd s d.path (-1)) (ds.drop (k + 1))) := Lib.hid (by
              rw [HCONS.out, HOKD.out, ← HSP.out]; simp [Plan.fits, Plan.note, h3])
            have q3 : (d.kind == 3) = true := by rw [beq_iff_eq]; exact h3
            have H3 := Lib.hid h3
            clear h3
            go_wp2_with fail
            refine (path_any (bs d.path) HPSZ.out _).mono ?_
            rintro e w2 ⟨rfl, hb2⟩
            rw [bs_list, hpo]
            obtain ⟨hc2, hf2⟩ := bcell hb2
            have hzz : wr.heap.size < w2.heap.size := by have := hb2.size; simp at this; omega
            have hz0 : w.heap.size ≤ w2.heap.size := by omega
            have HB2 : Hid (Below w.heap.size w w2) := Lib.hid (by refine hBr.trans (Below.trans ?_ (hb2.mono ?_)) <;> go_grown)
            have HOWN2 := Lib.hid ((HOWN.out.kept (World.grownBy_alloc wr (.cells (dcells d) 54) none) (by simp)).kept (Below.grow hb2) (by simp))
            go_wp2_with fail
            refine (HPRE.out _).mono ?_
            rintro e w3 ⟨rfl, rfl⟩
            rw [hpp]
            go_wp2_with (first | (at_lookup; refine wpList_lookup_own_int _ rfl _ _ 59 rfl 9 3 .i64 (Maps.string_keyed Tryd.underlying9) Tryd.underlying59 Tryd.underlying3 (Tryd.zeroValue3 _) w.heap.size k D rfl HOWN2.out _ (.string d.path) rfl HKEY.out ?_; intro c hat hwc; obtain rfl : c = 1 := (by have h1 := (HNOT.out.2 d.path).symm.trans hat; simp only [DataW.lit.injEq, Lit.int.injEq, true_and] at h1; rw [← h1]; exact HSP.out.symm)) | (at_mapUpdate; refine wpList_mapUpdate_own _ rfl _ _ _ 59 rfl 9 3 (Maps.string_keyed Tryd.underlying9) Tryd.underlying59 (plainElem Tryd.prog 3) w.heap.size k D rfl HOWN2.out (by unfold maxLen; omega) _ _ (.string d.path) rfl rfl HKEY.out (.lit (.int .i64 (-1))) [] (plainElem_int Tryd.underlying3 HWM.out) ?_; intro w5 hown5 hgrow5))
            go_roundw
            case rel => exact ⟨k + 1, d.kind, Plan.upd s d.path (-1), D.put (.string d.path) (.lit (.int .i64 (-1))), rfl, by go_num, by omega, by omega, HCH.out, notes_put HNOT.out _ _, hown5, HB2.out.grown hgrow5 hz0 (fun g e => by cases e; exact Nat.le_refl _)⟩
            case measure => simp [intOf]; omega
          · try exact absurd h4 HK4.out
            all_goals
              have HCH : Hid (Plan.ok ds = Plan.chk d.kind (Plan.upd s d.path (-1)) (ds.drop (k + 1))) := Lib.hid (by
                rw [HCONS.out, HOKD.out, ← HSP.out]; simp [Plan.fits, Plan.note, h4])
              have q44 : (d.kind == 4) = true := by rw [beq_iff_eq]; exact h4
              have H4 := Lib.hid h4
              clear h4
              go_wp2_with fail
              refine (path_any (bs d.path) HPSZ.out _).mono ?_
              rintro e w2 ⟨rfl, hb2⟩
              rw [bs_list, hpo]
              obtain ⟨hc2, hf2⟩ := bcell hb2
              have hzz : wr.heap.size < w2.heap.size := by have := hb2.size; simp at this; omega
              have hz0 : w.heap.size ≤ w2.heap.size := by omega
              have HB2 : Hid (Below w.heap.size w w2) := Lib.hid (by refine hBr.trans (Below.trans ?_ (hb2.mono ?_)) <;> go_grown)
              have HOWN2 := Lib.hid ((HOWN.out.kept (World.grownBy_alloc wr (.cells (dcells d) 54) none) (by simp)).kept (Below.grow hb2) (by simp))
              go_wp2_with fail
              refine (HPRE.out _).mono ?_
              rintro e w3 ⟨rfl, rfl⟩
              rw [hpp]
              go_wp2_with (first | (at_lookup; refine wpList_lookup_own_int _ rfl _ _ 59 rfl 9 3 .i64 (Maps.string_keyed Tryd.underlying9) Tryd.underlying59 Tryd.underlying3 (Tryd.zeroValue3 _) w.heap.size k D rfl HOWN2.out _ (.string d.path) rfl HKEY.out ?_; intro c hat hwc; obtain rfl : c = 2 := (by have h1 := (HNOT.out.2 d.path).symm.trans hat; simp only [DataW.lit.injEq, Lit.int.injEq, true_and] at h1; rw [← h1]; exact HSP.out.symm)) | (at_mapUpdate; refine wpList_mapUpdate_own _ rfl _ _ _ 59 rfl 9 3 (Maps.string_keyed Tryd.underlying9) Tryd.underlying59 (plainElem Tryd.prog 3) w.heap.size k D rfl HOWN2.out (by unfold maxLen; omega) _ _ (.string d.path) rfl rfl HKEY.out (.lit (.int .i64 (-1))) [] (plainElem_int Tryd.underlying3 HWM.out) ?_; intro w5 hown5 hgrow5))
              go_roundw
              case rel => exact ⟨k + 1, d.kind, Plan.upd s d.path (-1), D.put (.string d.path) (.lit (.int .i64 (-1))), rfl, by go_num, by omega, by omega, HCH.out, notes_put HNOT.out _ _, hown5, HB2.out.grown hgrow5 hz0 (fun g e => by cases e; exact Nat.le_refl _)⟩
              case measure => simp [intOf]; omega
          · have HF : Hid (Plan.code ds = 44) := Lib.hid (Plan.code_no (by rw [HCONS.out, HOKD.out, ← HSP.out]; simp [Plan.fits, h3]))
            have q3 : (d.kind == 3) = false := by rw [beq_eq_false_iff_ne]; exact h3
            have H3 := Lib.hid h3
            clear h3
            go_wp2_with fail
            refine (path_any (bs d.path) HPSZ.out _).mono ?_
            rintro e w2 ⟨rfl, hb2⟩
            rw [bs_list, hpo]
            obtain ⟨hc2, hf2⟩ := bcell hb2
            have hzz : wr.heap.size < w2.heap.size := by have := hb2.size; simp at this; omega
            have hz0 : w.heap.size ≤ w2.heap.size := by omega
            have HB2 : Hid (Below w.heap.size w w2) := Lib.hid (by refine hBr.trans (Below.trans ?_ (hb2.mono ?_)) <;> go_grown)
            have HOWN2 := Lib.hid ((HOWN.out.kept (World.grownBy_alloc wr (.cells (dcells d) 54) none) (by simp)).kept (Below.grow hb2) (by simp))
            go_wp2_with fail
            refine (HPRE.out _).mono ?_
            rintro e w3 ⟨rfl, rfl⟩
            rw [hpp]
            go_wp2_with (first | (at_lookup; refine wpList_lookup_own_int _ rfl _ _ 59 rfl 9 3 .i64 (Maps.string_keyed Tryd.underlying9) Tryd.underlying59 Tryd.underlying3 (Tryd.zeroValue3 _) w.heap.size k D rfl HOWN2.out _ (.string d.path) rfl HKEY.out ?_; intro c hat hwc; obtain rfl : c = 1 := (by have h1 := (HNOT.out.2 d.path).symm.trans hat; simp only [DataW.lit.injEq, Lit.int.injEq, true_and] at h1; rw [← h1]; exact HSP.out.symm)))
            go_returns
            exact ⟨by rw [HF.out]; rfl, HB2.out⟩
          · try exact absurd HK4.out h4
            all_goals
              have HF : Hid (Plan.code ds = 44) := Lib.hid (Plan.code_no (by rw [HCONS.out, HOKD.out, ← HSP.out]; simp [Plan.fits, h4]))
              have q44 : (d.kind == 4) = false := by rw [beq_eq_false_iff_ne]; exact h4
              have H4 := Lib.hid h4
              clear h4
              go_wp2_with fail
              refine (path_any (bs d.path) HPSZ.out _).mono ?_
              rintro e w2 ⟨rfl, hb2⟩
              rw [bs_list, hpo]
              obtain ⟨hc2, hf2⟩ := bcell hb2
              have hzz : wr.heap.size < w2.heap.size := by have := hb2.size; simp at this; omega
              have hz0 : w.heap.size ≤ w2.heap.size := by omega
              have HB2 : Hid (Below w.heap.size w w2) := Lib.hid (by refine hBr.trans (Below.trans ?_ (hb2.mono ?_)) <;> go_grown)
              have HOWN2 := Lib.hid ((HOWN.out.kept (World.grownBy_alloc wr (.cells (dcells d) 54) none) (by simp)).kept (Below.grow hb2) (by simp))
              go_wp2_with fail
              refine (HPRE.out _).mono ?_
              rintro e w3 ⟨rfl, rfl⟩
              rw [hpp]
              go_wp2_with (first | (at_lookup; refine wpList_lookup_own_int _ rfl _ _ 59 rfl 9 3 .i64 (Maps.string_keyed Tryd.underlying9) Tryd.underlying59 Tryd.underlying3 (Tryd.zeroValue3 _) w.heap.size k D rfl HOWN2.out _ (.string d.path) rfl HKEY.out ?_; intro c hat hwc; obtain rfl : c = 2 := (by have h1 := (HNOT.out.2 d.path).symm.trans hat; simp only [DataW.lit.injEq, Lit.int.injEq, true_and] at h1; rw [← h1]; exact HSP.out.symm)))
              go_returns
              exact ⟨by rw [HF.out]; rfl, HB2.out⟩
          · have HF : Hid (Plan.code ds = 44) := Lib.hid (Plan.code_no (by rw [HCONS.out, HOKD.out, ← HSP.out]; simp [Plan.fits, h0, h1, h2]))
            have q0 : (sp == 0) = false := by rw [beq_eq_false_iff_ne]; exact h0
            have q1 : (sp == 1) = false := by rw [beq_eq_false_iff_ne]; exact h1
            have q2 : (sp == 2) = false := by rw [beq_eq_false_iff_ne]; exact h2
            go_wp2_with fail
            refine (path_any (bs d.path) HPSZ.out _).mono ?_
            rintro e w2 ⟨rfl, hb2⟩
            rw [bs_list, hpo]
            obtain ⟨hc2, hf2⟩ := bcell hb2
            have hzz : wr.heap.size < w2.heap.size := by have := hb2.size; simp at this; omega
            have hz0 : w.heap.size ≤ w2.heap.size := by omega
            have HB2 : Hid (Below w.heap.size w w2) := Lib.hid (by refine hBr.trans (Below.trans ?_ (hb2.mono ?_)) <;> go_grown)
            have HOWN2 := Lib.hid ((HOWN.out.kept (World.grownBy_alloc wr (.cells (dcells d) 54) none) (by simp)).kept (Below.grow hb2) (by simp))
            go_wp2_with fail
            refine (HPRE.out _).mono ?_
            rintro e w3 ⟨rfl, rfl⟩
            rw [hpp]
            go_wp2_with (first | (at_lookup; refine wpList_lookup_own_int _ rfl _ _ 59 rfl 9 3 .i64 (Maps.string_keyed Tryd.underlying9) Tryd.underlying59 Tryd.underlying3 (Tryd.zeroValue3 _) w.heap.size k D rfl HOWN2.out _ (.string d.path) rfl HKEY.out ?_; intro c hat hwc; obtain rfl : c = sp := (by have h1 := (HNOT.out.2 d.path).symm.trans hat; simp only [DataW.lit.injEq, Lit.int.injEq, true_and] at h1; rw [← h1]; exact HSP.out.symm)))
            go_returns
            exact ⟨by rw [HF.out]; rfl, HB2.out⟩
    · have hnil : ds.drop k = [] := List.drop_eq_nil_iff.2 (by have := HN.out; omega)
      have HOK : Hid (Plan.code ds = 0) := Lib.hid (Plan.code_yes (by rw [HCHK.out, hnil]; rfl))
      clear hnil
      go_wp2
      go_returns
      exact ⟨by rw [HOK.out]; rfl, hBr⟩
end Go.Proofs.YtnbjdfiembbmmaaDoor
