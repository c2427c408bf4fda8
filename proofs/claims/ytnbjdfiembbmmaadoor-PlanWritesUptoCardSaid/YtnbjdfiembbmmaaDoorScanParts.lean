/- The law ScanParts: the walk. -/
import Derived.Test.YtnbjdfiembbmmaaDoorScanLinesLaw
import Derived.Test.YtnbjdfiembbmmaaDoorScanPlain
import Derived.Test.YtnbjdfiembbmmaaDoorAppend
namespace Go.Proofs.YtnbjdfiembbmmaaDoor
open Go.RowKit
set_option linter.unusedSimpArgs false
set_option linter.unusedVariables false
/-- What Lines answers where its bound is the text's size. -/
theorem ans_ok {s : ByteArray} {most : Int} {ls : List (List (List UInt8))} (hm : ¬ most < s.size) (h : Scan.spec s.data.toList = .inr ls) : Scan.ans s most = (0, 0, ls) := by
  unfold Scan.ans; rw [if_neg hm, h]
theorem ans_bad {s : ByteArray} {most : Int} {n : Nat} (hm : ¬ most < s.size) (h : Scan.spec s.data.toList = .inl n) : Scan.ans s most = (22, (n : Int), []) := by
  unfold Scan.ans; rw [if_neg hm, h]
theorem Lines.grid_rows {ts tl : TypeId} {w : World} {base Bw : Nat} {v : Value} {hs : List (Nat × Nat)} {ls : List (List (List UInt8))} (h : Lines ts tl w base Bw v hs ls) :
    (List.zipWith (fun h (l : List (List UInt8)) => rv h l.length) hs ls).length = ls.length ∧ ∀ (i : Nat) (u : Value) (l : List (List UInt8)), (List.zipWith (fun h (l : List (List UInt8)) => rv h l.length) hs ls)[i]? = some u → ls[i]? = some l → Row w w.heap.size u (l.map sv) := by
  refine ⟨by simp [h.len], fun i u l hu hl => ?_⟩
  simp only [List.getElem?_zipWith] at hu
  cases hh : hs[i]? with
  | none => rw [hh] at hu; simp at hu
  | some x =>
    rw [hh, hl] at hu
    simp at hu
    subst hu
    exact Row.of_own (h.rows i x l hh hl)
theorem Lines.below {ts tl : TypeId} {w w' : World} {base Bw : Nat} {v : Value} {hs : List (Nat × Nat)} {ls : List (List (List UInt8))} (h : Lines ts tl w base Bw v hs ls) (hb : Below w.heap.size w w') : Lines ts tl w' base Bw v hs ls :=
  h.kept (Below.grow hb) (fun g e => by simp at e)
theorem rv_one (hs : List (Nat × Nat)) (ls : List (List (List UInt8))) : ∀ u ∈ List.zipWith (fun h (l : List (List UInt8)) => rv h l.length) hs ls, u.oneCell' = true := by
  intro u hu
  obtain ⟨i, hi, rfl⟩ := List.mem_iff_getElem.1 hu
  simp only [List.getElem_zipWith]
  rfl
/-- Rows of two lists, one behind the other. -/
theorem Grid.two {w : World} {B : Nat} {v : Value} {va vb : List Value} {la lb : List (List (List UInt8))} (h : Row w B v (va ++ vb)) (ha : va.length = la.length) (hb : vb.length = lb.length)
    (hA : ∀ (i : Nat) (u : Value) (l : List (List UInt8)), va[i]? = some u → la[i]? = some l → Row w B u (l.map sv)) (hB : ∀ (i : Nat) (u : Value) (l : List (List UInt8)), vb[i]? = some u → lb[i]? = some l → Row w B u (l.map sv)) : Grid w B v (la ++ lb) := by
  refine ⟨va ++ vb, h, by simp [ha, hb], fun i u l hu hl => ?_⟩
  by_cases hi : i < va.length
  · rw [List.getElem?_append_left hi] at hu
    rw [List.getElem?_append_left (by omega)] at hl
    exact hA i u l hu hl
  · rw [List.getElem?_append_right (by omega)] at hu
    rw [List.getElem?_append_right (by omega)] at hl
    rw [← ha] at hl
    exact hB _ u l hu hl
set_option maxHeartbeats 4000000 in
set_option maxRecDepth 100000 in
theorem parts_law (s t : ByteArray) (hs : s.size ≤ 1048576) (ht : t.size ≤ 1048576) (w : World) (hE : Env w) :
    Calls Tryd.prog 9 #[.string s, .string t] w fun e w' => e = .returned (.bool true) ∧ Below w.heap.size w w' := by
  obtain ⟨i1, hi1, hy0, hy1, hy2⟩ := info_parts infoStrs
  have HE := Lib.hid hE
  clear hE
  have hst : (s ++ t).size = s.size + t.size := ByteArray.size_append
  have hadd : ∀ w, (Op.stringOp .add s t).run Tryd.prog w = .ok (.string (s ++ t)) w := fun w => run_string_add_sum w _ _ (by omega)
  have hlt : (s ++ t).data.toList = s.data.toList ++ t.data.toList := by simp
  obtain ⟨st, hstt⟩ : ∃ st, st = s ++ t := ⟨_, rfl⟩
  rw [← hstt] at hst hadd hlt
  have HST := Lib.hid hst
  have HLT := Lib.hid hlt
  clear hstt hst hlt
  cases hsp : Scan.spec s.data.toList with
  | inl n =>
    have HA := Lib.hid (ans_bad (s := s) (most := s.size) (by omega) hsp)
    clear hsp
    go_enter Tryd.func9, Tryd.ntmps9
    go_wp2_with fail
    refine (lines_ans s _ (by omega) _).mono ?_
    rintro e w1 ⟨va, hsa, rfl, hla, hb1⟩
    rw [HA.out] at hla ⊢
    have HE1 := Lib.hid (HE.out.to hb1)
    go_wp2_with fail
    refine (lines_ans t _ (by omega) _).mono ?_
    rintro e w2 ⟨vb, hsb, rfl, hlb, hb2⟩
    have HE2 := Lib.hid (HE1.out.to hb2)
    go_wp2_with fail
    refine (lines_ans st _ (by have := HST.out; omega) _).mono ?_
    rintro e w3 ⟨vx, hsx, rfl, hlx, hb3⟩
    have HE3 := Lib.hid (HE2.out.to hb3)
    go_wp2_with fail
    refine (known_any _ HE3.out).mono ?_
    rintro e w4 ⟨rfl, hb4⟩
    go_wp2
    go_returns
    exact ⟨rfl, ((hb1.trans (hb2.mono hb1.size)).trans (hb3.mono (by have := hb1.size; have := hb2.size; omega))).trans (hb4.mono (by have := hb1.size; have := hb2.size; have := hb3.size; omega))⟩
  | inr la =>
    have HA := Lib.hid (ans_ok (s := s) (most := s.size) (by omega) hsp)
    have hz1 := Scan.ans_sizes s s.size
    rw [HA.out] at hz1
    have hla1 : la.length ≤ 1048577 := by have : la.length ≤ s.size + 1 := hz1.1; omega
    cases htp : Scan.spec t.data.toList with
    | inl n =>
      have hx : Scan.spec st.data.toList = .inl (n + la.length) := by rw [HLT.out, Scan.spec_two hsp, htp]
      have HB := Lib.hid (ans_bad (s := t) (most := t.size) (by omega) htp)
      have HX := Lib.hid (ans_bad (s := st) (most := (s.size : Int) + t.size) (by have := HST.out; omega) hx)
      have hn : n ≤ 9223372036854 := by
        obtain ⟨done, rest, hg, h1, h2⟩ := Scan.spec_torn htp
        have := Scan.count_unlines hg
        have h3 : (Scan.unlines done).count 10 ≤ (Scan.unlines done).length := List.count_le_length
        have h4 := congrArg List.length h2
        rw [bal_length] at h4
        simp at h4
        omega
      have hnn : (((n + la.length : Nat) : Int) == (n : Int) + (la.length : Int)) = true := by simp
      clear hsp htp hx hz1
      go_enter Tryd.func9, Tryd.ntmps9
      go_wp2_with fail
      refine (lines_ans s _ (by omega) _).mono ?_
      rintro e w1 ⟨va, hsa, rfl, hla, hb1⟩
      rw [HA.out] at hla ⊢
      obtain ⟨a0, c0, rfl⟩ := own_form hla.row
      have HLA := Lib.hid hla
      clear hla
      have HE1 := Lib.hid (HE.out.to hb1)
      go_wp2_with fail
      refine (lines_ans t _ (by omega) _).mono ?_
      rintro e w2 ⟨vb, hsb, rfl, hlb, hb2⟩
      rw [HB.out] at hlb ⊢
      have HE2 := Lib.hid (HE1.out.to hb2)
      go_wp2_with fail
      refine (lines_ans st _ (by have := HST.out; omega) _).mono ?_
      rintro e w3 ⟨vx, hsx, rfl, hlx, hb3⟩
      rw [HX.out] at hlx ⊢
      obtain ⟨a2, c2, rfl⟩ := own_form hlx.row
      have HE3 := Lib.hid (HE2.out.to hb3)
      go_wp2_with fail
      refine (known_any _ HE3.out).mono ?_
      rintro e w4 ⟨rfl, hb4⟩
      go_wp2
      go_returns
      exact ⟨rfl, ((hb1.trans (hb2.mono hb1.size)).trans (hb3.mono (by have := hb1.size; have := hb2.size; omega))).trans (hb4.mono (by have := hb1.size; have := hb2.size; have := hb3.size; omega))⟩
    | inr lb =>
      have hx : Scan.spec st.data.toList = .inr (la ++ lb) := by rw [HLT.out, Scan.spec_two hsp, htp]
      have HB := Lib.hid (ans_ok (s := t) (most := t.size) (by omega) htp)
      have HX := Lib.hid (ans_ok (s := st) (most := (s.size : Int) + t.size) (by have := HST.out; omega) hx)
      have hz2 := Scan.ans_sizes t t.size
      rw [HB.out] at hz2
      have hz3 := Scan.ans_sizes st ((s.size : Int) + t.size)
      rw [HX.out] at hz3
      have hlb1 : lb.length ≤ 1048577 := by have : lb.length ≤ t.size + 1 := hz2.1; omega
      have HZ3 := Lib.hid hz3.2
      clear hsp htp hx hz1 hz2 hz3
      go_enter Tryd.func9, Tryd.ntmps9
      go_wp2_with fail
      refine (lines_ans s _ (by omega) _).mono ?_
      rintro e w1 ⟨va, hsa, rfl, hla, hb1⟩
      rw [HA.out] at hla ⊢
      have HLA := Lib.hid hla
      clear hla
      have HE1 := Lib.hid (HE.out.to hb1)
      go_wp2_with fail
      refine (lines_ans t _ (by omega) _).mono ?_
      rintro e w2 ⟨vb, hsb, rfl, hlb, hb2⟩
      rw [HB.out] at hlb ⊢
      have HLB := Lib.hid hlb
      clear hlb
      have HE2 := Lib.hid (HE1.out.to hb2)
      go_wp2_with fail
      refine (lines_ans st _ (by have := HST.out; omega) _).mono ?_
      rintro e w3 ⟨vx, hsx, rfl, hlx, hb3⟩
      rw [HX.out] at hlx ⊢
      have HLX := Lib.hid hlx
      clear hlx
      have HE3 := Lib.hid (HE2.out.to hb3)
      go_wp2_with fail
      refine (known_any _ HE3.out).mono ?_
      rintro e w4 ⟨rfl, hb4⟩
      -- what the three hold in the world now
      have LA4 := Lib.hid (((HLA.out.below hb2).below hb3).below hb4)
      have LB4 := Lib.hid ((HLB.out.below hb3).below hb4)
      have GX4 := Lib.hid ((Grid.of_lines (HLX.out)).below hb4 (Nat.le_refl _))
      have hzz : w.heap.size ≤ w4.heap.size := by have := hb1.size; have := hb2.size; have := hb3.size; have := hb4.size; omega
      go_wp2_with (first
        | (at_builtin; refine wpList_append_src rfl _ _ 34 rfl w4.heap.size 38 i1 (.slice none 0 0) 1 24 Tryd.underlying34 hi1 hy0 hy1 hy2 rfl (by decide) (.slice none 0 0) 0 [] rfl (World.ownsRow_nil _ _ _ _) va la.length _ rfl LA4.out.row.src (rv_one _ _) (by unfold maxLen; omega) (by omega) (by simp) ?_; intro v5 w5 hown5 hgrow5; have HO5 := Lib.hid hown5; have HG5 := Lib.hid hgrow5; have hB5 : Below w4.heap.size w4 w5 := Below.grown (Below.refl _ _) hgrow5 (by simp) (fun g e => by simp [Value.ownBlock] at e); have hz5 := hB5.size; have LB5 := Lib.hid (LB4.out.below hB5); clear hown5 hgrow5)
        | (at_builtin; refine wpList_append_src rfl _ _ 34 rfl w4.heap.size 38 i1 (.slice none 0 0) 1 24 Tryd.underlying34 hi1 hy0 hy1 hy2 rfl (by decide) v5 (0 + la.length) _ rfl HO5.out vb lb.length _ rfl LB5.out.row.src (rv_one _ _) (by unfold maxLen; omega) (by omega) (by omega) ?_; intro v6 w6 hown6 hgrow6; have HO6 := Lib.hid hown6; have HG6 := Lib.hid hgrow6; have hB6 : Below w4.heap.size w4 w6 := Below.grown hB5 hgrow6 (by omega) (fun g e => (HO5.out.lt g e).1); have hz6 := hB6.size; clear hown6 hgrow6)
        | (go_at_call 22; refine (same_any (B := w6.heap.size) (la := la ++ lb) (lb := la ++ lb) ((GX4.out.below hB6 (by have := hb4.size; omega)).mono (by have := hb4.size; omega)) (Grid.two (Row.of_own HO6.out) LA4.out.grid_rows.1 LB4.out.grid_rows.1 (fun i u l hu hl => ((LA4.out.grid_rows.2 i u l hu hl).below hB6 (Nat.le_refl _)).mono hz6) (fun i u l hu hl => ((LB4.out.grid_rows.2 i u l hu hl).below hB6 (Nat.le_refl _)).mono hz6)) (by simp; omega) (by simp; omega) (fun l hl => by have := (HZ3.out l hl).1; have := HST.out; omega) (fun l hl => by have := (HZ3.out l hl).1; have := HST.out; omega)).mono ?_; rintro e w7 ⟨rfl, m7, rfl⟩; rw [decide_eq_true rfl]))
      go_returns
      exact ⟨rfl, Below.drewN ((((hb1.trans (hb2.mono hb1.size)).trans (hb3.mono (by have := hb1.size; have := hb2.size; omega))).trans (hb4.mono (by have := hb1.size; have := hb2.size; have := hb3.size; omega))).trans (hB6.mono hzz)) m7⟩
end Go.Proofs.YtnbjdfiembbmmaaDoor
