/- The law ScanLines: the walk. -/
import Derived.Test.YtnbjdfiembbmmaaDoorScanAns
import Derived.Test.YtnbjdfiembbmmaaDoorWild
namespace Go.Proofs.YtnbjdfiembbmmaaDoor
open Go.RowKit
set_option linter.unusedSimpArgs false
set_option linter.unusedVariables false
theorem drewN_grown (w : World) (m : Nat) : w.grownBy (w.drewN m) none := ⟨rfl, rfl, rfl, Nat.le_refl _, fun _ _ _ => rfl⟩
set_option maxHeartbeats 4000000 in
set_option maxRecDepth 100000 in
theorem lines_law (s : ByteArray) (most : Int) (hs : s.size ≤ 1048576) (w : World) (hE : Env w) :
    Calls Tryd.prog 7 #[.string s, .int .i64 most] w fun e w' => e = .returned (.bool true) ∧ Below w.heap.size w w' := by
  obtain ⟨i0, hi, hz0, hz1, hz2⟩ := info_parts infoStr
  have HE := Lib.hid hE
  clear hE
  obtain ⟨⟨c, n, ls⟩, hans⟩ : ∃ a, a = Scan.ans s most := ⟨_, rfl⟩
  have hsz := Scan.ans_sizes s most
  rw [← hans] at hsz
  have HSZ := Lib.hid hsz
  have HANS := Lib.hid hans
  have hcc : (c == c) = true := by simp
  have hnn : (n == n) = true := by simp
  clear hsz hans
  go_enter Tryd.func7, Tryd.ntmps7
  go_wp2_with fail
  refine (rlines_ans s most (by omega) _).mono ?_
  rintro e w1 ⟨vb, hsb, rfl, hlb, hb1⟩
  rw [← HANS.out] at hlb ⊢
  have HG := Lib.hid (Grid.of_lines hlb)
  have HE1 := Lib.hid (HE.out.to hb1)
  clear hlb
  go_wp2
  go_loopw [8] (fun p wr => ∃ r : Nat, p = .int .i64 r ∧ r ≤ 2 ∧ Env wr ∧ Grid wr w1.heap.size vb ls ∧ w1.heap.size ≤ wr.heap.size ∧ Below w.heap.size w wr) (fun p _ => 2 - (intOf p).toNat)
  case atStart => exact ⟨0, rfl, by omega, HE1.out, HG.out, Nat.le_refl _, hb1⟩
  case round =>
    obtain ⟨r, rfl, hr2, hEr, hGr, hzr, hBr⟩ := hrel
    obtain ⟨wo, rfl⟩ : ∃ x, x = wr := ⟨wr, rfl⟩
    have HEr := Lib.hid hEr
    have HGr := Lib.hid hGr
    clear hEr hGr
    by_cases hr : r < 2
    · go_wp2_with fail
      refine (lines_ans s most (by omega) _).mono ?_
      rintro e w2 ⟨va, hsa, rfl, hla, hb2⟩
      rw [← HANS.out] at hla ⊢
      have hzz2 := hb2.size
      have HG1 := Lib.hid (Grid.of_lines hla)
      have HG2 := Lib.hid (HGr.out.below hb2 hzr)
      obtain ⟨a0, c0, hva⟩ := own_form hla.row
      subst hva
      have HLA := Lib.hid hla
      clear hla
      go_wp2_with fail
      refine (same_any (la := ls) (lb := ls) HG1.out (HG2.out.mono (Nat.le_trans hzr hzz2)) (by have : ls.length ≤ s.size + 1 := HSZ.out.1; omega) (by have : ls.length ≤ s.size + 1 := HSZ.out.1; omega) (fun l hl => by have := (HSZ.out.2 l hl).1; omega) (fun l hl => by have := (HSZ.out.2 l hl).1; omega)).mono ?_
      rintro e w3 ⟨rfl, m3, rfl⟩
      rw [decide_eq_true rfl]
      have hlen : ls.length ≤ 1048577 := by have : ls.length ≤ s.size + 1 := HSZ.out.1; omega
      obtain ⟨N, hN⟩ : ∃ N, N = ls.length := ⟨_, rfl⟩
      rw [← hN] at hlen ⊢
      have HNN := Lib.hid hN
      clear hN
      go_wp2
      go_loopw [12] (fun p wi => ∃ i : Nat, p = .int .i64 i ∧ i ≤ N ∧ Wild 9 38 wi wo.heap.size (.slice a0 N c0) hsa (ls.map List.length) i ∧ wo.heap.size ≤ wi.heap.size ∧ Below wo.heap.size wo wi) (fun p _ => N - (intOf p).toNat)
      case atStart => exact ⟨0, rfl, by omega, by rw [HNN.out]; exact Wild.of_lines (HLA.out.kept (drewN_grown w2 m3) (fun g e => by simp at e)), by simpa using hzz2, Below.drewN hb2 m3⟩
      case round =>
        obtain ⟨i, rfl, hiN, hwild, hzi, hBi⟩ := hrel
        obtain ⟨wi, rfl⟩ : ∃ x, x = wr := ⟨wr, rfl⟩
        have hnl : (ls.map List.length).length = N := by rw [HNN.out]; simp
        have HNL := Lib.hid hnl
        have HWI := Lib.hid hwild
        clear hwild hnl
        by_cases hiL : i < N
        · obtain ⟨x, hx⟩ : ∃ x, hsa[i]? = some x := ⟨_, List.getElem?_eq_getElem (by have := HWI.out.len; have := HNL.out; omega)⟩
          obtain ⟨nn, hn⟩ : ∃ n, (ls.map List.length)[i]? = some n := ⟨_, List.getElem?_eq_getElem (by have := HNL.out; omega)⟩
          have hnsz : nn ≤ 1048577 ∧ 0 < nn := by
            rw [List.getElem?_map] at hn
            cases hl : ls[i]? with
            | none => rw [hl] at hn; simp at hn
            | some l =>
              rw [hl] at hn; simp at hn; subst hn
              have := HSZ.out.2 l (List.mem_of_getElem? hl)
              omega
          obtain ⟨hn1, hn2⟩ := hnsz
          have hsome : ∃ g, a0 = some ⟨g, 0, none⟩ ∧ wo.heap.size ≤ g := by
            obtain ⟨vs, hv, _⟩ := HWI.out.row
            rw [HNL.out] at hv
            obtain ⟨g, cap, e, hg, _⟩ := own_some hv (by omega)
            injection e with e1 e2 e3
            exact ⟨g, e1, hg⟩
          obtain ⟨g, rfl, hgr⟩ := hsome
          have HX := Lib.hid hx
          have HNI := Lib.hid hn
          clear hx hn
          go_wp2
          go_loopw [13] (fun p wk => ∃ k : Nat, p = .int .i64 k ∧ k ≤ nn ∧ Wild 9 38 wk wo.heap.size (.slice (some ⟨g, 0, none⟩) N c0) hsa (ls.map List.length) i ∧ wo.heap.size ≤ wk.heap.size ∧ Below wo.heap.size wo wk) (fun p _ => nn - (intOf p).toNat)
          case atStart => exact ⟨0, rfl, by omega, HWI.out, hzi, hBi⟩
          case round =>
            obtain ⟨k, rfl, hkn, hwk, hzk, hBk⟩ := hrel
            obtain ⟨wk, rfl⟩ : ∃ x, x = wr := ⟨wr, rfl⟩
            have HWK := Lib.hid hwk
            clear hwk
            obtain ⟨vs, hv, hvj⟩ := HWK.out.row
            rw [HNL.out] at hv
            obtain ⟨xs, hxs⟩ := HWK.out.rows i x nn (Nat.le_refl _) HX.out HNI.out
            have e1 : wk.cell? ⟨g, i, none⟩ = some (.slice (some ⟨x.1, 0, none⟩) nn x.2) := by
              rw [hv.cellAt i (by omega), hvj i x nn (Nat.le_refl _) HX.out HNI.out]; rfl
            have HV := Lib.hid hv
            have HXS := Lib.hid hxs
            have hxr : wo.heap.size ≤ x.1 ∧ x.1 < wk.heap.size := hxs.lt x.1 rfl
            clear hv hvj hxs
            by_cases hk : k < nn
            · obtain ⟨u, hu⟩ : ∃ u, xs[k]? = some u := ⟨_, List.getElem?_eq_getElem (by have := HXS.out.1; omega)⟩
              have e2 : wk.cell? ⟨x.1, k, none⟩ = some u := by
                rw [HXS.out.cellAt k (by omega), hu]
              have e3 : wk.frozen? ⟨x.1, k, none⟩ = false := HXS.out.frozenAt k
              clear hu
              go_wp2
              go_roundw
              case rel => exact ⟨k + 1, by go_num, by omega, HWK.out.store (by decide) HX.out HNI.out hk _, by simpa using hzk, hBk.setCell (p := ⟨x.1, k, none⟩) hxr.1 _⟩
              case measure => simp [intOf]; omega
            · go_wp2_with (at_builtin; refine wpList_append_own _ rfl _ _ 38 rfl wo.heap.size 9 i0 (.string ByteArray.empty) 1 16 Tryd.underlying38 hi hz0 hz1 hz2 rfl (by decide) _ _ _ rfl (HXS.out.alloc _) ⟨wk.heap.size, 0, none⟩ 1 1 [.string ⟨#[33]⟩] rfl rfl (cell_one_new _ _ _) (fun x hx => by simp at hx; subst hx; rfl) (by unfold maxLen; omega) (by omega) (by simp; omega) ?_; intro v4 w4 hown4 hgrow4 hnil4; have hrow4 := (HV.out.alloc (.cells #[.string ⟨#[33]⟩] 9)).kept hgrow4 (own_apart HV.out HXS.out (by decide)); have e4 := hrow4.cellAt i (by omega); have e5 := hrow4.frozenAt i; have HR4 := Lib.hid hrow4; obtain ⟨u4, hu4⟩ : ∃ u, vs[i]? = some u := ⟨_, List.getElem?_eq_getElem (by have := HV.out.1; omega)⟩; rw [hu4] at e4; clear hrow4; obtain ⟨g4, cap4, rfl, _, _⟩ := own_some hown4 (by omega))
              have hwn := Wild.next (ts := 9) (tl := 38) (by decide) (w := wk) (gv := g) (cv := c0) (by rw [HNL.out]; exact HWK.out) HX.out HNI.out (World.grownBy_alloc wk (.cells #[.string ⟨#[33]⟩] 9) none) hgrow4 (.slice (some ⟨g4, 0, none⟩) (nn + 1) cap4)
              rw [HNL.out] at hwn
              have hB4 : Below wo.heap.size wo w4 := Below.grown (hBk.alloc hzk _) hgrow4 (by simp; omega) (fun k e => by cases e; exact hxr.1)
              have hz4 := hgrow4.size
              go_roundw
              case rel => exact ⟨i + 1, by go_num, by omega, hwn, by simp at hz4 ⊢; omega, hB4.setCell (p := ⟨g, i, none⟩) hgr _⟩
              case measure => simp [intOf]; omega
        · go_wp2
          go_roundw
          case rel => exact ⟨r + 1, by go_num, by omega, HEr.out.to hBi, HGr.out.below hBi hzr, by omega, hBr.trans (hBi.mono hBr.size)⟩
          case measure => simp [intOf]; omega
    · go_wp2_with fail
      refine (known_any _ HEr.out).mono ?_
      rintro e w5 ⟨rfl, hb5⟩
      go_wp2
      go_returns
      exact ⟨rfl, hBr.trans (hb5.mono hBr.size)⟩
end Go.Proofs.YtnbjdfiembbmmaaDoor
