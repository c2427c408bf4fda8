/- Are two graphs the same? The document's walk. -/
import Derived.Test.YtjiifieafnjpgaaDoorLockEq
import Derived.BigQuiet
import Derived.Deep.QuietTactic
namespace Go.Proofs.YtjiifieafnjpgaaDoor
open Go.RowKit
set_option linter.unusedSimpArgs false
set_option linter.unusedVariables false
open Lock
namespace Lock
theorem tk_next {α : Type} {a b : List α} {i : Nat} {x y : α} (h : a.take i = b.take i) (hx : a[i]? = some x) (hy : b[i]? = some y) (e : x = y) : a.take (i + 1) = b.take (i + 1) := by
  rw [List.take_add_one, List.take_add_one, h, hx, hy, e]
theorem tk_full {α : Type} {a b : List α} {n : Nat} (h : a.take n = b.take n) (ha : a.length ≤ n) (hb : b.length ≤ n) : a = b := by
  rwa [List.take_of_length_le ha, List.take_of_length_le hb] at h
theorem ne_at {α : Type} {a b : List α} {i : Nat} {x y : α} (hx : a[i]? = some x) (hy : b[i]? = some y) (h : x ≠ y) : a ≠ b := fun e => by
  subst e
  rw [hx] at hy
  exact h (Option.some.inj hy)
end Lock
set_option maxHeartbeats 8000000 in
set_option maxRecDepth 100000 in
theorem rSame_any (w : World) (v1 v2 : Value) (g h : G) (hg : NodesAt w w.heap.size v1 g) (hh : NodesAt w w.heap.size v2 h) (hzg : ∀ x ∈ g, NdSize x) (hzh : ∀ x ∈ h, NdSize x) (hn : g.length ≤ 4611686018427387904) (hn2 : h.length ≤ 4611686018427387904) :
    Calls Tryd.prog 12 #[.agg #[v1], .agg #[v2]] w fun e w' => e = .returned (.bool (decide (g = h))) ∧ Below w.heap.size w w' := by
  by_cases hl : g.length = h.length
  case neg =>
    obtain ⟨a1, c1, rfl⟩ := hg.form
    obtain ⟨a2, c2, rfl⟩ := hh.form
    have HF : Hid (decide (g = h) = false) := Lib.hid (decide_eq_false fun e => hl (by rw [e]))
    have q1 : (((g.length : Nat) : Int) == ((h.length : Nat) : Int)) = false := by rw [beq_eq_false_iff_ne]; omega
    have q2 : ¬ ((g.length : Nat) : Int) = ((h.length : Nat) : Int) := by omega
    obtain ⟨N, hN⟩ : ∃ N, N = g.length := ⟨_, rfl⟩
    obtain ⟨M, hM⟩ : ∃ N, N = h.length := ⟨_, rfl⟩
    rw [← hN] at q1 q2 hn hl ⊢
    rw [← hM] at q1 q2 hn2 hl ⊢
    clear hg hh hzg hzh hN hM
    go_enter Tryd.func12, Tryd.ntmps12
    go_wp2
    go_returns
    exact ⟨by rw [HF.out]; rfl, by go_grown⟩
  obtain ⟨N, hN⟩ : ∃ N, N = g.length := ⟨_, rfl⟩
  have HN := Lib.hid hN
  have HN2 : Hid (N = h.length) := Lib.hid (by omega)
  obtain ⟨a1, c1, hv1⟩ := hg.form
  obtain ⟨a2, c2, hv2⟩ := hh.form
  rw [← hN] at hv1 hn
  rw [← HN2.out] at hv2
  have HG := Lib.hid hg
  have HH := Lib.hid hh
  have HZG := Lib.hid hzg
  have HZH := Lib.hid hzh
  subst hv1 hv2
  clear hg hh hzg hzh hN hl hn2
  go_enter Tryd.func12, Tryd.ntmps12
  go_wp2
  go_loopw [5] (fun p wr => ∃ k : Nat, p = .int .i64 k ∧ k ≤ N ∧ g.take k = h.take k ∧ Below w.heap.size w wr ∧ wr.cell? ⟨w.heap.size, 0, none⟩ = some (.slice a1 N c1) ∧ wr.cell? ⟨w.heap.size + 1, 0, none⟩ = some (.slice a2 N c2) ∧ w.heap.size + 1 < wr.heap.size) (fun p _ => N - (intOf p).toNat)
  case atStart => exact ⟨0, rfl, by omega, rfl, by go_grown, by rw [World.cell?_alloc_old _ _ _ (by show w.heap.size ≠ _; simp)]; exact World.cell?_alloc_at _ _ _ _ rfl, World.cell?_alloc_at _ _ _ _ (by simp), by simp⟩
  case round =>
    obtain ⟨k, rfl, hk, htk, hb, hg1, hg2, hsz⟩ := hrel
    obtain ⟨wo, rfl⟩ : ∃ x, x = wr := ⟨wr, rfl⟩
    have HTK := Lib.hid htk
    clear htk
    by_cases hkN : k < N
    · obtain ⟨x, hx⟩ : ∃ x, g[k]? = some x := ⟨_, List.getElem?_eq_getElem (by have := HN.out; omega)⟩
      obtain ⟨y, hy⟩ : ∃ y, h[k]? = some y := ⟨_, List.getElem?_eq_getElem (by have := HN2.out; omega)⟩
      obtain ⟨bk, o, cap, hve, hcap, hbk, hat⟩ := HG.out.at (by have := HN.out; omega)
      obtain ⟨bl, ol, capl, hvl, hcapl, hbl, hal⟩ := HH.out.at (by have := HN2.out; omega)
      rw [← HN.out] at hve
      rw [← HN2.out] at hvl
      cases hve
      cases hvl
      obtain ⟨cv, ev, hp, he, e0, e1, e2, e3, e4, e5⟩ := hat k x hx
      obtain ⟨cu, eu, hr, ht, f0, f1, f2, f3, f4, f5⟩ := hal k y hy
      have hzx := HZG.out x (List.mem_of_getElem? hx)
      have hzy := HZH.out y (List.mem_of_getElem? hy)
      have HX := Lib.hid hx
      have HY := Lib.hid hy
      have HDIFF : Hid (x ≠ y → decide (g = h) = false) := Lib.hid (fun hne => decide_eq_false (ne_at hx hy hne))
      have HEQ : Hid (x = y → g.take (k + 1) = h.take (k + 1)) := Lib.hid (fun e => tk_next HTK.out hx hy e)
      clear hx hy hat hal
      obtain ⟨nm, ⟨va, vb, vc⟩, cx, es⟩ := x
      obtain ⟨nm2, ⟨ua, ub, uc⟩, cy, et⟩ := y
      dsimp only at hp he e0 e1 e2 e3 e4 e5 hr ht f0 f1 f2 f3 f4 f5
      have z1 : cx.length ≤ 4611686018427387904 := hzx.2.1
      have z2 : es.length ≤ 4611686018427387904 := hzx.2.2.1
      have z3 : cy.length ≤ 4611686018427387904 := hzy.2.1
      have z4 : et.length ≤ 4611686018427387904 := hzy.2.2.1
      clear hzx hzy
      obtain ⟨ca, cc, rfl⟩ := RowZ.form hp
      obtain ⟨ea, ec, rfl⟩ := RowZ.form he
      obtain ⟨cb, cd, rfl⟩ := RowZ.form hr
      obtain ⟨eb, ed, rfl⟩ := RowZ.form ht
      rw [List.length_map] at hp he hr ht e4 e5 f4 f5
      rw [← hb.cell (p := ⟨bk, o + k * 6, none⟩) hbk] at e0
      rw [← hb.cell (p := ⟨bk, o + k * 6 + 1, none⟩) hbk] at e1
      rw [← hb.cell (p := ⟨bk, o + k * 6 + 2, none⟩) hbk] at e2
      rw [← hb.cell (p := ⟨bk, o + k * 6 + 3, none⟩) hbk] at e3
      rw [← hb.cell (p := ⟨bk, o + k * 6 + 4, none⟩) hbk] at e4
      rw [← hb.cell (p := ⟨bk, o + k * 6 + 5, none⟩) hbk] at e5
      rw [← hb.cell (p := ⟨bl, ol + k * 6, none⟩) hbl] at f0
      rw [← hb.cell (p := ⟨bl, ol + k * 6 + 1, none⟩) hbl] at f1
      rw [← hb.cell (p := ⟨bl, ol + k * 6 + 2, none⟩) hbl] at f2
      rw [← hb.cell (p := ⟨bl, ol + k * 6 + 3, none⟩) hbl] at f3
      rw [← hb.cell (p := ⟨bl, ol + k * 6 + 4, none⟩) hbl] at f4
      rw [← hb.cell (p := ⟨bl, ol + k * 6 + 5, none⟩) hbl] at f5
      unfold sv at e0 f0
      have HP := Lib.hid hp
      have HE := Lib.hid he
      have HR := Lib.hid hr
      have HT := Lib.hid ht
      have hnk : (k : Int) < (N : Int) := by omega
      have hbk2 : bk < wo.heap.size := by have := hb.size; omega
      have hbl2 : bl < wo.heap.size := by have := hb.size; omega
      have hszo : w.heap.size < wo.heap.size := by omega
      clear hp he hr ht hcap hcapl
      obtain ⟨wb, hwb⟩ : ∃ z, z = (wo.alloc (.cells #[.string (bs nm), .int .i64 va, .int .i64 vb, .int .i64 vc, .slice ca cx.length cc, .slice ea es.length ec] 38)).alloc (.cells #[.string (bs nm2), .int .i64 ua, .int .i64 ub, .int .i64 uc, .slice cb cy.length cd, .slice eb et.length ed] 38) := ⟨_, rfl⟩
      have hs1 : Six wb wo.heap.size (.string (bs nm)) (.int .i64 va) (.int .i64 vb) (.int .i64 vc) (.slice ca cx.length cc) (.slice ea es.length ec) := by
        rw [hwb]
        exact (Six.new wo _ _ _ _ _ _ _).below ((Below.refl _ _).alloc (Nat.le_refl _) _) (by rw [World.size_alloc]; omega)
      have hs2 : Six wb (wo.heap.size + 1) (.string (bs nm2)) (.int .i64 ua) (.int .i64 ub) (.int .i64 uc) (.slice cb cy.length cd) (.slice eb et.length ed) := by
        rw [hwb]
        have h := Six.new (wo.alloc (.cells #[.string (bs nm), .int .i64 va, .int .i64 vb, .int .i64 vc, .slice ca cx.length cc, .slice ea es.length ec] 38)) (.string (bs nm2)) (.int .i64 ua) (.int .i64 ub) (.int .i64 uc) (.slice cb cy.length cd) (.slice eb et.length ed) 38
        rwa [World.size_alloc] at h
      have hbb : Below w.heap.size w wb := by rw [hwb]; exact (hb.alloc (by omega) _).alloc (by rw [World.size_alloc]; omega) _
      have hob : Below wo.heap.size wo wb := by rw [hwb]; exact ((Below.refl _ _).alloc (Nat.le_refl _) _).alloc (by rw [World.size_alloc]; omega) _
      have hgb1 : wb.cell? ⟨w.heap.size, 0, none⟩ = some (.slice (some ⟨bk, o, none⟩) N c1) := by rw [hob.cell (p := ⟨w.heap.size, 0, none⟩) hszo]; exact hg1
      have hgb2 : wb.cell? ⟨w.heap.size + 1, 0, none⟩ = some (.slice (some ⟨bl, ol, none⟩) N c2) := by rw [hob.cell (p := ⟨w.heap.size + 1, 0, none⟩) hsz]; exact hg2
      have hszb : w.heap.size + 1 < wb.heap.size := by have := hob.size; omega
      have HWB := Lib.hid hwb
      have HS1 := Lib.hid hs1
      have HS2 := Lib.hid hs2
      have HGB1 := Lib.hid hgb1
      have HGB2 := Lib.hid hgb2
      clear hwb hs1 hs2 hgb1 hgb2
      by_cases hnm : nm = nm2
      · have q1 : ((bs nm).toList == (bs nm2).toList) = true := by rw [sv_inj]; exact decide_eq_true hnm
        cases hv : VL.V.same va vb vc ua ub uc
        · have HF : Hid (decide (g = h) = false) := Lib.hid (HDIFF.out fun e => by
            injection e with _ e2
            injection e2 with e3 e4 e5
            rw [same_iffL.2 ⟨e3, e4, e5⟩] at hv
            exact absurd hv (by simp))
          clear hnm
          go_wp2_with fail
          rw [← HWB.out]
          go_returns
          exact ⟨by rw [HF.out]; rfl, hbb⟩
        · have hv3 := same_iffL.1 hv
          by_cases hlc : cx.length = cy.length
          · by_cases hle : es.length = et.length
            · have HLC := Lib.hid hlc
              have HLE := Lib.hid hle
              have HNM := Lib.hid hnm
              have HV3 := Lib.hid hv3
              have q2 : (((cx.length : Nat) : Int) == ((cy.length : Nat) : Int)) = true := by rw [beq_iff_eq]; omega
              have q2b : (((cx.length : Nat) : Int) != ((cy.length : Nat) : Int)) = false := by rw [bne, q2]; rfl
              have q3 : (((es.length : Nat) : Int) == ((et.length : Nat) : Int)) = true := by rw [beq_iff_eq]; omega
              have q3b : (((es.length : Nat) : Int) != ((et.length : Nat) : Int)) = false := by rw [bne, q3]; rfl
              clear hnm hv3 hlc hle
              go_wp2_with fail
              rw [← HWB.out]
              go_loopw [8] (fun p wr => ∃ i m : Nat, p = .int .i64 i ∧ i ≤ cx.length ∧ cx.take i = cy.take i ∧ wr = wb.drewN m) (fun p _ => cx.length - (intOf p).toNat)
              case atStart => exact ⟨0, 0, rfl, by omega, rfl, rfl⟩
              case round =>
                obtain ⟨i, m, rfl, hi, htk2, rfl⟩ := hrel
                have HTK2 := Lib.hid htk2
                clear htk2
                by_cases hil : i < cx.length
                · obtain ⟨p, hxp⟩ : ∃ z, cx[i]? = some z := ⟨_, List.getElem?_eq_getElem hil⟩
                  obtain ⟨q, hxq⟩ : ∃ z, cy[i]? = some z := ⟨_, List.getElem?_eq_getElem (by have := HLC.out; omega)⟩
                  obtain ⟨pn, ⟨pa, pb, pc⟩⟩ := p
                  obtain ⟨pm, ⟨qa, qb, qc⟩⟩ := q
                  obtain ⟨r1, s1, t1, hve, _, hr1, hu⟩ := HP.out.some (by rw [List.length_map]; omega)
                  obtain ⟨r2, s2, t2, hve2, _, hr2, hu2⟩ := HR.out.some (by rw [List.length_map]; have := HLC.out; omega)
                  rw [List.length_map] at hve hve2
                  cases hve
                  cases hve2
                  have hq1 : (cx.map pinCells)[i]? = some (pinCells ⟨pn, ⟨pa, pb, pc⟩⟩) := by rw [List.getElem?_map, hxp]; rfl
                  have hq2 : (cy.map pinCells)[i]? = some (pinCells ⟨pm, ⟨qa, qb, qc⟩⟩) := by rw [List.getElem?_map, hxq]; rfl
                  have e0 := hu i _ hq1 0 _ rfl
                  rw [← hbb.cell (p := ⟨r1, s1 + i * 4 + 0, none⟩) (by show r1 < _; omega)] at e0
                  have f0 := hu2 i _ hq2 0 _ rfl
                  rw [← hbb.cell (p := ⟨r2, s2 + i * 4 + 0, none⟩) (by show r2 < _; omega)] at f0
                  have e1 := hu i _ hq1 1 _ rfl
                  rw [← hbb.cell (p := ⟨r1, s1 + i * 4 + 1, none⟩) (by show r1 < _; omega)] at e1
                  have f1 := hu2 i _ hq2 1 _ rfl
                  rw [← hbb.cell (p := ⟨r2, s2 + i * 4 + 1, none⟩) (by show r2 < _; omega)] at f1
                  have e2 := hu i _ hq1 2 _ rfl
                  rw [← hbb.cell (p := ⟨r1, s1 + i * 4 + 2, none⟩) (by show r1 < _; omega)] at e2
                  have f2 := hu2 i _ hq2 2 _ rfl
                  rw [← hbb.cell (p := ⟨r2, s2 + i * 4 + 2, none⟩) (by show r2 < _; omega)] at f2
                  have e3 := hu i _ hq1 3 _ rfl
                  rw [← hbb.cell (p := ⟨r1, s1 + i * 4 + 3, none⟩) (by show r1 < _; omega)] at e3
                  have f3 := hu2 i _ hq2 3 _ rfl
                  rw [← hbb.cell (p := ⟨r2, s2 + i * 4 + 3, none⟩) (by show r2 < _; omega)] at f3
                  rw [Nat.add_zero] at e0 f0
                  unfold sv at e0 f0
                  obtain ⟨d0, d1, d2, d3, d4, d5⟩ := HS1.out
                  obtain ⟨g0, g1, g2, g3, g4, g5⟩ := HS2.out
                  have hqi : (i : Int) < (cx.length : Int) := by omega
                  have hqi2 : (i : Int) < (cy.length : Int) := by have := HLC.out; omega
                  have HXP := Lib.hid hxp
                  have HXQ := Lib.hid hxq
                  clear hu hu2 hq1 hq2 hxp hxq
                  cases hsm : samePn ⟨pn, ⟨pa, pb, pc⟩⟩ ⟨pm, ⟨qa, qb, qc⟩⟩
                  · have HF : Hid (decide (g = h) = false) := Lib.hid (HDIFF.out fun e => by
                      injection e with _ _ e3 e4
                      exact ne_at HXP.out HXQ.out (of_decide_eq_false hsm) e3)
                    go_wp2
                    go_quiet (fail)
                    go_wp2
                    go_returns
                    exact ⟨by rw [HF.out]; rfl, below_drewN (below_drewN hbb _) _⟩
                  · have HNX2 := Lib.hid (tk_next HTK2.out HXP.out HXQ.out (of_decide_eq_true hsm))
                    go_wp2
                    go_quiet (fail)
                    go_wp2
                    go_roundw
                    case rel => exact ⟨i + 1, _, by go_num, by omega, HNX2.out, by first | rfl | rw [World.drewN_drewN]⟩
                    case measure => simp [intOf]; omega
                · have HC : Hid (cx = cy) := Lib.hid (tk_full HTK2.out (by omega) (by have := HLC.out; omega))
                  obtain ⟨d0, d1, d2, d3, d4, d5⟩ := HS1.out
                  obtain ⟨g0, g1, g2, g3, g4, g5⟩ := HS2.out
                  have hqi : ¬ (i : Int) < (cx.length : Int) := by omega
                  go_wp2
                  clear d0 d1 d2 d3 d4 d5 g0 g1 g2 g3 g4 g5 hqi
                  go_loopw [9] (fun p wr => ∃ i m : Nat, p = .int .i64 i ∧ i ≤ es.length ∧ es.take i = et.take i ∧ wr = wb.drewN m) (fun p _ => es.length - (intOf p).toNat)
                  case atStart => exact ⟨0, m, rfl, by omega, rfl, rfl⟩
                  case round =>
                    obtain ⟨j, m2, rfl, hi, htk2, rfl⟩ := hrel
                    have HTK2 := Lib.hid htk2
                    clear htk2
                    by_cases hil : j < es.length
                    · obtain ⟨p, hxp⟩ : ∃ z, es[j]? = some z := ⟨_, List.getElem?_eq_getElem hil⟩
                      obtain ⟨q, hxq⟩ : ∃ z, et[j]? = some z := ⟨_, List.getElem?_eq_getElem (by have := HLE.out; omega)⟩
                      obtain ⟨pn, pd⟩ := p
                      obtain ⟨pm, qd⟩ := q
                      obtain ⟨r1, s1, t1, hve, _, hr1, hu⟩ := HE.out.some (by rw [List.length_map]; omega)
                      obtain ⟨r2, s2, t2, hve2, _, hr2, hu2⟩ := HT.out.some (by rw [List.length_map]; have := HLE.out; omega)
                      rw [List.length_map] at hve hve2
                      cases hve
                      cases hve2
                      have hq1 : (es.map edgeCells)[j]? = some (edgeCells ⟨pn, pd⟩) := by rw [List.getElem?_map, hxp]; rfl
                      have hq2 : (et.map edgeCells)[j]? = some (edgeCells ⟨pm, qd⟩) := by rw [List.getElem?_map, hxq]; rfl
                      have e0 := hu j _ hq1 0 _ rfl
                      rw [← hbb.cell (p := ⟨r1, s1 + j * 2 + 0, none⟩) (by show r1 < _; omega)] at e0
                      have f0 := hu2 j _ hq2 0 _ rfl
                      rw [← hbb.cell (p := ⟨r2, s2 + j * 2 + 0, none⟩) (by show r2 < _; omega)] at f0
                      have e1 := hu j _ hq1 1 _ rfl
                      rw [← hbb.cell (p := ⟨r1, s1 + j * 2 + 1, none⟩) (by show r1 < _; omega)] at e1
                      have f1 := hu2 j _ hq2 1 _ rfl
                      rw [← hbb.cell (p := ⟨r2, s2 + j * 2 + 1, none⟩) (by show r2 < _; omega)] at f1
                      rw [Nat.add_zero] at e0 f0
                      unfold sv at e0 f0
                      obtain ⟨d0, d1, d2, d3, d4, d5⟩ := HS1.out
                      obtain ⟨g0, g1, g2, g3, g4, g5⟩ := HS2.out
                      have hqi : (j : Int) < (es.length : Int) := by omega
                      have hqi2 : (j : Int) < (et.length : Int) := by have := HLE.out; omega
                      have HXP := Lib.hid hxp
                      have HXQ := Lib.hid hxq
                      clear hu hu2 hq1 hq2 hxp hxq
                      cases hsm : sameEg ⟨pn, pd⟩ ⟨pm, qd⟩
                      · have HF : Hid (decide (g = h) = false) := Lib.hid (HDIFF.out fun e => by
                          injection e with _ _ e3 e4
                          exact ne_at HXP.out HXQ.out (of_decide_eq_false hsm) e4)
                        go_wp2
                        go_quiet (fail)
                        go_wp2
                        go_returns
                        exact ⟨by rw [HF.out]; rfl, below_drewN (below_drewN hbb _) _⟩
                      · have HNX2 := Lib.hid (tk_next HTK2.out HXP.out HXQ.out (of_decide_eq_true hsm))
                        go_wp2
                        go_quiet (fail)
                        go_wp2
                        go_roundw
                        case rel => exact ⟨j + 1, _, by go_num, by omega, HNX2.out, by first | rfl | rw [World.drewN_drewN]⟩
                        case measure => simp [intOf]; omega
                    · have HC2 : Hid (es = et) := Lib.hid (tk_full HTK2.out (by omega) (by have := HLE.out; omega))
                      have HNX3 := Lib.hid (HEQ.out (by rw [HNM.out, HC.out, HC2.out, HV3.out.1, HV3.out.2.1, HV3.out.2.2]))
                      obtain ⟨d0, d1, d2, d3, d4, d5⟩ := HS1.out
                      obtain ⟨g0, g1, g2, g3, g4, g5⟩ := HS2.out
                      have hqi : ¬ (j : Int) < (es.length : Int) := by omega
                      go_wp2
                      exact ⟨⟨k + 1, by simp, by omega, HNX3.out, below_drewN hbb _, HGB1.out, HGB2.out, hszb⟩, by simp [intOf]; omega⟩
            · have HF : Hid (decide (g = h) = false) := Lib.hid (HDIFF.out fun e => hle (by injection e with _ _ _ e4; rw [e4]))
              have q2 : (((cx.length : Nat) : Int) == ((cy.length : Nat) : Int)) = true := by rw [beq_iff_eq]; omega
              have q2b : (((cx.length : Nat) : Int) != ((cy.length : Nat) : Int)) = false := by rw [bne, q2]; rfl
              have q3 : (((es.length : Nat) : Int) == ((et.length : Nat) : Int)) = false := by rw [beq_eq_false_iff_ne]; omega
              have q3b : (((es.length : Nat) : Int) != ((et.length : Nat) : Int)) = true := by rw [bne, q3]; rfl
              have q4 : ¬ es.length = et.length := hle
              clear hnm hv3 hlc hle
              go_wp2_with fail
              rw [← HWB.out]
              go_returns
              exact ⟨by rw [HF.out]; rfl, hbb⟩
          · have HF : Hid (decide (g = h) = false) := Lib.hid (HDIFF.out fun e => hlc (by injection e with _ _ e3 _; rw [e3]))
            have q2 : (((cx.length : Nat) : Int) == ((cy.length : Nat) : Int)) = false := by rw [beq_eq_false_iff_ne]; omega
            have q2b : (((cx.length : Nat) : Int) != ((cy.length : Nat) : Int)) = true := by rw [bne, q2]; rfl
            have q4 : ¬ cx.length = cy.length := hlc
            clear hnm hv3 hlc
            go_wp2_with fail
            rw [← HWB.out]
            go_returns
            exact ⟨by rw [HF.out]; rfl, hbb⟩
      · have HF : Hid (decide (g = h) = false) := Lib.hid (HDIFF.out fun e => hnm (by injection e))
        have q1 : ((bs nm).toList == (bs nm2).toList) = false := by rw [sv_inj]; exact decide_eq_false hnm
        clear hnm
        go_wp2_with fail
        rw [← HWB.out]
        go_returns
        exact ⟨by rw [HF.out]; rfl, hbb⟩
    · have HF : Hid (decide (g = h) = true) := Lib.hid (decide_eq_true (tk_full HTK.out (by have := HN.out; omega) (by have := HN2.out; omega)))
      have hnk : ¬ (k : Int) < (N : Int) := by omega
      go_wp2
      go_returns
      exact ⟨by rw [HF.out]; rfl, hb⟩
end Go.Proofs.YtjiifieafnjpgaaDoor
