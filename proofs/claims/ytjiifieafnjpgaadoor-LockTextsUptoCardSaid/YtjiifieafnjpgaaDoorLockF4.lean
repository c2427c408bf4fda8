/- The document's May of a graph: the walk. -/
import Derived.Test.YtjiifieafnjpgaaDoorLockF3
namespace Go.Proofs.YtjiifieafnjpgaaDoor
open Go.RowKit
set_option linter.unusedSimpArgs false
set_option linter.unusedVariables false
open Lock
@[go_sem high] theorem verGuardN (w : World) (x y : Operand) (xs ys : Array Value) : (eqGuard .neq 34 x y (.agg xs) (.agg ys)).run Tryd.prog w = .ok () w :=
  run_eqGuard_agg w .neq 34 x y xs ys (by kernel_rfl)
@[go_sem high] theorem verNeq (w : World) (a b c a' b' c' : Int) : (binOp .neq 34 (.agg #[.int .i64 a, .int .i64 b, .int .i64 c]) (.agg #[.int .i64 a', .int .i64 b', .int .i64 c'])).run Tryd.prog w = .ok (.bool (!VL.V.same a b c a' b' c')) w := by
  rw [run_neq_struct, VL.verEqual]
  rfl
set_option maxHeartbeats 8000000 in
set_option maxRecDepth 100000 in
theorem rMay_any (w : World) (v : Value) (g : G) (hg : NodesAt w w.heap.size v g) (hz : ∀ x ∈ g, NdSize x) (hn : g.length ≤ 4611686018427387904) :
    Calls Tryd.prog 9 #[.agg #[v]] w fun e w' => e = .returned (.bool (may g)) ∧ Below w.heap.size w w' := by
  by_cases h0 : g.length = 0
  · obtain ⟨a, cap, rfl⟩ := hg.form
    have HF := Lib.hid (may_empty h0)
    rw [h0]
    clear hg hz h0 hn
    go_enter Tryd.func9, Tryd.ntmps9
    go_wp2
    go_returns
    exact ⟨by rw [HF.out]; rfl, by go_grown⟩
  by_cases hbig : 128 < g.length
  · obtain ⟨a, cap, rfl⟩ := hg.form
    have HF := Lib.hid (may_many hbig)
    obtain ⟨N, hN⟩ : ∃ N, N = g.length := ⟨_, rfl⟩
    rw [← hN] at hbig hn ⊢
    clear hg hz h0 hN
    go_enter Tryd.func9, Tryd.ntmps9
    go_wp2
    go_returns
    exact ⟨by rw [HF.out]; rfl, by go_grown⟩
  obtain ⟨bk, o, cap, rfl, hcap, hbk, hat⟩ := hg.at (by omega)
  obtain ⟨N, hN⟩ : ∃ N, N = g.length := ⟨_, rfl⟩
  rw [← hN] at hbig hn h0 hcap ⊢
  have HN := Lib.hid hN
  have HAT := Lib.hid hat
  have HZ := Lib.hid hz
  clear hg hz hat hN
  go_enter Tryd.func9, Tryd.ntmps9
  go_wp2
  go_loopw [4] (fun p wr => ∃ k : Nat, p = .int .i64 k ∧ k ≤ N ∧ (∀ (j : Nat) (x : Nd), j < k → g[j]? = some x → node N j x = true) ∧ Below w.heap.size w wr ∧ wr.cell? ⟨w.heap.size, 0, none⟩ = some (.slice (some ⟨bk, o, none⟩) N cap) ∧ w.heap.size < wr.heap.size) (fun p _ => N - (intOf p).toNat)
  case atStart => exact ⟨0, rfl, by omega, fun j x h => absurd h (by omega), by go_grown, World.cell?_alloc_at _ _ _ _ rfl, by simp⟩
  case round =>
    obtain ⟨k, rfl, hk, hall, hb, hgc, hsz⟩ := hrel
    have HALL := Lib.hid hall
    clear hall
    by_cases hkN : k < N
    · obtain ⟨x, hx⟩ : ∃ x, g[k]? = some x := ⟨_, List.getElem?_eq_getElem (by have := HN.out; omega)⟩
      obtain ⟨cv, ev, hp, he, e0, e1, e2, e3, e4, e5⟩ := HAT.out k x hx
      have hzx := HZ.out x (List.mem_of_getElem? hx)
      obtain ⟨nm, ⟨va, vb, vc⟩, cx, es⟩ := x
      dsimp only at hp he e0 e1 e2 e3 e4 e5
      obtain ⟨ca, cc, rfl⟩ := RowZ.form hp
      obtain ⟨ea, ec, rfl⟩ := RowZ.form he
      rw [List.length_map] at hp he e4 e5
      rw [← hb.cell (p := ⟨bk, o + k * 6, none⟩) hbk] at e0
      rw [← hb.cell (p := ⟨bk, o + k * 6 + 1, none⟩) hbk] at e1
      rw [← hb.cell (p := ⟨bk, o + k * 6 + 2, none⟩) hbk] at e2
      rw [← hb.cell (p := ⟨bk, o + k * 6 + 3, none⟩) hbk] at e3
      rw [← hb.cell (p := ⟨bk, o + k * 6 + 4, none⟩) hbk] at e4
      rw [← hb.cell (p := ⟨bk, o + k * 6 + 5, none⟩) hbk] at e5
      unfold sv at e0
      have hnl : nm.length ≤ 9223372036854775807 := hzx.1
      have HNM : Hid (∀ w', Calls Tryd.prog 21 #[.string (bs nm)] w' fun e w'' => e = .returned (.bool (Scan.nameOk nm)) ∧ w'' = w') := Lib.hid (fun w' => rname_any _ (by
        show nm.toArray.size ≤ _
        rw [List.size_toArray]; exact hnl) w')
      have HMV : Hid (∀ w', Calls Tryd.prog 22 #[.agg #[.int .i64 va, .int .i64 vb, .int .i64 vc]] w' fun e w'' => e = .returned (.bool (VL.V.may va vb vc)) ∧ Below w'.heap.size w' w'') := Lib.hid (fun w' => VL.rmay_any _ _ _ w')
      have HRP : Hid (∀ w', Below w.heap.size w w' → Calls Tryd.prog 23 #[.slice ca cx.length cc] w' fun e w'' => e = .returned (.bool (pins cx)) ∧ Below w'.heap.size w' w'') := Lib.hid (fun w' hb' =>
        rpins_any w' _ cx (RowZ.mono (RowZ.below hp hb' (Nat.le_refl _)) hb'.size) hzx.2.2.2.1 hzx.2.1)
      have HRE : Hid (∀ w', Below w.heap.size w w' → Calls Tryd.prog 24 #[.slice ea es.length ec, .int .i64 N] w' fun e w'' => e = .returned (.bool (edges N es)) ∧ Below w'.heap.size w' w'') := Lib.hid (fun w' hb' =>
        redges_any w' _ es N (RowZ.mono (RowZ.below he hb' (Nat.le_refl _)) hb'.size) hzx.2.2.2.2 hzx.2.2.1 hn)
      have HX := Lib.hid hx
      have hcl := hzx.2.1
      dsimp only at hcl
      clear hx hp he hzx
      have HNO : Hid (named k ⟨nm, ⟨va, vb, vc⟩, cx, es⟩ = false → may g = false) := Lib.hid (fun h => may_no HX.out (node_named h))
      have HNR : Hid (named k ⟨nm, ⟨va, vb, vc⟩, cx, es⟩ = true → (pins cx && edges N es) = false → may g = false) := Lib.hid (fun h h' => may_no HX.out (by rw [← HN.out, node_rest h]; exact h'))
      have HNX : Hid (named k ⟨nm, ⟨va, vb, vc⟩, cx, es⟩ = true → (pins cx && edges N es) = true → ∀ (j : Nat) (x : Nd), j < k + 1 → g[j]? = some x → node N j x = true) := Lib.hid (fun h h' j x hj hx => by
        rcases Nat.lt_or_ge j k with h'' | h''
        · exact HALL.out j x h'' hx
        · have : j = k := by omega
          subst this
          rw [HX.out] at hx
          cases hx
          rw [node_rest h]; exact h')
      obtain ⟨wa, hwa⟩ : ∃ y, y = wr.alloc (.cells #[.string (bs nm), .int .i64 va, .int .i64 vb, .int .i64 vc, .slice ca cx.length cc, .slice ea es.length ec] 38) := ⟨_, rfl⟩
      have hsix : Six wa wr.heap.size (.string (bs nm)) (.int .i64 va) (.int .i64 vb) (.int .i64 vc) (.slice ca cx.length cc) (.slice ea es.length ec) := by rw [hwa]; exact Six.new _ _ _ _ _ _ _ _
      have hba : Below w.heap.size w wa := by rw [hwa]; exact hb.alloc hb.size _
      have hza : wr.heap.size < wa.heap.size := by rw [hwa, World.size_alloc]; omega
      have hga : wa.cell? ⟨w.heap.size, 0, none⟩ = some (.slice (some ⟨bk, o, none⟩) N cap) := by rw [hwa, World.cell?_alloc_old _ _ _ (by show w.heap.size ≠ _; omega)]; exact hgc
      have HWA := Lib.hid hwa
      have HSIX := Lib.hid hsix
      have HGA := Lib.hid hga
      have hnk : (k : Int) < (N : Int) := by omega
      clear hwa hsix hga
      rcases Nat.eq_zero_or_pos k with hk0 | hk0
      · have HNZ : Hid (named k ⟨nm, ⟨va, vb, vc⟩, cx, es⟩ = (decide (nm = []) && (VL.V.same va vb vc 0 0 0 && decide (cx.length = 0)))) := Lib.hid (by rw [hk0]; exact @named_zero nm va vb vc cx es)
        have hkz : (((k : Nat) : Int) == 0) = true := by rw [beq_iff_eq]; omega
        have hkp : decide (0 < k) = false := decide_eq_false (by omega)
        have hkp' : ¬ 0 < k := by omega
        clear hk0
        by_cases hnm : nm = []
        · have hl : (bs nm).toList = [] := by rw [hnm]; exact bs_toList []
          have HNE := Lib.hid hnm
          clear hnm
          cases hsame : VL.V.same va vb vc 0 0 0
          · have HF : Hid (may g = false) := Lib.hid (HNO.out (by rw [HNZ.out, hsame, Bool.false_and, Bool.and_false]))
            go_wp2_with fail
            rw [← HWA.out]
            go_returns
            exact ⟨by rw [HF.out]; rfl, hba⟩
          · by_cases hc0 : cx.length = 0
            · have HNM2 : Hid (named k ⟨nm, ⟨va, vb, vc⟩, cx, es⟩ = true) := Lib.hid (by rw [HNZ.out, hsame, HNE.out, hc0]; rfl)
              have hcz : decide (0 < cx.length) = false := decide_eq_false (by omega)
              have hcz' : ¬ 0 < cx.length := by omega
              have HDG := Lib.hid HGA.out
              clear hc0
              go_wp2_with fail
              rw [← HWA.out]
              refine (HRP.out _ hba).mono ?_
              rintro e wp ⟨rfl, hbp⟩
              have hbwp := hba.trans (hbp.mono hba.size)
              have hzp := hbp.size
              cases hpp : pins cx
              · have HF : Hid (may g = false) := Lib.hid (HNR.out HNM2.out (by rw [hpp]; rfl))
                clear hpp
                go_wp2
                go_returns
                exact ⟨by rw [HF.out]; rfl, hbwp⟩
              · obtain ⟨r0, r1, r2, r3, r4, r5⟩ := HSIX.out.below hbp (by omega)
                go_wp2_with fail
                refine (HRE.out _ hbwp).mono ?_
                rintro e we ⟨rfl, hbe⟩
                have hbwe := hbwp.trans (hbe.mono hbwp.size)
                have hze := hbe.size
                have dg4 : we.cell? ⟨w.heap.size, 0, none⟩ = some (.slice (some ⟨bk, o, none⟩) N cap) := by rw [hbe.cell (p := ⟨w.heap.size, 0, none⟩) (by show w.heap.size < _; omega), hbp.cell (p := ⟨w.heap.size, 0, none⟩) (by show w.heap.size < _; omega)]; exact HDG.out
                have hz4 : w.heap.size < we.heap.size := by omega
                cases hee : edges N es
                · have HF : Hid (may g = false) := Lib.hid (HNR.out HNM2.out (by rw [hpp, hee]; rfl))
                  clear hpp hee
                  go_wp2
                  go_returns
                  exact ⟨by rw [HF.out]; rfl, hbwe⟩
                · have HNX2 := Lib.hid (HNX.out HNM2.out (by rw [hpp, hee]; rfl))
                  have HDG4 := Lib.hid dg4
                  clear hpp hee dg4
                  go_wp2
                  exact ⟨⟨k + 1, by simp, by omega, HNX2.out, hbwe, HDG4.out, hz4⟩, by simp [intOf]; omega⟩
            · have HF : Hid (may g = false) := Lib.hid (HNO.out (by rw [HNZ.out, decide_eq_false hc0, Bool.and_false, Bool.and_false]))
              have hcz : decide (0 < cx.length) = true := decide_eq_true (by omega)
              have hcz' : 0 < cx.length := by omega
              clear hc0
              go_wp2_with fail
              rw [← HWA.out]
              go_returns
              exact ⟨by rw [HF.out]; rfl, hba⟩
        · have HF : Hid (may g = false) := Lib.hid (HNO.out (by rw [HNZ.out, decide_eq_false hnm, Bool.false_and]))
          have hl : ¬ (bs nm).toList = [] := by rw [bs_toList]; exact hnm
          clear hnm
          go_wp2_with fail
          rw [← HWA.out]
          go_returns
          exact ⟨by rw [HF.out]; rfl, hba⟩
      · have hkz : (((k : Nat) : Int) == 0) = false := by rw [beq_eq_false_iff_ne]; omega
        have hkp : decide (0 < k) = true := decide_eq_true (by omega)
        have HNP := Lib.hid (@named_pos k hk0 ⟨nm, ⟨va, vb, vc⟩, cx, es⟩)
        cases hok : Scan.nameOk nm
        · rw [hok] at HNM
          have HF : Hid (may g = false) := Lib.hid (HNO.out (by rw [HNP.out]; show (Scan.nameOk nm && _) = false; rw [hok]; rfl))
          clear hok
          go_wp2_with fail
          refine (HNM.out _).mono ?_
          rintro e w2 ⟨rfl, rfl⟩
          go_wp2_with fail
          rw [← HWA.out]
          go_returns
          exact ⟨by rw [HF.out]; rfl, hba⟩
        · rw [hok] at HNM
          go_wp2_with fail
          refine (HNM.out _).mono ?_
          rintro e w2 ⟨rfl, rfl⟩
          go_wp2_with fail
          rw [← HWA.out]
          refine (HMV.out _).mono ?_
          rintro e w3 ⟨rfl, hb3⟩
          have hbw3 := hba.trans (hb3.mono hba.size)
          have hz3 := hb3.size
          have HS3 := Lib.hid (HSIX.out.below hb3 hza)
          have HDG : Hid (w3.cell? ⟨w.heap.size, 0, none⟩ = some (.slice (some ⟨bk, o, none⟩) N cap)) := Lib.hid (by rw [hb3.cell (p := ⟨w.heap.size, 0, none⟩) (by show w.heap.size < _; omega)]; exact HGA.out)
          cases hmv : VL.V.may va vb vc
          · have HF : Hid (may g = false) := Lib.hid (HNO.out (by rw [HNP.out]; show (Scan.nameOk nm && VL.V.may va vb vc) = false; rw [hok, hmv]; rfl))
            clear hok hmv
            go_wp2
            go_returns
            exact ⟨by rw [HF.out]; rfl, hbw3⟩
          · have HNM2 : Hid (named k ⟨nm, ⟨va, vb, vc⟩, cx, es⟩ = true) := Lib.hid (by rw [HNP.out]; show (Scan.nameOk nm && VL.V.may va vb vc) = true; rw [hok, hmv]; rfl)
            obtain ⟨d0, d1, d2, d3, d4, d5⟩ := HS3.out
            clear hok hmv
            go_wp2_with fail
            refine (HRP.out _ hbw3).mono ?_
            rintro e wp ⟨rfl, hbp⟩
            have hbwp := hbw3.trans (hbp.mono hbw3.size)
            have hzp := hbp.size
            cases hpp : pins cx
            · have HF : Hid (may g = false) := Lib.hid (HNR.out HNM2.out (by rw [hpp]; rfl))
              clear hpp
              go_wp2
              go_returns
              exact ⟨by rw [HF.out]; rfl, hbwp⟩
            · obtain ⟨r0, r1, r2, r3, r4, r5⟩ := HS3.out.below hbp (by omega)
              go_wp2_with fail
              refine (HRE.out _ hbwp).mono ?_
              rintro e we ⟨rfl, hbe⟩
              have hbwe := hbwp.trans (hbe.mono hbwp.size)
              have hze := hbe.size
              have dg4 : we.cell? ⟨w.heap.size, 0, none⟩ = some (.slice (some ⟨bk, o, none⟩) N cap) := by rw [hbe.cell (p := ⟨w.heap.size, 0, none⟩) (by show w.heap.size < _; omega), hbp.cell (p := ⟨w.heap.size, 0, none⟩) (by show w.heap.size < _; omega)]; exact HDG.out
              have hz4 : w.heap.size < we.heap.size := by omega
              cases hee : edges N es
              · have HF : Hid (may g = false) := Lib.hid (HNR.out HNM2.out (by rw [hpp, hee]; rfl))
                clear hpp hee
                go_wp2
                go_returns
                exact ⟨by rw [HF.out]; rfl, hbwe⟩
              · have HNX2 := Lib.hid (HNX.out HNM2.out (by rw [hpp, hee]; rfl))
                have HDG4 := Lib.hid dg4
                clear hpp hee dg4
                go_wp2
                exact ⟨⟨k + 1, by simp, by omega, HNX2.out, hbwe, HDG4.out, hz4⟩, by simp [intOf]; omega⟩
    · have HF : Hid (may g = true) := Lib.hid (may_yes (by have := HN.out; omega) (by have := HN.out; omega) fun j x hx => by
        have := HALL.out j x (by have := (List.getElem?_eq_some_iff.1 hx).1; have := HN.out; omega) hx
        rwa [HN.out] at this)
      go_wp2
      go_returns
      exact ⟨by rw [HF.out]; rfl, hb⟩
end Go.Proofs.YtjiifieafnjpgaaDoor
