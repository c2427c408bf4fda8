/- May a graph be? The program's walk. -/
import Derived.Test.YtjiifieafnjpgaaDoorLkW
namespace Go.Proofs.YtjiifieafnjpgaaDoor
open Go.RowKit
set_option linter.unusedSimpArgs false
set_option linter.unusedVariables false
namespace Lock
/-- No list is longer than memory can hold. -/
def NdSize (x : Nd) : Prop := x.name.length ≤ 9223372036854775807 ∧ x.ctx.length ≤ 4611686018427387904 ∧ x.edges.length ≤ 4611686018427387904 ∧ (∀ p ∈ x.ctx, p.name.length ≤ 9223372036854775807) ∧ ∀ p ∈ x.edges, p.label.length ≤ 9223372036854775807
theorem nodesFrom_of {many : Nat} : ∀ (g : G) (i : Nat), (∀ (k : Nat) (x : Nd), g[k]? = some x → node many (i + k) x = true) → nodesFrom many i g = true
  | [], i, h => rfl
  | x :: r, i, h => by
    unfold nodesFrom
    rw [Bool.and_eq_true]
    refine ⟨h 0 x rfl, nodesFrom_of r (i + 1) fun k y hy => ?_⟩
    have := h (k + 1) y (by simpa using hy)
    rwa [show i + (k + 1) = i + 1 + k by omega] at this
theorem may_yes {g : G} (h1 : 1 ≤ g.length) (h2 : g.length ≤ 128) (h : ∀ (k : Nat) (x : Nd), g[k]? = some x → node g.length k x = true) : may g = true := by
  unfold may
  simp only [Bool.and_eq_true, decide_eq_true_eq]
  exact ⟨h1, h2, nodesFrom_of g 0 fun k x hx => by rw [Nat.zero_add]; exact h k x hx⟩
theorem may_no {g : G} {k : Nat} {x : Nd} (hx : g[k]? = some x) (h : node g.length k x = false) : may g = false := by
  refine Bool.eq_false_iff.2 fun hm => ?_
  have := nodes_at g 0 (may_form hm).2.2 k x hx
  rw [Nat.zero_add, h] at this
  exact absurd this (by simp)
theorem may_empty {g : G} (h : g.length = 0) : may g = false := by
  unfold may; rw [decide_eq_false (by omega)]; rfl
theorem may_many {g : G} (h : 128 < g.length) : may g = false := by
  unfold may; rw [decide_eq_false (p := g.length ≤ 128) (by omega)]; simp
/-- The six cells of a node. -/
structure Six (w : World) (b : Nat) (v0 v1 v2 v3 v4 v5 : Value) : Prop where
  c0 : w.cell? ⟨b, 0, none⟩ = some v0
  c1 : w.cell? ⟨b, 1, none⟩ = some v1
  c2 : w.cell? ⟨b, 2, none⟩ = some v2
  c3 : w.cell? ⟨b, 3, none⟩ = some v3
  c4 : w.cell? ⟨b, 4, none⟩ = some v4
  c5 : w.cell? ⟨b, 5, none⟩ = some v5
theorem Six.below {w w' : World} {n b : Nat} {v0 v1 v2 v3 v4 v5 : Value} (h : Six w b v0 v1 v2 v3 v4 v5) (hb : Below n w w') (hn : b < n) : Six w' b v0 v1 v2 v3 v4 v5 :=
  ⟨by rw [hb.cell (p := ⟨b, 0, none⟩) hn]; exact h.c0, by rw [hb.cell (p := ⟨b, 1, none⟩) hn]; exact h.c1, by rw [hb.cell (p := ⟨b, 2, none⟩) hn]; exact h.c2, by rw [hb.cell (p := ⟨b, 3, none⟩) hn]; exact h.c3, by rw [hb.cell (p := ⟨b, 4, none⟩) hn]; exact h.c4, by rw [hb.cell (p := ⟨b, 5, none⟩) hn]; exact h.c5⟩
theorem Six.new (w : World) (v0 v1 v2 v3 v4 v5 : Value) (t : TypeId) : Six (w.alloc (.cells #[v0, v1, v2, v3, v4, v5] t)) w.heap.size v0 v1 v2 v3 v4 v5 :=
  ⟨World.cell?_alloc_at _ _ _ _ rfl, World.cell?_alloc_at _ _ _ _ rfl, World.cell?_alloc_at _ _ _ _ rfl, World.cell?_alloc_at _ _ _ _ rfl, World.cell?_alloc_at _ _ _ _ rfl, World.cell?_alloc_at _ _ _ _ rfl⟩
theorem named_zero {nm : List UInt8} {a b c : Int} {cx : List Pn} {es : List Eg} : named 0 ⟨nm, ⟨a, b, c⟩, cx, es⟩ = (decide (nm = []) && (VL.V.same a b c 0 0 0 && decide (cx.length = 0))) := by
  unfold named
  rw [if_pos rfl]
  have e1 : decide ((⟨a, b, c⟩ : Ve) = v0) = VL.V.same a b c 0 0 0 := by
    unfold v0 VL.V.same
    rw [Bool.eq_iff_iff]
    simp
  have e2 : cx.isEmpty = decide (cx.length = 0) := by cases cx <;> simp
  show (decide (nm = []) && (decide ((⟨a, b, c⟩ : Ve) = v0) && cx.isEmpty)) = _
  rw [e1, e2]
theorem named_pos {i : Nat} (h : 0 < i) {x : Nd} : named i x = (Scan.nameOk x.name && x.v.may) := by
  unfold named
  rw [if_neg (by omega)]
theorem node_named {many i : Nat} {x : Nd} (h : named i x = false) : node many i x = false := by unfold node; rw [h]; rfl
theorem node_rest {many i : Nat} {x : Nd} (h : named i x = true) : node many i x = (pins x.ctx && edges many x.edges) := by unfold node; rw [h]; rfl
end Lock
open Lock
set_option maxHeartbeats 4000000 in
set_option maxRecDepth 100000 in
theorem May_any (w : World) (v : Value) (g : G) (hg : NodesAt w w.heap.size v g) (hz : ∀ x ∈ g, NdSize x) (hn : g.length ≤ 4611686018427387904) :
    Calls Tryd.prog 8 #[.agg #[v]] w fun e w' => e = .returned (.bool (may g)) ∧ Below w.heap.size w w' := by
  by_cases h0 : g.length = 0
  · obtain ⟨a, cap, rfl⟩ := hg.form
    have HF := Lib.hid (may_empty h0)
    rw [h0]
    clear hg hz h0 hn
    go_enter Tryd.func8, Tryd.ntmps8
    go_wp2
    go_returns
    exact ⟨by rw [HF.out]; rfl, by go_grown⟩
  by_cases hbig : 128 < g.length
  · obtain ⟨a, cap, rfl⟩ := hg.form
    have HF := Lib.hid (may_many hbig)
    obtain ⟨N, hN⟩ : ∃ N, N = g.length := ⟨_, rfl⟩
    rw [← hN] at hbig hn ⊢
    clear hg hz h0 hN
    go_enter Tryd.func8, Tryd.ntmps8
    go_wp2
    go_returns
    exact ⟨by rw [HF.out]; rfl, by go_grown⟩
  obtain ⟨bk, o, cap, rfl, hcap, hbk, hat⟩ := hg.at (by omega)
  obtain ⟨N, hN⟩ : ∃ N, N = g.length := ⟨_, rfl⟩
  rw [← hN] at hbig hn h0 hcap ⊢
  have HN := Lib.hid hN
  have HAT := Lib.hid hat
  have HZ := Lib.hid hz
  clear hg hz hat hN
  go_enter Tryd.func8, Tryd.ntmps8
  go_wp2
  go_loopw [19] (fun p wr => ∃ k : Nat, p = .int .i64 k ∧ k ≤ N ∧ (∀ (j : Nat) (x : Nd), j < k → g[j]? = some x → node N j x = true) ∧ Below w.heap.size w wr ∧ wr.cell? ⟨w.heap.size, 0, none⟩ = some (.slice (some ⟨bk, o, none⟩) N cap) ∧ w.heap.size < wr.heap.size) (fun p _ => N - (intOf p).toNat)
  case atStart => exact ⟨0, rfl, by omega, fun j x h => absurd h (by omega), by go_grown, World.cell?_alloc_at _ _ _ _ rfl, by simp⟩
  case round =>
    obtain ⟨k, rfl, hk, hall, hb, hgc, hsz⟩ := hrel
    have HALL := Lib.hid hall
    have HGC := Lib.hid hgc
    clear hall hgc
    by_cases hkN : k < N
    · obtain ⟨x, hx⟩ : ∃ x, g[k]? = some x := ⟨_, List.getElem?_eq_getElem (by have := HN.out; omega)⟩
      obtain ⟨cv, ev, hp, he, e0, e1, e2, e3, e4, e5⟩ := HAT.out k x hx
      have hzx := HZ.out x (List.mem_of_getElem? hx)
      obtain ⟨nm, ⟨va, vb, vc⟩, cx, es⟩ := x
      dsimp only at hp he e0 e1 e2 e3 e4 e5
      obtain ⟨ca, cc, rfl⟩ := RowZ.form hp
      obtain ⟨ea, ec, rfl⟩ := RowZ.form he
      rw [List.length_map] at hp he e4 e5
      rw [← hb.cell (p := ⟨bk, o + k * 6, none⟩) hbk] at e0
      rw [← hb.cell (p := ⟨bk, o + k * 6 + 1, none⟩) hbk] at e1
      rw [← hb.cell (p := ⟨bk, o + k * 6 + 2, none⟩) hbk] at e2
      rw [← hb.cell (p := ⟨bk, o + k * 6 + 3, none⟩) hbk] at e3
      rw [← hb.cell (p := ⟨bk, o + k * 6 + 4, none⟩) hbk] at e4
      rw [← hb.cell (p := ⟨bk, o + k * 6 + 5, none⟩) hbk] at e5
      unfold sv at e0
      have HNM : Hid (∀ w', Calls Tryd.prog 18 #[.string (bs nm)] w' fun e w'' => e = .returned (.bool (Scan.nameOk nm)) ∧ Below w'.heap.size w' w'') := Lib.hid (fun w' => name_any _ (by
        show nm.toArray.size ≤ _
        rw [List.size_toArray]; exact hzx.1) w')
      have HMV : Hid (∀ w', Calls Tryd.prog 19 #[.agg #[.int .i64 va, .int .i64 vb, .int .i64 vc]] w' fun e w'' => e = .returned (.bool (VL.V.may va vb vc)) ∧ Below w'.heap.size w' w'') := Lib.hid (fun w' => VL.may_any _ _ _ w')
      have HND : Hid (∀ w', Below w.heap.size w w' → Calls Tryd.prog 20 #[.agg #[.string (bs nm), .int .i64 va, .int .i64 vb, .int .i64 vc, .slice ca cx.length cc, .slice ea es.length ec], .int .i64 N] w' fun e w'' => e = .returned (.bool (pins cx && edges N es)) ∧ Below w'.heap.size w' w'') := Lib.hid (fun w' hb' =>
        node_any w' ⟨nm, ⟨va, vb, vc⟩, cx, es⟩ (.slice ca cx.length cc) (.slice ea es.length ec) N hn (RowZ.mono (RowZ.below hp hb' (Nat.le_refl _)) hb'.size) (RowZ.mono (RowZ.below he hb' (Nat.le_refl _)) hb'.size) hzx.2.1 hzx.2.2.1 hzx.2.2.2.1 hzx.2.2.2.2)
      have HX := Lib.hid hx
      have hcl := hzx.2.1
      dsimp only at hcl
      clear hx hp he hzx
      have HNO : Hid (named k ⟨nm, ⟨va, vb, vc⟩, cx, es⟩ = false → may g = false) := Lib.hid (fun h => may_no HX.out (node_named h))
      have HNR : Hid (named k ⟨nm, ⟨va, vb, vc⟩, cx, es⟩ = true → (pins cx && edges N es) = false → may g = false) := Lib.hid (fun h h' => may_no HX.out (by rw [← HN.out, node_rest h]; exact h'))
      have HNX : Hid (named k ⟨nm, ⟨va, vb, vc⟩, cx, es⟩ = true → (pins cx && edges N es) = true → ∀ (j : Nat) (x : Nd), j < k + 1 → g[j]? = some x → node N j x = true) := Lib.hid (fun h h' j x hj hx => by
        rcases Nat.lt_or_ge j k with h'' | h''
        · exact HALL.out j x h'' hx
        · have : j = k := by omega
          subst this
          rw [HX.out] at hx
          cases hx
          rw [node_rest h]; exact h')
      obtain ⟨wa, hwa⟩ : ∃ y, y = wr.alloc (.cells #[.string (bs nm), .int .i64 va, .int .i64 vb, .int .i64 vc, .slice ca cx.length cc, .slice ea es.length ec] 38) := ⟨_, rfl⟩
      have hsix : Six wa wr.heap.size (.string (bs nm)) (.int .i64 va) (.int .i64 vb) (.int .i64 vc) (.slice ca cx.length cc) (.slice ea es.length ec) := by rw [hwa]; exact Six.new _ _ _ _ _ _ _ _
      have hba : Below w.heap.size w wa := by rw [hwa]; exact hb.alloc hb.size _
      have hza : wa.heap.size = wr.heap.size + 1 := by rw [hwa]; exact Array.size_push ..
      have hga : wa.cell? ⟨w.heap.size, 0, none⟩ = some (.slice (some ⟨bk, o, none⟩) N cap) := by rw [hwa, World.cell?_alloc_old _ _ _ (by show w.heap.size ≠ _; omega)]; exact HGC.out
      have HWA := Lib.hid hwa
      have HSIX := Lib.hid hsix
      have HGA := Lib.hid hga
      clear hwa hsix hga
      rcases Nat.eq_zero_or_pos k with hk0 | hk0
      · have HNZ : Hid (named k ⟨nm, ⟨va, vb, vc⟩, cx, es⟩ = (decide (nm = []) && (VL.V.same va vb vc 0 0 0 && decide (cx.length = 0)))) := Lib.hid (by rw [hk0]; exact @named_zero nm va vb vc cx es)
        have hkz : (((k : Nat) : Int) == 0) = true := by rw [beq_iff_eq]; omega
        clear hk0
        by_cases hnm : nm = []
        · have hne : Scan.nameOk nm = false := by rw [hnm]; rfl
          rw [hne] at HNM
          have hl : (bs nm).toList = [] := by rw [hnm]; exact bs_toList []
          have HNE := Lib.hid hnm
          clear hnm hne
          go_wp2_with fail
          rw [← HWA.out]
          refine (HNM.out _).mono ?_
          rintro e w2 ⟨rfl, hb2⟩
          obtain ⟨d0, d1, d2, d3, d4, d5⟩ := HSIX.out.below hb2 (by omega)
          have dg : w2.cell? ⟨w.heap.size, 0, none⟩ = some (.slice (some ⟨bk, o, none⟩) N cap) := by rw [hb2.cell (p := ⟨w.heap.size, 0, none⟩) (by show w.heap.size < _; omega)]; exact HGA.out
          have hbw2 := hba.trans (hb2.mono hba.size)
          cases hsame : VL.V.same va vb vc 0 0 0
          · have HF : Hid (may g = false) := Lib.hid (HNO.out (by rw [HNZ.out, hsame, Bool.false_and, Bool.and_false]))
            go_wp2
            go_returns
            exact ⟨by rw [HF.out]; rfl, hbw2⟩
          · by_cases hc0 : cx.length = 0
            · have HNM2 : Hid (named k ⟨nm, ⟨va, vb, vc⟩, cx, es⟩ = true) := Lib.hid (by rw [HNZ.out, hsame, HNE.out, hc0]; rfl)
              have hcz : (((cx.length : Nat) : Int) == 0) = true := by rw [beq_iff_eq]; omega
              clear hc0
              go_wp2_with fail
              refine (HND.out _ hbw2).mono ?_
              rintro e w4 ⟨rfl, hb4⟩
              have hbw4 := hbw2.trans (hb4.mono hbw2.size)
              have dg4 : w4.cell? ⟨w.heap.size, 0, none⟩ = some (.slice (some ⟨bk, o, none⟩) N cap) := by rw [hb4.cell (p := ⟨w.heap.size, 0, none⟩) (by have := hb2.size; show w.heap.size < _; omega)]; exact dg
              have hz4 : w.heap.size < w4.heap.size := by have := hb2.size; have := hb4.size; omega
              cases hrest : pins cx && edges N es
              · have HF : Hid (may g = false) := Lib.hid (HNR.out HNM2.out hrest)
                clear hrest
                go_wp2
                go_returns
                exact ⟨by rw [HF.out]; rfl, hbw4⟩
              · have HNX2 := Lib.hid (HNX.out HNM2.out hrest)
                clear hrest
                have HDG4 := Lib.hid dg4
                clear dg4
                go_wp2
                exact ⟨⟨k + 1, by simp, by omega, HNX2.out, hbw4, HDG4.out, hz4⟩, by simp [intOf]; omega⟩
            · have HF : Hid (may g = false) := Lib.hid (HNO.out (by rw [HNZ.out, decide_eq_false hc0, Bool.and_false, Bool.and_false]))
              have hcz : (((cx.length : Nat) : Int) == 0) = false := by rw [beq_eq_false_iff_ne]; omega
              clear hc0
              go_wp2
              go_returns
              exact ⟨by rw [HF.out]; rfl, hbw2⟩
        · have HF : Hid (may g = false) := Lib.hid (HNO.out (by rw [HNZ.out, decide_eq_false hnm, Bool.false_and]))
          have hl : ¬ (bs nm).toList = [] := by rw [bs_toList]; exact hnm
          clear hnm
          cases hok : Scan.nameOk nm
          · rw [hok] at HNM
            clear hok
            go_wp2_with fail
            rw [← HWA.out]
            refine (HNM.out _).mono ?_
            rintro e w2 ⟨rfl, hb2⟩
            obtain ⟨d0, d1, d2, d3, d4, d5⟩ := HSIX.out.below hb2 (by omega)
            have hbw2 := hba.trans (hb2.mono hba.size)
            go_wp2
            go_returns
            exact ⟨by rw [HF.out]; rfl, hbw2⟩
          · rw [hok] at HNM
            clear hok
            go_wp2_with fail
            rw [← HWA.out]
            refine (HNM.out _).mono ?_
            rintro e w2 ⟨rfl, hb2⟩
            have hz2 := hb2.size
            have HS2 := Lib.hid (HSIX.out.below hb2 (by omega))
            obtain ⟨d0, d1, d2, d3, d4, d5⟩ := HS2.out
            have hbw2 := hba.trans (hb2.mono hba.size)
            go_wp2_with fail
            refine (HMV.out _).mono ?_
            rintro e w3 ⟨rfl, hb3⟩
            have hbw3 := hbw2.trans (hb3.mono hbw2.size)
            clear d0 d1 d2 d3 d4 d5
            obtain ⟨d0, d1, d2, d3, d4, d5⟩ := HS2.out.below hb3 (by omega)
            go_wp2
            go_returns
            exact ⟨by rw [HF.out]; rfl, hbw3⟩
      · have hkz : (((k : Nat) : Int) == 0) = false := by rw [beq_eq_false_iff_ne]; omega
        have HNP := Lib.hid (@named_pos k hk0 ⟨nm, ⟨va, vb, vc⟩, cx, es⟩)
        cases hok : Scan.nameOk nm
        · rw [hok] at HNM
          have HF : Hid (may g = false) := Lib.hid (HNO.out (by rw [HNP.out]; show (Scan.nameOk nm && _) = false; rw [hok]; rfl))
          clear hok
          go_wp2_with fail
          rw [← HWA.out]
          refine (HNM.out _).mono ?_
          rintro e w2 ⟨rfl, hb2⟩
          have hbw2 := hba.trans (hb2.mono hba.size)
          go_wp2
          go_returns
          exact ⟨by rw [HF.out]; rfl, hbw2⟩
        · rw [hok] at HNM
          go_wp2_with fail
          rw [← HWA.out]
          refine (HNM.out _).mono ?_
          rintro e w2 ⟨rfl, hb2⟩
          have hz2 := hb2.size
          have HS2 := Lib.hid (HSIX.out.below hb2 (by omega))
          obtain ⟨d0, d1, d2, d3, d4, d5⟩ := HS2.out
          have dg : w2.cell? ⟨w.heap.size, 0, none⟩ = some (.slice (some ⟨bk, o, none⟩) N cap) := by rw [hb2.cell (p := ⟨w.heap.size, 0, none⟩) (by show w.heap.size < _; omega)]; exact HGA.out
          have hbw2 := hba.trans (hb2.mono hba.size)
          go_wp2_with fail
          refine (HMV.out _).mono ?_
          rintro e w3 ⟨rfl, hb3⟩
          have hbw3 := hbw2.trans (hb3.mono hbw2.size)
          cases hmv : VL.V.may va vb vc
          · have HF : Hid (may g = false) := Lib.hid (HNO.out (by rw [HNP.out]; show (Scan.nameOk nm && VL.V.may va vb vc) = false; rw [hok, hmv]; rfl))
            clear hok hmv
            go_wp2
            go_returns
            exact ⟨by rw [HF.out]; rfl, hbw3⟩
          · have HNM2 : Hid (named k ⟨nm, ⟨va, vb, vc⟩, cx, es⟩ = true) := Lib.hid (by rw [HNP.out]; show (Scan.nameOk nm && VL.V.may va vb vc) = true; rw [hok, hmv]; rfl)
            clear hok hmv d0 d1 d2 d3 d4 d5
            obtain ⟨d0, d1, d2, d3, d4, d5⟩ := HS2.out.below hb3 (by omega)
            have dg3 : w3.cell? ⟨w.heap.size, 0, none⟩ = some (.slice (some ⟨bk, o, none⟩) N cap) := by rw [hb3.cell (p := ⟨w.heap.size, 0, none⟩) (by show w.heap.size < _; omega)]; exact dg
            go_wp2_with fail
            refine (HND.out _ hbw3).mono ?_
            rintro e w4 ⟨rfl, hb4⟩
            have hbw4 := hbw3.trans (hb4.mono hbw3.size)
            have dg4 : w4.cell? ⟨w.heap.size, 0, none⟩ = some (.slice (some ⟨bk, o, none⟩) N cap) := by rw [hb4.cell (p := ⟨w.heap.size, 0, none⟩) (by have := hb3.size; show w.heap.size < _; omega)]; exact dg3
            have hz4 : w.heap.size < w4.heap.size := by have := hb3.size; have := hb4.size; omega
            cases hrest : pins cx && edges N es
            · have HF : Hid (may g = false) := Lib.hid (HNR.out HNM2.out hrest)
              clear hrest
              go_wp2
              go_returns
              exact ⟨by rw [HF.out]; rfl, hbw4⟩
            · have HNX2 := Lib.hid (HNX.out HNM2.out hrest)
              clear hrest
              have HDG4 := Lib.hid dg4
              clear dg4
              go_wp2
              exact ⟨⟨k + 1, by simp, by omega, HNX2.out, hbw4, HDG4.out, hz4⟩, by simp [intOf]; omega⟩
    · have HF : Hid (may g = true) := Lib.hid (may_yes (by have := HN.out; omega) (by have := HN.out; omega) fun j x hx => by
        have := HALL.out j x (by have := (List.getElem?_eq_some_iff.1 hx).1; have := HN.out; omega) hx
        rwa [HN.out] at this)
      go_wp2
      go_returns
      exact ⟨by rw [HF.out]; rfl, hb⟩
end Go.Proofs.YtjiifieafnjpgaaDoor
