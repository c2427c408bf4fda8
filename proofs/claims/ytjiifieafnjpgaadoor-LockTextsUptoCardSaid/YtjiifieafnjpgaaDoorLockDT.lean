/- LockTexts: two graphs have one text just if they are the same. -/
import Derived.Test.YtjiifieafnjpgaaDoorLockDM
namespace Go.Proofs.YtjiifieafnjpgaaDoor
open Go.RowKit
set_option linter.unusedSimpArgs false
set_option linter.unusedVariables false
open Lock
set_option maxHeartbeats 8000000 in
set_option maxRecDepth 100000 in
theorem lock_texts (W : World) (v1 v2 : Value) (g h : G) (hg : NodesAt W W.heap.size v1 g) (hh : NodesAt W W.heap.size v2 h) (hzg : ∀ x ∈ g, NdSize x) (hzh : ∀ x ∈ h, NdSize x) (hn1 : g.length ≤ 4611686018427387904) (hn2 : h.length ≤ 4611686018427387904) (hE : Env W) :
    Calls Tryd.prog 5 #[.agg #[v1], .agg #[v2]] W fun e W' => e = .returned (.bool true) ∧ Below W.heap.size W W' := by
  have HAT1 : Hid (∀ w, Below W.heap.size W w → NodesAt w w.heap.size v1 g) := Lib.hid (fun w hw => (hg.below hw (Nat.le_refl _)).mono hw.size)
  have HAT2 : Hid (∀ w, Below W.heap.size W w → NodesAt w w.heap.size v2 h) := Lib.hid (fun w hw => (hh.below hw (Nat.le_refl _)).mono hw.size)
  have HP1 := Lib.hid (fun w hw => Print_any w v1 g (HAT1.out w hw) hzg hn1 (hE.to hw))
  have HP2 := Lib.hid (fun w hw => Print_any w v2 h (HAT2.out w hw) hzh hn2 (hE.to hw))
  have HM1 := Lib.hid (fun w hw => May_any w v1 g (HAT1.out w hw) hzg hn1)
  have HM2 := Lib.hid (fun w hw => May_any w v2 h (HAT2.out w hw) hzh hn2)
  have HS := Lib.hid (fun w hw => rSame_any w v1 v2 g h (HAT1.out w hw) (HAT2.out w hw) hzg hzh hn1 hn2)
  have HK := Lib.hid (fun w hw => known_any w (hE.to hw))
  have HF1 := Lib.hid hg.form
  have HF2 := Lib.hid hh.form
  clear hg hh hE hn1 hn2 hzg hzh HAT1 HAT2
  obtain ⟨a1, k1, rfl⟩ := HF1.out
  obtain ⟨a2, k2, rfl⟩ := HF2.out
  obtain ⟨N, hN⟩ : ∃ N, N = g.length := ⟨_, rfl⟩
  obtain ⟨M, hM⟩ : ∃ N, N = h.length := ⟨_, rfl⟩
  rw [← hN] at HP1 HM1 HS ⊢
  rw [← hM] at HP2 HM2 HS ⊢
  clear hN hM HF1 HF2
  cases hmg : may g
  · rw [gPrint_no hmg] at HP1
    rw [hmg] at HM1
    clear hmg
    cases hmh : may h
    · rw [gPrint_no hmh] at HP2
      rw [hmh] at HM2
      clear hmh
      go_enter Tryd.func5, Tryd.ntmps5
      go_wp2_with fail
      refine (HP1.out _ (by go_grown)).mono ?_
      rintro e w1 ⟨rfl, hb1⟩
      have c1 : w1.cell? ⟨W.heap.size, 0, none⟩ = some (.slice a1 N k1) := by rw [hb1.cell (p := ⟨W.heap.size, 0, none⟩) (by simp; omega)]; rw [World.cell?_alloc_old _ _ _ (by simp)]; exact World.cell?_alloc_at _ _ _ _ rfl
      have d1 : w1.cell? ⟨W.heap.size + 1, 0, none⟩ = some (.slice a2 M k2) := by rw [hb1.cell (p := ⟨W.heap.size + 1, 0, none⟩) (by simp)]; exact World.cell?_alloc_at _ _ _ _ (by simp)
      have hb1' : Below W.heap.size W w1 := Below.trans (by go_grown) (hb1.mono (by simp; omega))
      have hz1 : W.heap.size + 1 < w1.heap.size := by have := hb1.size; simp at this; omega
      clear hb1
      go_wp2_with fail
      refine (HP2.out _ hb1').mono ?_
      rintro e w2 ⟨rfl, hb2⟩
      have hb2' := hb1'.trans (hb2.mono hb1'.size)
      have c2 : w2.cell? ⟨W.heap.size, 0, none⟩ = some (.slice a1 N k1) := by rw [hb2.cell (p := ⟨W.heap.size, 0, none⟩) (by show W.heap.size < _; omega)]; exact c1
      have d2 : w2.cell? ⟨W.heap.size + 1, 0, none⟩ = some (.slice a2 M k2) := by rw [hb2.cell (p := ⟨W.heap.size + 1, 0, none⟩) (by show W.heap.size + 1 < _; omega)]; exact d1
      have hz2 : W.heap.size + 1 < w2.heap.size := by have := hb2.size; omega
      have HCD : Hid (∀ w, Below w2.heap.size w2 w → w.cell? ⟨W.heap.size, 0, none⟩ = some (.slice a1 N k1) ∧ w.cell? ⟨W.heap.size + 1, 0, none⟩ = some (.slice a2 M k2)) := Lib.hid (fun w hw => ⟨(hw.cell (p := ⟨W.heap.size, 0, none⟩) (by show W.heap.size < _; omega)).trans c2, (hw.cell (p := ⟨W.heap.size + 1, 0, none⟩) (by show W.heap.size + 1 < _; omega)).trans d2⟩)
      have HB2 := Lib.hid hb2'
      clear hb2 hb1' c1 d1 hb2'
      have bx2 : Below w2.heap.size w2 w2 := Below.refl _ _
      go_wp2_with fail
      refine (HK.out _ (HB2.out.trans (bx2.mono HB2.out.size))).mono ?_
      rintro e w3 ⟨rfl, bb3⟩
      have bx3 := bx2.trans (bb3.mono bx2.size)
      obtain ⟨c3, d3⟩ := HCD.out _ bx3
      clear bb3 c2 d2
      go_wp2_with fail
      refine (HM1.out _ (HB2.out.trans (bx3.mono HB2.out.size))).mono ?_
      rintro e w4 ⟨rfl, bb4⟩
      have bx4 := bx3.trans (bb4.mono bx3.size)
      obtain ⟨c4, d4⟩ := HCD.out _ bx4
      clear bb4 c3 d3
      go_wp2_with fail
      refine (HM2.out _ (HB2.out.trans (bx4.mono HB2.out.size))).mono ?_
      rintro e w5 ⟨rfl, bb5⟩
      have bx5 := bx4.trans (bb5.mono bx4.size)
      obtain ⟨c5, d5⟩ := HCD.out _ bx5
      clear bb5 c4 d4
      go_wp2
      go_returns
      exact ⟨rfl, HB2.out.trans (bx5.mono HB2.out.size)⟩
    · rw [gPrint_yes hmh] at HP2
      rw [hmh] at HM2
      clear hmh
      go_enter Tryd.func5, Tryd.ntmps5
      go_wp2_with fail
      refine (HP1.out _ (by go_grown)).mono ?_
      rintro e w1 ⟨rfl, hb1⟩
      have c1 : w1.cell? ⟨W.heap.size, 0, none⟩ = some (.slice a1 N k1) := by rw [hb1.cell (p := ⟨W.heap.size, 0, none⟩) (by simp; omega)]; rw [World.cell?_alloc_old _ _ _ (by simp)]; exact World.cell?_alloc_at _ _ _ _ rfl
      have d1 : w1.cell? ⟨W.heap.size + 1, 0, none⟩ = some (.slice a2 M k2) := by rw [hb1.cell (p := ⟨W.heap.size + 1, 0, none⟩) (by simp)]; exact World.cell?_alloc_at _ _ _ _ (by simp)
      have hb1' : Below W.heap.size W w1 := Below.trans (by go_grown) (hb1.mono (by simp; omega))
      have hz1 : W.heap.size + 1 < w1.heap.size := by have := hb1.size; simp at this; omega
      clear hb1
      go_wp2_with fail
      refine (HP2.out _ hb1').mono ?_
      rintro e w2 ⟨rfl, hb2⟩
      have hb2' := hb1'.trans (hb2.mono hb1'.size)
      have c2 : w2.cell? ⟨W.heap.size, 0, none⟩ = some (.slice a1 N k1) := by rw [hb2.cell (p := ⟨W.heap.size, 0, none⟩) (by show W.heap.size < _; omega)]; exact c1
      have d2 : w2.cell? ⟨W.heap.size + 1, 0, none⟩ = some (.slice a2 M k2) := by rw [hb2.cell (p := ⟨W.heap.size + 1, 0, none⟩) (by show W.heap.size + 1 < _; omega)]; exact d1
      have hz2 : W.heap.size + 1 < w2.heap.size := by have := hb2.size; omega
      have HCD : Hid (∀ w, Below w2.heap.size w2 w → w.cell? ⟨W.heap.size, 0, none⟩ = some (.slice a1 N k1) ∧ w.cell? ⟨W.heap.size + 1, 0, none⟩ = some (.slice a2 M k2)) := Lib.hid (fun w hw => ⟨(hw.cell (p := ⟨W.heap.size, 0, none⟩) (by show W.heap.size < _; omega)).trans c2, (hw.cell (p := ⟨W.heap.size + 1, 0, none⟩) (by show W.heap.size + 1 < _; omega)).trans d2⟩)
      have HB2 := Lib.hid hb2'
      clear hb2 hb1' c1 d1 hb2'
      have bx2 : Below w2.heap.size w2 w2 := Below.refl _ _
      go_wp2_with fail
      refine (HK.out _ (HB2.out.trans (bx2.mono HB2.out.size))).mono ?_
      rintro e w3 ⟨rfl, bb3⟩
      have bx3 := bx2.trans (bb3.mono bx2.size)
      obtain ⟨c3, d3⟩ := HCD.out _ bx3
      clear bb3 c2 d2
      go_wp2_with fail
      refine (HM1.out _ (HB2.out.trans (bx3.mono HB2.out.size))).mono ?_
      rintro e w4 ⟨rfl, bb4⟩
      have bx4 := bx3.trans (bb4.mono bx3.size)
      obtain ⟨c4, d4⟩ := HCD.out _ bx4
      clear bb4 c3 d3
      go_wp2_with fail
      refine (HM2.out _ (HB2.out.trans (bx4.mono HB2.out.size))).mono ?_
      rintro e w5 ⟨rfl, bb5⟩
      have bx5 := bx4.trans (bb5.mono bx4.size)
      obtain ⟨c5, d5⟩ := HCD.out _ bx5
      clear bb5 c4 d4
      go_wp2
      go_returns
      exact ⟨rfl, HB2.out.trans (bx5.mono HB2.out.size)⟩
  · rw [gPrint_yes hmg] at HP1
    rw [hmg] at HM1
    cases hmh : may h
    · rw [gPrint_no hmh] at HP2
      rw [hmh] at HM2
      clear hmh hmg
      go_enter Tryd.func5, Tryd.ntmps5
      go_wp2_with fail
      refine (HP1.out _ (by go_grown)).mono ?_
      rintro e w1 ⟨rfl, hb1⟩
      have c1 : w1.cell? ⟨W.heap.size, 0, none⟩ = some (.slice a1 N k1) := by rw [hb1.cell (p := ⟨W.heap.size, 0, none⟩) (by simp; omega)]; rw [World.cell?_alloc_old _ _ _ (by simp)]; exact World.cell?_alloc_at _ _ _ _ rfl
      have d1 : w1.cell? ⟨W.heap.size + 1, 0, none⟩ = some (.slice a2 M k2) := by rw [hb1.cell (p := ⟨W.heap.size + 1, 0, none⟩) (by simp)]; exact World.cell?_alloc_at _ _ _ _ (by simp)
      have hb1' : Below W.heap.size W w1 := Below.trans (by go_grown) (hb1.mono (by simp; omega))
      have hz1 : W.heap.size + 1 < w1.heap.size := by have := hb1.size; simp at this; omega
      clear hb1
      go_wp2_with fail
      refine (HP2.out _ hb1').mono ?_
      rintro e w2 ⟨rfl, hb2⟩
      have hb2' := hb1'.trans (hb2.mono hb1'.size)
      have c2 : w2.cell? ⟨W.heap.size, 0, none⟩ = some (.slice a1 N k1) := by rw [hb2.cell (p := ⟨W.heap.size, 0, none⟩) (by show W.heap.size < _; omega)]; exact c1
      have d2 : w2.cell? ⟨W.heap.size + 1, 0, none⟩ = some (.slice a2 M k2) := by rw [hb2.cell (p := ⟨W.heap.size + 1, 0, none⟩) (by show W.heap.size + 1 < _; omega)]; exact d1
      have hz2 : W.heap.size + 1 < w2.heap.size := by have := hb2.size; omega
      have HCD : Hid (∀ w, Below w2.heap.size w2 w → w.cell? ⟨W.heap.size, 0, none⟩ = some (.slice a1 N k1) ∧ w.cell? ⟨W.heap.size + 1, 0, none⟩ = some (.slice a2 M k2)) := Lib.hid (fun w hw => ⟨(hw.cell (p := ⟨W.heap.size, 0, none⟩) (by show W.heap.size < _; omega)).trans c2, (hw.cell (p := ⟨W.heap.size + 1, 0, none⟩) (by show W.heap.size + 1 < _; omega)).trans d2⟩)
      have HB2 := Lib.hid hb2'
      clear hb2 hb1' c1 d1 hb2'
      have bx2 : Below w2.heap.size w2 w2 := Below.refl _ _
      go_wp2_with fail
      refine (HK.out _ (HB2.out.trans (bx2.mono HB2.out.size))).mono ?_
      rintro e w3 ⟨rfl, bb3⟩
      have bx3 := bx2.trans (bb3.mono bx2.size)
      obtain ⟨c3, d3⟩ := HCD.out _ bx3
      clear bb3 c2 d2
      go_wp2_with fail
      refine (HM1.out _ (HB2.out.trans (bx3.mono HB2.out.size))).mono ?_
      rintro e w4 ⟨rfl, bb4⟩
      have bx4 := bx3.trans (bb4.mono bx3.size)
      obtain ⟨c4, d4⟩ := HCD.out _ bx4
      clear bb4 c3 d3
      go_wp2_with fail
      refine (HM2.out _ (HB2.out.trans (bx4.mono HB2.out.size))).mono ?_
      rintro e w5 ⟨rfl, bb5⟩
      have bx5 := bx4.trans (bb5.mono bx4.size)
      obtain ⟨c5, d5⟩ := HCD.out _ bx5
      clear bb5 c4 d4
      go_wp2
      go_returns
      exact ⟨rfl, HB2.out.trans (bx5.mono HB2.out.size)⟩
    · rw [gPrint_yes hmh] at HP2
      rw [hmh] at HM2
      by_cases he : g = h
      · subst he
        obtain ⟨T1, hT⟩ : ∃ T, T = bs (text g) := ⟨_, rfl⟩
        rw [← hT] at HP1 HP2
        simp only [decide_true] at HS
        clear hmh hmg hT
        go_enter Tryd.func5, Tryd.ntmps5
        go_wp2_with fail
        refine (HP1.out _ (by go_grown)).mono ?_
        rintro e w1 ⟨rfl, hb1⟩
        have c1 : w1.cell? ⟨W.heap.size, 0, none⟩ = some (.slice a1 N k1) := by rw [hb1.cell (p := ⟨W.heap.size, 0, none⟩) (by simp; omega)]; rw [World.cell?_alloc_old _ _ _ (by simp)]; exact World.cell?_alloc_at _ _ _ _ rfl
        have d1 : w1.cell? ⟨W.heap.size + 1, 0, none⟩ = some (.slice a2 M k2) := by rw [hb1.cell (p := ⟨W.heap.size + 1, 0, none⟩) (by simp)]; exact World.cell?_alloc_at _ _ _ _ (by simp)
        have hb1' : Below W.heap.size W w1 := Below.trans (by go_grown) (hb1.mono (by simp; omega))
        have hz1 : W.heap.size + 1 < w1.heap.size := by have := hb1.size; simp at this; omega
        clear hb1
        go_wp2_with fail
        refine (HP2.out _ hb1').mono ?_
        rintro e w2 ⟨rfl, hb2⟩
        have hb2' := hb1'.trans (hb2.mono hb1'.size)
        have c2 : w2.cell? ⟨W.heap.size, 0, none⟩ = some (.slice a1 N k1) := by rw [hb2.cell (p := ⟨W.heap.size, 0, none⟩) (by show W.heap.size < _; omega)]; exact c1
        have d2 : w2.cell? ⟨W.heap.size + 1, 0, none⟩ = some (.slice a2 M k2) := by rw [hb2.cell (p := ⟨W.heap.size + 1, 0, none⟩) (by show W.heap.size + 1 < _; omega)]; exact d1
        have hz2 : W.heap.size + 1 < w2.heap.size := by have := hb2.size; omega
        have HCD : Hid (∀ w, Below w2.heap.size w2 w → w.cell? ⟨W.heap.size, 0, none⟩ = some (.slice a1 N k1) ∧ w.cell? ⟨W.heap.size + 1, 0, none⟩ = some (.slice a2 M k2)) := Lib.hid (fun w hw => ⟨(hw.cell (p := ⟨W.heap.size, 0, none⟩) (by show W.heap.size < _; omega)).trans c2, (hw.cell (p := ⟨W.heap.size + 1, 0, none⟩) (by show W.heap.size + 1 < _; omega)).trans d2⟩)
        have HB2 := Lib.hid hb2'
        clear hb2 hb1' c1 d1 hb2'
        have bx2 : Below w2.heap.size w2 w2 := Below.refl _ _
        go_wp2_with fail
        refine (HK.out _ (HB2.out.trans (bx2.mono HB2.out.size))).mono ?_
        rintro e w3 ⟨rfl, bb3⟩
        have bx3 := bx2.trans (bb3.mono bx2.size)
        obtain ⟨c3, d3⟩ := HCD.out _ bx3
        clear bb3 c2 d2
        go_wp2_with fail
        refine (HM1.out _ (HB2.out.trans (bx3.mono HB2.out.size))).mono ?_
        rintro e w4 ⟨rfl, bb4⟩
        have bx4 := bx3.trans (bb4.mono bx3.size)
        obtain ⟨c4, d4⟩ := HCD.out _ bx4
        clear bb4 c3 d3
        go_wp2_with fail
        refine (HM2.out _ (HB2.out.trans (bx4.mono HB2.out.size))).mono ?_
        rintro e w5 ⟨rfl, bb5⟩
        have bx5 := bx4.trans (bb5.mono bx4.size)
        obtain ⟨c5, d5⟩ := HCD.out _ bx5
        clear bb5 c4 d4
        go_wp2_with fail
        refine (HS.out _ (HB2.out.trans (bx5.mono HB2.out.size))).mono ?_
        rintro e w6 ⟨rfl, bb6⟩
        have bx6 := bx5.trans (bb6.mono bx5.size)
        obtain ⟨c6, d6⟩ := HCD.out _ bx6
        clear bb6 c5 d5
        go_wp2
        go_returns
        exact ⟨rfl, HB2.out.trans (bx6.mono HB2.out.size)⟩
      · have hd : decide (g = h) = false := decide_eq_false he
        rw [hd] at HS
        have hne : ¬ text g = text h := fun e => he (text_inj hmg hmh e)
        obtain ⟨T1, hT⟩ : ∃ T, T = bs (text g) := ⟨_, rfl⟩
        obtain ⟨T2, hT2⟩ : ∃ T, T = bs (text h) := ⟨_, rfl⟩
        have hq : (T1.toList == T2.toList) = false := by rw [beq_eq_false_iff_ne, hT, hT2, bs_toList, bs_toList]; exact hne
        have hq2 : ¬ T1.toList = T2.toList := by rw [hT, hT2, bs_toList, bs_toList]; exact hne
        have hq3 : ¬ T1 = T2 := fun e => hq2 (by rw [e])
        rw [← hT] at HP1
        rw [← hT2] at HP2
        clear hmh hmg hT hT2 hd hne he
        go_enter Tryd.func5, Tryd.ntmps5
        go_wp2_with fail
        refine (HP1.out _ (by go_grown)).mono ?_
        rintro e w1 ⟨rfl, hb1⟩
        have c1 : w1.cell? ⟨W.heap.size, 0, none⟩ = some (.slice a1 N k1) := by rw [hb1.cell (p := ⟨W.heap.size, 0, none⟩) (by simp; omega)]; rw [World.cell?_alloc_old _ _ _ (by simp)]; exact World.cell?_alloc_at _ _ _ _ rfl
        have d1 : w1.cell? ⟨W.heap.size + 1, 0, none⟩ = some (.slice a2 M k2) := by rw [hb1.cell (p := ⟨W.heap.size + 1, 0, none⟩) (by simp)]; exact World.cell?_alloc_at _ _ _ _ (by simp)
        have hb1' : Below W.heap.size W w1 := Below.trans (by go_grown) (hb1.mono (by simp; omega))
        have hz1 : W.heap.size + 1 < w1.heap.size := by have := hb1.size; simp at this; omega
        clear hb1
        go_wp2_with fail
        refine (HP2.out _ hb1').mono ?_
        rintro e w2 ⟨rfl, hb2⟩
        have hb2' := hb1'.trans (hb2.mono hb1'.size)
        have c2 : w2.cell? ⟨W.heap.size, 0, none⟩ = some (.slice a1 N k1) := by rw [hb2.cell (p := ⟨W.heap.size, 0, none⟩) (by show W.heap.size < _; omega)]; exact c1
        have d2 : w2.cell? ⟨W.heap.size + 1, 0, none⟩ = some (.slice a2 M k2) := by rw [hb2.cell (p := ⟨W.heap.size + 1, 0, none⟩) (by show W.heap.size + 1 < _; omega)]; exact d1
        have hz2 : W.heap.size + 1 < w2.heap.size := by have := hb2.size; omega
        have HCD : Hid (∀ w, Below w2.heap.size w2 w → w.cell? ⟨W.heap.size, 0, none⟩ = some (.slice a1 N k1) ∧ w.cell? ⟨W.heap.size + 1, 0, none⟩ = some (.slice a2 M k2)) := Lib.hid (fun w hw => ⟨(hw.cell (p := ⟨W.heap.size, 0, none⟩) (by show W.heap.size < _; omega)).trans c2, (hw.cell (p := ⟨W.heap.size + 1, 0, none⟩) (by show W.heap.size + 1 < _; omega)).trans d2⟩)
        have HB2 := Lib.hid hb2'
        clear hb2 hb1' c1 d1 hb2'
        have bx2 : Below w2.heap.size w2 w2 := Below.refl _ _
        go_wp2_with fail
        refine (HK.out _ (HB2.out.trans (bx2.mono HB2.out.size))).mono ?_
        rintro e w3 ⟨rfl, bb3⟩
        have bx3 := bx2.trans (bb3.mono bx2.size)
        obtain ⟨c3, d3⟩ := HCD.out _ bx3
        clear bb3 c2 d2
        go_wp2_with fail
        refine (HM1.out _ (HB2.out.trans (bx3.mono HB2.out.size))).mono ?_
        rintro e w4 ⟨rfl, bb4⟩
        have bx4 := bx3.trans (bb4.mono bx3.size)
        obtain ⟨c4, d4⟩ := HCD.out _ bx4
        clear bb4 c3 d3
        go_wp2_with fail
        refine (HM2.out _ (HB2.out.trans (bx4.mono HB2.out.size))).mono ?_
        rintro e w5 ⟨rfl, bb5⟩
        have bx5 := bx4.trans (bb5.mono bx4.size)
        obtain ⟨c5, d5⟩ := HCD.out _ bx5
        clear bb5 c4 d4
        go_wp2_with fail
        refine (HS.out _ (HB2.out.trans (bx5.mono HB2.out.size))).mono ?_
        rintro e w6 ⟨rfl, bb6⟩
        have bx6 := bx5.trans (bb6.mono bx5.size)
        obtain ⟨c6, d6⟩ := HCD.out _ bx6
        clear bb6 c5 d5
        go_wp2
        go_returns
        exact ⟨rfl, HB2.out.trans (bx6.mono HB2.out.size)⟩
end Go.Proofs.YtjiifieafnjpgaaDoor
