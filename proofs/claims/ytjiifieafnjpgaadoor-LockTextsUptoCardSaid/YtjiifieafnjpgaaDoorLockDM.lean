/- LockMay: May and Print of any graph, read again; LockTexts: two graphs have one text just if they are the same. -/
import Derived.Test.YtjiifieafnjpgaaDoorLockDP
import Derived.Test.YtjiifieafnjpgaaDoorOpenGraph
import Derived.Deep.RegionHeld3
namespace Go.Proofs.YtjiifieafnjpgaaDoor
open Go.RowKit
set_option linter.unusedSimpArgs false
set_option linter.unusedVariables false
open Lock
namespace Lock
theorem bs_toList_data (l : List UInt8) : (bs l).data.toList = l := by rw [← ByteArray.toList_eq]; exact bs_toList l
theorem gPrint_no {g : G} (h : may g = false) : gPrintRes g = .tuple #[.string ByteArray.empty, .int .i64 33] := by unfold gPrintRes; rw [h]; rfl
theorem gPrint_yes {g : G} (h : may g = true) : gPrintRes g = .tuple #[.string (bs (text g)), .int .i64 0] := by unfold gPrintRes; rw [if_pos h]; rfl
theorem text_size {g : G} (h : may g = true) : (bs (text g)).size ≤ 1048576 := by
  have := text_short h
  show (text g).toArray.size ≤ _
  rw [List.size_toArray]; exact this
theorem nd_sizes {n : Nat} {g : G} (h : ∀ x ∈ g, Opg.NdIn n x) (hn : n ≤ 1048576) : ∀ x ∈ g, NdSize x := fun x hx => by
  obtain ⟨h1, h2, h3, h4, h5⟩ := h x hx
  exact ⟨by omega, by omega, by omega, fun p hp => by have := h4 p hp; omega, fun p hp => by have := h5 p hp; omega⟩
theorem below_drew1 {n : Nat} {a w : World} (h : Below n a w) : Below n a w.drew := ⟨h.os, h.tape, h.output, h.size, h.block⟩
end Lock
set_option maxHeartbeats 4000000 in
set_option maxRecDepth 100000 in
theorem lock_may (W : World) (v : Value) (g : G) (hg : NodesAt W W.heap.size v g) (hz : ∀ x ∈ g, NdSize x) (hn : g.length ≤ 4611686018427387904) (hE : Env W) :
    Calls Tryd.prog 3 #[.agg #[v]] W fun e W' => e = .returned (.bool true) ∧ Below W.heap.size W W' := by
  have HAT : Hid (∀ w, Below W.heap.size W w → NodesAt w w.heap.size v g) := Lib.hid (fun w hw => (hg.below hw (Nat.le_refl _)).mono hw.size)
  have HP := Lib.hid (fun w hw => Print_any w v g (HAT.out w hw) hz hn (hE.to hw))
  have HR := Lib.hid (fun w hw => rPrint_any w v g (HAT.out w hw) hz hn)
  have HM := Lib.hid (fun w hw => May_any w v g (HAT.out w hw) hz hn)
  have HN := Lib.hid (fun w hw => rMay_any w v g (HAT.out w hw) hz hn)
  have HK := Lib.hid (fun w hw => known_any w (hE.to hw))
  have HPA := Lib.hid (fun s hs w hw => gparse_any s hs w (hE.to hw))
  have HFORM := Lib.hid hg.form
  have HZ := Lib.hid hz
  clear hg hE hn hz
  obtain ⟨a, cap, rfl⟩ := HFORM.out
  obtain ⟨N, hN⟩ : ∃ N, N = g.length := ⟨_, rfl⟩
  rw [← hN] at HAT HP HR HM HN ⊢
  have HNN := Lib.hid hN
  clear hN HFORM
  cases hmay : may g
  · rw [gPrint_no hmay] at HP HR
    rw [hmay] at HM HN
    clear hmay HPA
    go_enter Tryd.func3, Tryd.ntmps3
    go_wp2_with fail
    refine (HP.out _ (by go_grown)).mono ?_
    rintro e w1 ⟨rfl, hb1⟩
    have c1 : w1.cell? ⟨W.heap.size, 0, none⟩ = some (.slice a N cap) := by rw [hb1.cell (p := ⟨W.heap.size, 0, none⟩) (by simp)]; exact World.cell?_alloc_at _ _ _ _ rfl
    have hb1' : Below W.heap.size W w1 := Below.trans (by go_grown) (hb1.mono (by simp))
    have hz1 : W.heap.size < w1.heap.size := by have := hb1.size; simp at this; omega
    clear hb1
    go_wp2_with fail
    refine (HR.out _ hb1').mono ?_
    rintro e w2 ⟨rfl, hb2⟩
    have hb2' := hb1'.trans (hb2.mono hb1'.size)
    have c2 : w2.cell? ⟨W.heap.size, 0, none⟩ = some (.slice a N cap) := by rw [hb2.cell (p := ⟨W.heap.size, 0, none⟩) hz1]; exact c1
    have hz2 : W.heap.size < w2.heap.size := by have := hb2.size; omega
    clear hb2 hb1' c1
    go_wp2
    go_region_held3 (fun w' => w'.cell? ⟨W.heap.size, 0, none⟩ = some (.slice a N cap)) (first | exact c2 | exact c3 | exact c4 | exact c5) (first
      | (go_at_call 8; refine (HM.out _ (below_drew1 hb2')).mono ?_; rintro e w3 ⟨rfl, hb3⟩; have hb3' := (below_drew1 hb2').trans (hb3.mono (below_drew1 hb2').size); have c3 : w3.cell? ⟨W.heap.size, 0, none⟩ = some (.slice a N cap) := (hb3.cell (p := ⟨W.heap.size, 0, none⟩) hz2).trans c2; have hz3 : W.heap.size < w3.heap.size := Nat.lt_of_lt_of_le hz2 hb3.size; clear hb3)
      | (go_at_call 9; refine (HN.out _ hb3').mono ?_; rintro e w4 ⟨rfl, hb4⟩; have hb4' := hb3'.trans (hb4.mono hb3'.size); have c4 : w4.cell? ⟨W.heap.size, 0, none⟩ = some (.slice a N cap) := (hb4.cell (p := ⟨W.heap.size, 0, none⟩) hz3).trans c3; have hz4 : W.heap.size < w4.heap.size := Nat.lt_of_lt_of_le hz3 hb4.size; clear hb4)
      | (go_at_call 10; refine (HK.out _ hb4').mono ?_; rintro e w5 ⟨rfl, hb5⟩; have hb5' := hb4'.trans (hb5.mono hb4'.size); have c5 : w5.cell? ⟨W.heap.size, 0, none⟩ = some (.slice a N cap) := (hb5.cell (p := ⟨W.heap.size, 0, none⟩) hz4).trans c4; have hz5 : W.heap.size < w5.heap.size := Nat.lt_of_lt_of_le hz4 hb5.size; clear hb5))
    go_wp2
    go_returns
    exact ⟨rfl, hb5'⟩
  · rw [gPrint_yes hmay] at HP HR
    rw [hmay] at HM HN
    have HMAY := Lib.hid hmay
    obtain ⟨T, hT⟩ : ∃ T, T = bs (text g) := ⟨_, rfl⟩
    have HPA2 : Hid (∀ w, Below W.heap.size W w → Calls Tryd.prog 11 #[.string T] w fun e w' => ∃ a2 c2, e = .returned (.tuple #[.agg #[.slice a2 N c2], .int .i64 0]) ∧ NodesAt w' w'.heap.size (.slice a2 N c2) g ∧ Below w.heap.size w w') := Lib.hid (fun w hw => by
      rw [hT]
      refine (HPA.out (bs (text g)) (by have := text_size hmay; omega) w hw).mono ?_
      rintro e w' ⟨v2, rfl, ho, hb⟩
      rw [bs_toList_data, parse_text hmay] at ho ⊢
      have hat := ho.at
      obtain ⟨a2, c2, rfl⟩ := hat.form
      exact ⟨a2, c2, by rw [← HNN.out], by rw [HNN.out]; exact hat, hb⟩)
    rw [← hT] at HP HR
    clear hmay hT HPA
    go_enter Tryd.func3, Tryd.ntmps3
    go_wp2_with fail
    refine (HP.out _ (by go_grown)).mono ?_
    rintro e w1 ⟨rfl, hb1⟩
    have c1 : w1.cell? ⟨W.heap.size, 0, none⟩ = some (.slice a N cap) := by rw [hb1.cell (p := ⟨W.heap.size, 0, none⟩) (by simp)]; exact World.cell?_alloc_at _ _ _ _ rfl
    have hb1' : Below W.heap.size W w1 := Below.trans (by go_grown) (hb1.mono (by simp))
    have hz1 : W.heap.size < w1.heap.size := by have := hb1.size; simp at this; omega
    clear hb1
    go_wp2_with fail
    refine (HR.out _ hb1').mono ?_
    rintro e w2 ⟨rfl, hb2⟩
    have hb2' := hb1'.trans (hb2.mono hb1'.size)
    have c2 : w2.cell? ⟨W.heap.size, 0, none⟩ = some (.slice a N cap) := by rw [hb2.cell (p := ⟨W.heap.size, 0, none⟩) hz1]; exact c1
    have hz2 : W.heap.size < w2.heap.size := by have := hb2.size; omega
    clear hb2 hb1' c1
    go_wp2
    go_region_held3 (fun w' => w'.cell? ⟨W.heap.size, 0, none⟩ = some (.slice a N cap)) (first | exact c2 | exact c3 | exact c4 | exact c5) (first
      | (go_at_call 8; refine (HM.out _ (below_drew1 hb2')).mono ?_; rintro e w3 ⟨rfl, hb3⟩; have hb3' := (below_drew1 hb2').trans (hb3.mono (below_drew1 hb2').size); have c3 : w3.cell? ⟨W.heap.size, 0, none⟩ = some (.slice a N cap) := (hb3.cell (p := ⟨W.heap.size, 0, none⟩) hz2).trans c2; have hz3 : W.heap.size < w3.heap.size := Nat.lt_of_lt_of_le hz2 hb3.size; clear hb3)
      | (go_at_call 9; refine (HN.out _ hb3').mono ?_; rintro e w4 ⟨rfl, hb4⟩; have hb4' := hb3'.trans (hb4.mono hb3'.size); have c4 : w4.cell? ⟨W.heap.size, 0, none⟩ = some (.slice a N cap) := (hb4.cell (p := ⟨W.heap.size, 0, none⟩) hz3).trans c3; have hz4 : W.heap.size < w4.heap.size := Nat.lt_of_lt_of_le hz3 hb4.size; clear hb4)
      | (go_at_call 10; refine (HK.out _ hb4').mono ?_; rintro e w5 ⟨rfl, hb5⟩; have hb5' := hb4'.trans (hb5.mono hb4'.size); have c5 : w5.cell? ⟨W.heap.size, 0, none⟩ = some (.slice a N cap) := (hb5.cell (p := ⟨W.heap.size, 0, none⟩) hz4).trans c4; have hz5 : W.heap.size < w5.heap.size := Nat.lt_of_lt_of_le hz4 hb5.size; clear hb5))
    go_wp2_with fail
    refine (HPA2.out _ hb5').mono ?_
    rintro e w6 ⟨a2, c2, rfl, hat2, hb6⟩
    have hb6' := hb5'.trans (hb6.mono hb5'.size)
    have c6 : w6.cell? ⟨W.heap.size, 0, none⟩ = some (.slice a N cap) := by rw [hb6.cell (p := ⟨W.heap.size, 0, none⟩) hz5]; exact c5
    have HS := Lib.hid (fun w (hw : Below w6.heap.size w6 w) => rSame_any w (.slice a N cap) (.slice a2 N c2) g g (HAT.out w (hb6'.trans (hw.mono hb6'.size))) ((hat2.below hw (Nat.le_refl _)).mono hw.size) HZ.out HZ.out (by have := (may_form HMAY.out).2.1; omega) (by have := (may_form HMAY.out).2.1; omega))
    simp only [decide_true] at HS
    have HB6 := Lib.hid hb6'
    have hz6 : W.heap.size < w6.heap.size := by have := hb6.size; omega
    clear hat2 hb6 hb5' hb6' c5
    go_wp2_with fail
    refine (HS.out _ (by go_grown)).mono ?_
    rintro e w7 ⟨rfl, hb7⟩
    go_wp2
    go_returns
    exact ⟨rfl, (HB6.out.alloc HB6.out.size _).trans (hb7.mono (by have := HB6.out.size; simp; omega))⟩
end Go.Proofs.YtjiifieafnjpgaaDoor
