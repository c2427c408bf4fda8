/- DiskPlays' walk. -/
import Derived.Test.YtnfklomokjhojaaGreatDoorZLaws
namespace Go.Proofs.YtnfklomokjhojaaGreatDoor
open Go.RowKit Go.Maps
set_option linter.unusedSimpArgs false
set_option linter.unusedVariables false
set_option maxHeartbeats 8000000 in
set_option maxRecDepth 100000 in
theorem disk_plays_law {w : World} {v : Value} {ds : List Disk.Dq} (h : Dqs w w.heap.size v ds) (hE : Env w) (hn : ds.length ≤ 1048576) (hsz : ∀ x ∈ ds, (x.path.length ≤ 1048576 ∧ x.to.length ≤ 1048576) ∧ x.Fits) :
    Calls Tryz.prog 3 #[v] w fun e w' => e = .returned (.bool true) ∧ Below w.heap.size w w' := by
  obtain ⟨a1, c1, rfl⟩ := h.form
  obtain ⟨L, hL⟩ : ∃ N, N = ds.length := ⟨_, rfl⟩
  have HH := Lib.hid h
  have HSZ := Lib.hid hsz
  have HE := Lib.hid (fun (W : World) (hb : Below w.heap.size w W) => hE.below hb (Nat.le_refl _))
  have HLV := Lib.hid (fun (W : World) (hb : Below w.heap.size w W) => lives01_any W (hE.below hb (Nat.le_refl _)))
  rw [← hL] at hn ⊢
  have HL := Lib.hid hL
  clear h hsz hL hE
  go_enter Tryz.func3, Tryz.ntmps3
  go_wp2_with fail
  refine (newD_any w w.heap.size (Nat.le_refl _)).mono ?_
  rintro e w1 ⟨sd, O1, rfl, hd1, hO1, hb1⟩
  have HD1 := Lib.hid hd1
  have HB1 := Lib.hid hb1
  clear hd1 hb1
  go_wp2_with fail
  refine (rnewD_any w1 w.heap.size HB1.out.size).mono ?_
  rintro e w2 ⟨rd, O2, rfl, hd2, hO2, hb2⟩
  have HT2 := Lib.hid (Duo.made HD1.out hb2 hd2 hO2)
  have HB2 := Lib.hid (HB1.out.trans (hb2.mono HB1.out.size))
  clear hd2 hO1 hO2 hb2
  go_wp2
  go_loopw [5] (fun q wr => ∃ (i : Nat) (s : Disk.S), q = .int .i64 i ∧ i ≤ L ∧ Duo wr w.heap.size (fun _ => False) sd rd (2 * i) s s ∧ Below w.heap.size w wr) (fun q _ => L - (intOf q).toNat)
  case atStart => exact ⟨0, newS, rfl, by omega, HT2.out, HB2.out⟩
  case round =>
    obtain ⟨i, s, rfl, hi, ht, hBr⟩ := hrel
    obtain ⟨wo, rfl⟩ : ∃ x, x = wr := ⟨wr, rfl⟩
    have HT := Lib.hid ht
    have HBR := Lib.hid hBr
    have hzr := hBr.size
    clear ht hBr
    by_cases hiL : i < L
    · obtain ⟨x, hx⟩ : ∃ x, ds[i]? = some x := ⟨_, List.getElem?_eq_getElem (by have := HL.out; omega)⟩
      obtain ⟨bk, o, cap, hve, hbB, hbc⟩ := HH.out.at (by have := HL.out; omega)
      rw [← HL.out] at hve
      cases hve
      obtain ⟨e1, e2, e3, e4, e5⟩ := hbc i x hx
      rw [← HBR.out.cell (p := ⟨bk, o + i * 5, none⟩) hbB] at e1
      rw [← HBR.out.cell (p := ⟨bk, o + i * 5 + 1, none⟩) hbB] at e2
      rw [← HBR.out.cell (p := ⟨bk, o + i * 5 + 2, none⟩) hbB] at e3
      rw [← HBR.out.cell (p := ⟨bk, o + i * 5 + 3, none⟩) hbB] at e4
      rw [← HBR.out.cell (p := ⟨bk, o + i * 5 + 4, none⟩) hbB] at e5
      have HX := Lib.hid (HSZ.out x (List.mem_of_getElem? hx))
      have hiI : (i : Int) < (L : Int) := by omega
      have HASK := Lib.hid (asks_any HT.out (fun W hb => HE.out W (HBR.out.trans hb)) (by omega) x HX.out.2 (by have := HX.out; omega) (by have := HX.out; omega))
      clear hbc hx
      go_wp2_with fail
      refine HASK.out.mono ?_
      rintro e w6 ⟨rfl, hn6⟩
      obtain ⟨s2, hs2⟩ : ∃ t, t = s.asks x := ⟨_, rfl⟩
      rw [← hs2] at hn6
      have HT6 := Lib.hid hn6.duo
      have HB6 := Lib.hid (HBR.out.trans hn6.below)
      clear hn6 hs2 e1 e2 e3 e4 e5
      obtain ⟨al, cl, ar, cr, _, hc0, _, hRI, hrdl⟩ := HT6.out.rows
      have HRI := Lib.hid hRI
      have hdr : Below w6.heap.size w6 w6.drew := (Below.refl _ _).drew
      have HRAW : Hid (Calls Tryz.prog 14 #[.pointer (some ⟨sd, 0, none⟩)] w6.drew fun e w' => ∃ v, e = .returned v ∧ RwRow w' w6.heap.size v s2.raws ∧ Below w6.heap.size w6 w') := Lib.hid (((HT6.out.below hdr).raws (by omega)).mono fun e w' ⟨v, h4, h5, h6⟩ => ⟨v, h4, h5, hdr.trans h6⟩)
      have HRF : Hid (s2.raws.length ≤ 4398046511104) := Lib.hid (by have := HT6.out.fit.2.1; omega)
      clear hRI hdr
      go_wp2
      go_region_held3 (fun w' => w'.cell? ⟨rd, 1, none⟩ = some (.slice ar s2.raws.length cr)) (first | exact hc0 | exact hc1) (first
        | (go_at_call 14; refine (HRAW.out).mono ?_; rintro e w7 ⟨v7, rfl, hr7, hb7⟩; have hc1 := (hb7.cell (p := ⟨rd, 1, none⟩) hrdl).trans hc0; have HC7 := Lib.hid (raws_any hr7.rws (HRI.out.below hb7 (Nat.le_refl _) |>.mono hb7.size) HRF.out); have HB7 := Lib.hid hb7; clear hr7 hb7)
        | (go_at_call 13; refine HC7.out.mono ?_; rintro e w8 ⟨rfl, m8, rfl⟩))
      all_goals
        have hb8 : Below w6.heap.size w6 (w7.drewN m8) := bdrew HB7.out m8
        have HT8 := Lib.hid (HT6.out.below hb8)
        have HB8 := Lib.hid (HB6.out.trans (hb8.mono HB6.out.size))
        obtain ⟨w8, hw8⟩ : ∃ x, x = w7.drewN m8 := ⟨_, rfl⟩
        rw [← hw8] at HT8 HB8 ⊢
        have HDN := Lib.hid (down_any HT8.out.left)
        have HRDN := Lib.hid (rdown_any HT8.out.rleft)
        obtain ⟨bl, hbl⟩ : ∃ b, b = decide (s2.left = 0) := ⟨_, rfl⟩
        rw [← hbl] at HDN HRDN
        have hbb : (bl != bl) = false := by cases bl <;> rfl
        clear hw8 hbl hb8
        go_wp2_with fail
        refine HDN.out.mono ?_
        rintro e w9 ⟨rfl, rfl⟩
        go_wp2_with fail
        refine HRDN.out.mono ?_
        rintro e w10 ⟨rfl, rfl⟩
        go_wp2
        go_roundw
        case rel => exact ⟨i + 1, s2, by go_num, by omega, HT8.out.more (by omega), HB8.out⟩
        case measure => simp [intOf]; omega
    · have hex : ¬ (i : Int) < (L : Int) := by omega
      obtain ⟨al, cl, ar, cr, hc0, _, hLI, _, hrdl⟩ := HT.out.rows
      have HLI := Lib.hid hLI
      have hdr : Below wo.heap.size wo wo.drew := (Below.refl _ _).drew
      have HALL : Hid (Calls Tryz.prog 18 #[.pointer (some ⟨sd, 0, none⟩)] wo.drew fun e w' => ∃ v, e = .returned v ∧ FRow w' wo.heap.size v (fls s.l) ∧ Below wo.heap.size wo w') := Lib.hid (((HT.out.below hdr).all (by have := HT.out.fit.1; omega)).mono fun e w' ⟨v, h4, h5, h6⟩ => ⟨v, h4, h5, hdr.trans h6⟩)
      have HLF : Hid ((fls s.l).length ≤ 4398046511104) := Lib.hid (by rw [fls_length]; have := HT.out.fit.1; omega)
      clear hLI hdr
      go_wp2
      go_region_held3 (fun w' => w'.cell? ⟨rd, 0, none⟩ = some (.slice al (fls s.l).length cl)) (first | exact hc0 | exact hc1) (first
        | (go_at_call 18; refine (HALL.out).mono ?_; rintro e w7 ⟨v7, rfl, hr7, hb7⟩; have hc1 := (hb7.cell (p := ⟨rd, 0, none⟩) hrdl).trans hc0; have HC7 := Lib.hid (files_any hr7.files (HLI.out.below hb7 (Nat.le_refl _) |>.mono hb7.size) HLF.out); have HB7 := Lib.hid hb7; clear hr7 hb7)
        | (go_at_call 17; refine HC7.out.mono ?_; rintro e w8 ⟨rfl, m8, rfl⟩))
      all_goals
        have HB8 := Lib.hid (HBR.out.trans ((bdrew HB7.out m8).mono hzr))
        obtain ⟨w8, hw8⟩ : ∃ x, x = w7.drewN m8 := ⟨_, rfl⟩
        rw [← hw8] at HB8 ⊢
        clear hw8
        go_wp2_with fail
        refine (HLV.out _ HB8.out).mono ?_
        rintro e w9 ⟨rfl, hb9⟩
        have HB9 := Lib.hid (HB8.out.trans (hb9.mono HB8.out.size))
        go_wp2
        go_returns
        exact ⟨rfl, HB9.out⟩
end Go.Proofs.YtnfklomokjhojaaGreatDoor
