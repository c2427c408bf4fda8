/- DiskLoads' walk. -/
import Derived.Test.YtnfklomokjhojaaGreatDoorZLaws
namespace Go.Proofs.YtnfklomokjhojaaGreatDoor
open Go.RowKit Go.Maps
set_option linter.unusedSimpArgs false
set_option linter.unusedVariables false
set_option maxHeartbeats 8000000 in
set_option maxRecDepth 100000 in
theorem disk_loads_law {w : World} {u v : Value} {fs : List Disk.Fl} {ds : List Disk.Dq} (hf : Files w w.heap.size u fs) (h : Dqs w w.heap.size v ds) (hE : Env w) (hnf : fs.length ≤ 1048576) (hszf : ∀ f ∈ fs, f.path.length ≤ 1048576 ∧ f.data.length ≤ 1048576) (hn : ds.length ≤ 1048576) (hsz : ∀ x ∈ ds, (x.path.length ≤ 1048576 ∧ x.to.length ≤ 1048576) ∧ x.Fits) :
    Calls Tryz.prog 6 #[u, v] w fun e w' => e = .returned (.bool true) ∧ Below w.heap.size w w' := by
  have HLD := Lib.hid (fun (W : World) (hb : Below w.heap.size w W) => load_any (hf.below hb (Nat.le_refl _)) hb.size (hE.below hb (Nat.le_refl _)) (by omega) (fun f hf => by have := hszf f hf; omega))
  have HRL := Lib.hid (fun (W : World) (hb : Below w.heap.size w W) => rload_any (hf.below hb (Nat.le_refl _)) hb.size (by omega) (fun f hf => by have := hszf f hf; omega))
  obtain ⟨af, cf, rfl⟩ := hf.form
  obtain ⟨F, hF⟩ : ∃ N, N = fs.length := ⟨_, rfl⟩
  rw [← hF] at HLD HRL hnf ⊢
  have HF := Lib.hid hF
  clear hf hszf hF
  obtain ⟨a1, c1, rfl⟩ := h.form
  obtain ⟨L, hL⟩ : ∃ N, N = ds.length := ⟨_, rfl⟩
  have HH := Lib.hid h
  have HSZ := Lib.hid hsz
  have HE := Lib.hid (fun (W : World) (hb : Below w.heap.size w W) => hE.below hb (Nat.le_refl _))
  have HLV := Lib.hid (fun (W : World) (hb : Below w.heap.size w W) => lives01_any W (hE.below hb (Nat.le_refl _)))
  rw [← hL] at hn ⊢
  have HL := Lib.hid hL
  clear h hsz hL hE
  cases hld : Disk.load fs with
  | none =>
    have HPL : Hid (∀ W e W', LoadPost fs W e W' → e = .returned (.tuple #[.pointer none, .int .i64 1]) ∧ Below W.heap.size W W') := Lib.hid (fun W e W' h => by unfold LoadPost at h; rw [hld] at h; exact h)
    have HPR : Hid (∀ W e W', RLoadPost fs W e W' → e = .returned (.tuple #[.pointer none, .bool false]) ∧ Below W.heap.size W W') := Lib.hid (fun W e W' h => by unfold RLoadPost at h; rw [hld] at h; exact h)
    clear hld
    go_enter Tryz.func6, Tryz.ntmps6
    go_wp2_with fail
    refine (HLD.out _ (Below.refl _ _)).mono ?_
    intro e w1 hp
    obtain ⟨rfl, hb1⟩ := HPL.out _ _ _ hp
    have HB1 := Lib.hid hb1
    clear hp hb1
    go_wp2_with fail
    refine (HRL.out _ HB1.out).mono ?_
    intro e w2 hp
    obtain ⟨rfl, hb2⟩ := HPR.out _ _ _ hp
    have HB2 := Lib.hid (HB1.out.trans (hb2.mono HB1.out.size))
    clear hp hb2
    go_wp2_with fail
    refine (HLV.out _ HB2.out).mono ?_
    rintro e w3 ⟨rfl, hb3⟩
    have HB3 := Lib.hid (HB2.out.trans (hb3.mono HB2.out.size))
    go_wp2
    go_returns
    exact ⟨rfl, HB3.out⟩
  | some l =>
    have hlok := load_ok hld
    have HLOK := Lib.hid hlok
    have HPL : Hid (∀ W e W', LoadPost fs W e W' → ∃ sd bm n, e = .returned (.tuple #[.pointer (some ⟨sd, 0, none⟩), .int .i64 0]) ∧ DiskIn W' W.heap.size sd bm n l (.slice none 0 0) (-1) ∧ n ≤ fs.length ∧ Below W.heap.size W W') := Lib.hid (fun W e W' h => by
      unfold LoadPost at h
      rw [hld] at h
      obtain ⟨⟨sd, bm, n, h1, h2, h3⟩, h4⟩ := h
      exact ⟨sd, bm, n, h1, h2, h3, h4⟩)
    have HPR : Hid (∀ W e W', RLoadPost fs W e W' → ∃ rd lv, e = .returned (.tuple #[.pointer (some ⟨rd, 0, none⟩), .bool true]) ∧ RefIn W' W.heap.size rd l lv (.slice none 0 0) (-1) ∧ Below W.heap.size W W') := Lib.hid (fun W e W' h => by
      unfold RLoadPost at h
      rw [hld] at h
      obtain ⟨⟨rd, lv, h1, h2, h3⟩, h4⟩ := h
      exact ⟨rd, lv, h1, h2, h4⟩)
    clear hld hlok
    go_enter Tryz.func6, Tryz.ntmps6
    go_wp2_with fail
    refine (HLD.out _ (Below.refl _ _)).mono ?_
    intro e w1 hp
    obtain ⟨sd, bm, n0, rfl, hdi, hn0, hb1⟩ := HPL.out _ _ _ hp
    have HDSK := Lib.hid (Dsk.loaded (N := F) hdi (Nat.le_refl _) (by have := HF.out; omega) HLOK.out.1)
    have HB1 := Lib.hid hb1
    clear hp hdi hn0 hb1
    go_wp2_with fail
    refine (HRL.out _ HB1.out).mono ?_
    intro e w2 hp
    obtain ⟨rd, lv, rfl, hrf, hb2⟩ := HPR.out _ _ _ hp
    have hrs := Rsk.loaded (B := w.heap.size) (N := F) hrf HB1.out.size (by have := HLOK.out.2; have := HF.out; omega) HLOK.out.1
    have HT2 := Lib.hid (Duo.made HDSK.out.1 hb2 hrs.1 hrs.2)
    have HB2 := Lib.hid (HB1.out.trans (hb2.mono HB1.out.size))
    have HDN := Lib.hid (down_any HT2.out.left)
    have HRW := Lib.hid (HT2.out.raws (by omega))
    have hm1 : decide ((-1 : Int) = 0) = false := rfl
    have hrl : (loadS l).left = -1 := rfl
    have hrr : (loadS l).raws.length = 0 := rfl
    rw [hrl, hm1] at HDN
    clear hp hrf hrs hb2 hm1 hrl
    go_wp2_with fail
    refine HDN.out.mono ?_
    rintro e w3 ⟨rfl, rfl⟩
    go_wp2_with fail
    refine HRW.out.mono ?_
    rintro e w4 ⟨v4, rfl, hr4, hb4⟩
    obtain ⟨a4, c4, rfl⟩ := own_form hr4
    rw [hrr]
    have HT4 := Lib.hid (HT2.out.below hb4)
    have HB4 := Lib.hid (HB2.out.trans (hb4.mono HB2.out.size))
    clear hr4 hb4 hrr
    go_wp2
    go_loopw [9] (fun q wr => ∃ (i : Nat) (s : Disk.S), q = .int .i64 i ∧ i ≤ L ∧ Duo wr w.heap.size (fun _ => False) sd rd (F + 2 * i) s s ∧ Below w.heap.size w wr) (fun q _ => L - (intOf q).toNat)
    case atStart => exact ⟨0, loadS l, rfl, by omega, HT4.out, HB4.out⟩
    case round =>
      obtain ⟨i, s, rfl, hi, ht, hBr⟩ := hrel
      obtain ⟨wo, rfl⟩ : ∃ x, x = wr := ⟨wr, rfl⟩
      have HT := Lib.hid ht
      have HBR := Lib.hid hBr
      have hzr := hBr.size
      clear ht hBr
      by_cases hiL : i < L
      · obtain ⟨x, hx⟩ : ∃ x, ds[i]? = some x := ⟨_, List.getElem?_eq_getElem (by have := HL.out; omega)⟩
        obtain ⟨bk, o, cap, hve, hbB, hbc⟩ := HH.out.at (by have := HL.out; omega)
        rw [← HL.out] at hve
        cases hve
        obtain ⟨e1, e2, e3, e4, e5⟩ := hbc i x hx
        rw [← HBR.out.cell (p := ⟨bk, o + i * 5, none⟩) hbB] at e1
        rw [← HBR.out.cell (p := ⟨bk, o + i * 5 + 1, none⟩) hbB] at e2
        rw [← HBR.out.cell (p := ⟨bk, o + i * 5 + 2, none⟩) hbB] at e3
        rw [← HBR.out.cell (p := ⟨bk, o + i * 5 + 3, none⟩) hbB] at e4
        rw [← HBR.out.cell (p := ⟨bk, o + i * 5 + 4, none⟩) hbB] at e5
        have HX := Lib.hid (HSZ.out x (List.mem_of_getElem? hx))
        have hiI : (i : Int) < (L : Int) := by omega
        have HASK := Lib.hid (asks_any HT.out (fun W hb => HE.out W (HBR.out.trans hb)) (by omega) x HX.out.2 (by have := HX.out; omega) (by have := HX.out; omega))
        clear hbc hx
        go_wp2_with fail
        refine HASK.out.mono ?_
        rintro e w6 ⟨rfl, hn6⟩
        have HN6 := Lib.hid hn6
        clear hn6 e1 e2 e3 e4 e5
        go_wp2
        go_roundw
        case rel => exact ⟨i + 1, _, by go_num, by omega, HN6.out.duo.more (by omega), HBR.out.trans HN6.out.below⟩
        case measure => simp [intOf]; omega
      · have hex : ¬ (i : Int) < (L : Int) := by omega
        obtain ⟨al, cl, ar, cr, hc0, _, hLI, _, hrdl⟩ := HT.out.rows
        have HLI := Lib.hid hLI
        have hdr : Below wo.heap.size wo wo.drew := (Below.refl _ _).drew
        have HALL : Hid (Calls Tryz.prog 18 #[.pointer (some ⟨sd, 0, none⟩)] wo.drew fun e w' => ∃ v, e = .returned v ∧ FRow w' wo.heap.size v (fls s.l) ∧ Below wo.heap.size wo w') := Lib.hid (((HT.out.below hdr).all (by have := HT.out.fit.1; omega)).mono fun e w' ⟨v, h4, h5, h6⟩ => ⟨v, h4, h5, hdr.trans h6⟩)
        have HLF : Hid ((fls s.l).length ≤ 4398046511104) := Lib.hid (by rw [fls_length]; have := HT.out.fit.1; omega)
        clear hLI hdr
        go_wp2
        go_region_held3 (fun w' => w'.cell? ⟨rd, 0, none⟩ = some (.slice al (fls s.l).length cl)) (first | exact hc0 | exact hc1) (first
          | (go_at_call 18; refine (HALL.out).mono ?_; rintro e w7 ⟨v7, rfl, hr7, hb7⟩; have hc1 := (hb7.cell (p := ⟨rd, 0, none⟩) hrdl).trans hc0; have HC7 := Lib.hid (files_any hr7.files (HLI.out.below hb7 (Nat.le_refl _) |>.mono hb7.size) HLF.out); have HB7 := Lib.hid hb7; clear hr7 hb7)
          | (go_at_call 17; refine HC7.out.mono ?_; rintro e w8 ⟨rfl, m8, rfl⟩))
        all_goals
          have HB8 := Lib.hid (HBR.out.trans ((bdrew HB7.out m8).mono hzr))
          obtain ⟨w8, hw8⟩ : ∃ x, x = w7.drewN m8 := ⟨_, rfl⟩
          rw [← hw8] at HB8 ⊢
          clear hw8
          go_wp2_with fail
          refine (HLV.out _ HB8.out).mono ?_
          rintro e w9 ⟨rfl, hb9⟩
          have HB9 := Lib.hid (HB8.out.trans (hb9.mono HB8.out.size))
          go_wp2
          go_returns
          exact ⟨rfl, HB9.out⟩
end Go.Proofs.YtnfklomokjhojaaGreatDoor
