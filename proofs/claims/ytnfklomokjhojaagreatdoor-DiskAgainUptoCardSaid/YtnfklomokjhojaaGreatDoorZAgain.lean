/- DiskAgain's walk. -/
import Derived.Test.YtnfklomokjhojaaGreatDoorZTwo
namespace Go.Proofs.YtnfklomokjhojaaGreatDoor
open Go.RowKit Go.Maps
set_option linter.unusedSimpArgs false
set_option linter.unusedVariables false
set_option maxHeartbeats 8000000 in
set_option maxRecDepth 100000 in
theorem disk_again_law {w : World} {v u : Value} {ds ms : List Disk.Dq} (h : Dqs w w.heap.size v ds) (h2 : Dqs w w.heap.size u ms) (hE : Env w) (hn : ds.length ≤ 1048576) (hsz : ∀ x ∈ ds, (x.path.length ≤ 1048576 ∧ x.to.length ≤ 1048576) ∧ x.Fits) (hn2 : ms.length ≤ 1048576) (hsz2 : ∀ x ∈ ms, (x.path.length ≤ 1048576 ∧ x.to.length ≤ 1048576) ∧ x.Fits) :
    Calls Tryz.prog 8 #[v, u] w fun e w' => e = .returned (.bool true) ∧ Below w.heap.size w w' := by
  obtain ⟨a2, c2, rfl⟩ := h2.form
  obtain ⟨M, hL2⟩ : ∃ N, N = ms.length := ⟨_, rfl⟩
  have HH2 := Lib.hid h2
  have HSZ2 := Lib.hid hsz2
  rw [← hL2] at hn2 ⊢
  have HL2 := Lib.hid hL2
  clear h2 hsz2 hL2
  obtain ⟨a1, c1, rfl⟩ := h.form
  obtain ⟨L, hL⟩ : ∃ N, N = ds.length := ⟨_, rfl⟩
  have HH := Lib.hid h
  have HSZ := Lib.hid hsz
  have HE := Lib.hid (fun (W : World) (hb : Below w.heap.size w W) => hE.below hb (Nat.le_refl _))
  have HLV := Lib.hid (fun (W : World) (hb : Below w.heap.size w W) => lives01_any W (hE.below hb (Nat.le_refl _)))
  rw [← hL] at hn ⊢
  have HL := Lib.hid hL
  clear h hsz hL hE
  go_enter Tryz.func8, Tryz.ntmps8
  go_wp2_with fail
  refine (newD_any w w.heap.size (Nat.le_refl _)).mono ?_
  rintro e w1 ⟨sd, O1, rfl, hd1, hO1, hb1⟩
  have HD1 := Lib.hid hd1
  have HB1 := Lib.hid hb1
  clear hd1 hb1
  go_wp2_with fail
  refine (rnewD_any w1 w.heap.size HB1.out.size).mono ?_
  rintro e w2 ⟨rd, O2, rfl, hd2, hO2, hb2⟩
  have HT2 := Lib.hid (Duo.made HD1.out hb2 hd2 hO2)
  have HB2 := Lib.hid (HB1.out.trans (hb2.mono HB1.out.size))
  clear hd2 hO1 hO2 hb2
  go_wp2
  go_loopw [7] (fun q wr => ∃ (i : Nat) (s : Disk.S), q = .int .i64 i ∧ i ≤ L ∧ Disk.Hung s.l ∧ Duo wr w.heap.size (fun _ => False) sd rd (2 * i) s s ∧ Below w.heap.size w wr) (fun q _ => L - (intOf q).toNat)
  case atStart => exact ⟨0, newS, rfl, by omega, Disk.hung_nil, HT2.out, HB2.out⟩
  case round =>
    obtain ⟨i, s, rfl, hi, hhu, ht, hBr⟩ := hrel
    obtain ⟨wo, rfl⟩ : ∃ x, x = wr := ⟨wr, rfl⟩
    have HT := Lib.hid ht
    have HHU := Lib.hid hhu
    have HBR := Lib.hid hBr
    have hzr := hBr.size
    clear ht hhu hBr
    by_cases hiL : i < L
    · obtain ⟨x, hx⟩ : ∃ x, ds[i]? = some x := ⟨_, List.getElem?_eq_getElem (by have := HL.out; omega)⟩
      obtain ⟨bk, o, cap, hve, hbB, hbc⟩ := HH.out.at (by have := HL.out; omega)
      rw [← HL.out] at hve
      cases hve
      obtain ⟨e1, e2, e3, e4, e5⟩ := hbc i x hx
      rw [← HBR.out.cell (p := ⟨bk, o + i * 5, none⟩) hbB] at e1
      rw [← HBR.out.cell (p := ⟨bk, o + i * 5 + 1, none⟩) hbB] at e2
      rw [← HBR.out.cell (p := ⟨bk, o + i * 5 + 2, none⟩) hbB] at e3
      rw [← HBR.out.cell (p := ⟨bk, o + i * 5 + 3, none⟩) hbB] at e4
      rw [← HBR.out.cell (p := ⟨bk, o + i * 5 + 4, none⟩) hbB] at e5
      have HX := Lib.hid (HSZ.out x (List.mem_of_getElem? hx))
      have hiI : (i : Int) < (L : Int) := by omega
      have HASK := Lib.hid (asks_any HT.out (fun W hb => HE.out W (HBR.out.trans hb)) (by omega) x HX.out.2 (by have := HX.out; omega) (by have := HX.out; omega))
      clear hbc hx
      go_wp2_with fail
      refine HASK.out.mono ?_
      rintro e w6 ⟨rfl, hn6⟩
      have HN6 := Lib.hid hn6
      clear hn6 e1 e2 e3 e4 e5
      go_wp2
      go_roundw
      case rel => exact ⟨i + 1, _, by go_num, by omega, Disk.hung_asks HHU.out x, HN6.out.duo.more (by omega), HBR.out.trans HN6.out.below⟩
      case measure => simp [intOf]; omega
    · have hex : ¬ (i : Int) < (L : Int) := by omega
      have hfit := HT.out.fit
      have hsl : s.l.length ≤ 2097152 := by have := hfit.1; omega
      clear hfit
      have HALL := Lib.hid (HT.out.all (by omega))
      go_wp2_with fail
      refine HALL.out.mono ?_
      rintro e w1 ⟨v1, rfl, hr1, hb1⟩
      have HT1 := Lib.hid (HT.out.below hb1)
      have HB1' := Lib.hid (HBR.out.trans (hb1.mono hzr))
      have HLD := Lib.hid (load_told hr1.files (Nat.le_refl _) (HE.out _ HB1'.out) HHU.out (by omega))
      clear hr1 hb1
      go_wp2_with fail
      refine HLD.out.mono ?_
      rintro e w2 ⟨sc, bm, n0, rfl, hdi, hn0, hb2⟩
      have hdl := Dsk.loaded (B := w.heap.size) (N := 2 * i) hdi HB1'.out.size (by have := HT.out.fit.1; omega) HT.out.fit.2.2.2
      have HT2' := Lib.hid (HT1.out.beside hb2 hdl.1 hdl.2)
      have HB2' := Lib.hid (HB1'.out.trans (hb2.mono HB1'.out.size))
      clear hdi hn0 hb2 hdl
      have HU := Lib.hid (HT2'.out.swap.actT (Nat.le_refl _) (fun O hO => up_any hO))
      go_wp2_with fail
      refine HU.out.mono ?_
      rintro e w3 ⟨rfl, hn3⟩
      have HT3 := Lib.hid hn3.two
      have HB3 := Lib.hid (HB2'.out.trans hn3.below)
      have HCL := Lib.hid (HT3.out.actT (Nat.le_refl _) (fun O hO => clear_disk hO))
      clear hn3
      go_wp2_with fail
      refine HCL.out.mono ?_
      rintro e w4 ⟨rfl, hn4⟩
      have HT4 : Hid (Two w4 w.heap.size (fun _ => False) sc sd (2 * i) (loadS s.l) (loadS s.l)) := Lib.hid hn4.two.swap
      have HB4 := Lib.hid (HB3.out.trans hn4.below)
      clear hn4
      obtain ⟨N, hN⟩ : ∃ N, N = 2 * i := ⟨_, rfl⟩
      obtain ⟨s0, hs0⟩ : ∃ s0, s0 = loadS s.l := ⟨_, rfl⟩
      rw [← hN, ← hs0] at HT4
      have hNN : N ≤ 2097152 := by omega
      have hsl0 : s0.l.length ≤ 2097152 := by rw [hs0]; exact hsl
      have HS0 := Lib.hid hsl0
      clear hN hs0 hsl0
      go_wp2
      go_loopw [10] (fun q wr => ∃ (j : Nat) (t : Disk.S), q = .int .i64 j ∧ j ≤ M ∧ Two wr w.heap.size (fun _ => False) sc sd (N + 2 * j) t t ∧ t.l.length ≤ 2097152 + j ∧ Below w.heap.size w wr) (fun q _ => M - (intOf q).toNat)
      case atStart => exact ⟨0, s0, rfl, by omega, HT4.out, by have := HS0.out; omega, HB4.out⟩
      case round =>
        clear hzr hex hiL hi hsl
        obtain ⟨j, t, rfl, hj, ht, htl, hBr⟩ := hrel
        obtain ⟨wo, rfl⟩ : ∃ x, x = wr := ⟨wr, rfl⟩
        have HTT := Lib.hid ht
        have HTL := Lib.hid htl
        have HBR := Lib.hid hBr
        have hzr := hBr.size
        clear ht htl hBr
        by_cases hjM : j < M
        · obtain ⟨x, hx⟩ : ∃ x, ms[j]? = some x := ⟨_, List.getElem?_eq_getElem (by have := HL2.out; omega)⟩
          obtain ⟨bk, o, cap, hve, hbB, hbc⟩ := HH2.out.at (by have := HL2.out; omega)
          rw [← HL2.out] at hve
          cases hve
          obtain ⟨e1, e2, e3, e4, e5⟩ := hbc j x hx
          rw [← HBR.out.cell (p := ⟨bk, o + j * 5, none⟩) hbB] at e1
          rw [← HBR.out.cell (p := ⟨bk, o + j * 5 + 1, none⟩) hbB] at e2
          rw [← HBR.out.cell (p := ⟨bk, o + j * 5 + 2, none⟩) hbB] at e3
          rw [← HBR.out.cell (p := ⟨bk, o + j * 5 + 3, none⟩) hbB] at e4
          rw [← HBR.out.cell (p := ⟨bk, o + j * 5 + 4, none⟩) hbB] at e5
          have HX := Lib.hid (HSZ2.out x (List.mem_of_getElem? hx))
          have hjI : (j : Int) < (M : Int) := by omega
          clear hbc hx
          obtain ⟨W0, hW0⟩ : ∃ W, W = wo.alloc (.cells #[.int .i64 x.kind, .string (bs x.path), .string (bs x.to), .string (bs x.data), .int .i64 x.n] 29) := ⟨_, rfl⟩
          have g0 : W0.cell? ⟨wo.heap.size, 0, none⟩ = some (.int .i64 x.kind) ∧ W0.cell? ⟨wo.heap.size, 1, none⟩ = some (.string (bs x.path)) ∧ W0.cell? ⟨wo.heap.size, 2, none⟩ = some (.string (bs x.to)) ∧ W0.cell? ⟨wo.heap.size, 3, none⟩ = some (.string (bs x.data)) ∧ W0.cell? ⟨wo.heap.size, 4, none⟩ = some (.int .i64 x.n) := by rw [hW0]; exact ⟨by simp, by simp, by simp, by simp, by simp⟩
          have gs : W0.heap.size = wo.heap.size + 1 := by rw [hW0]; simp
          have hB0 : Below wo.heap.size wo W0 := by rw [hW0]; exact (Below.refl _ _).alloc (Nat.le_refl _) _
          obtain ⟨WD, hWD⟩ : ∃ WD, WD = W0.drew := ⟨_, rfl⟩
          have hB1 : Below wo.heap.size wo WD := by rw [hWD]; exact hB0.drew
          obtain ⟨Z1, hZ1⟩ : ∃ Z1 : Nat → Prop, Z1 = fun k => wo.heap.size ≤ k ∧ k < WD.heap.size := ⟨_, rfl⟩
          have HTWO : Hid (Two WD w.heap.size Z1 sc sd (N + 2 * j) t t) := Lib.hid (by rw [hZ1]; exact HTT.out.fresh hB1)
          have HBWD : Hid (Below w.heap.size w WD) := Lib.hid (HBR.out.trans (hB1.mono hzr))
          have HSS : Hid (∀ W : World, W.heap[wo.heap.size]? = W0.heap[wo.heap.size]? → W.cell? ⟨wo.heap.size, 0, none⟩ = some (.int .i64 x.kind) ∧ W.cell? ⟨wo.heap.size, 1, none⟩ = some (.string (bs x.path)) ∧ W.cell? ⟨wo.heap.size, 2, none⟩ = some (.string (bs x.to)) ∧ W.cell? ⟨wo.heap.size, 3, none⟩ = some (.string (bs x.data)) ∧ W.cell? ⟨wo.heap.size, 4, none⟩ = some (.int .i64 x.n)) := Lib.hid (fun W hW => by
            have hc : ∀ k, W.cell? ⟨wo.heap.size, k, none⟩ = W0.cell? ⟨wo.heap.size, k, none⟩ := fun k => World.cell?_of_block (a := ⟨wo.heap.size, k, none⟩) hW
            rw [hc, hc, hc, hc, hc]
            exact g0)
          have HBLK : Hid (∀ (w1 w' : World) (sa sb m : Nat) (a b : Disk.S), w1.heap[wo.heap.size]? = W0.heap[wo.heap.size]? → TwoNow w1 w' w.heap.size Z1 sa sb m a b → w'.heap[wo.heap.size]? = W0.heap[wo.heap.size]?) := Lib.hid (fun w1 w' sa sb m a b h1 hn => by
            rw [hn.keep wo.heap.size (by rw [hZ1]; exact ⟨Nat.le_refl _, by rw [hWD]; show wo.heap.size < W0.heap.size; omega⟩), h1])
          have HBK0 : Hid (WD.heap[wo.heap.size]? = W0.heap[wo.heap.size]?) := Lib.hid (by rw [hWD]; rfl)
          obtain ⟨R, hR⟩ : ∃ R, R = t.asked x.kind x := ⟨_, rfl⟩
          obtain ⟨r1, hr1⟩ : ∃ r, r = R.1 := ⟨_, rfl⟩
          have HLR : Hid (R.2.l.length ≤ 2097152 + (j + 1)) := Lib.hid (by rw [hR]; have := ask_len t x.kind x; have := HTL.out; omega)
          have HACT : Hid (∀ (W : World) (sa sb m : Nat) (b : Disk.S), Two W w.heap.size Z1 sa sb m t b → Below w.heap.size w W → m ≤ 549755813888 → Calls Tryz.prog 29 #[.pointer (some ⟨sa, 0, none⟩), .agg #[.int .i64 x.kind, .string (bs x.path), .string (bs x.to), .string (bs x.data), .int .i64 x.n]] W fun e w' => e = .returned (.int .i64 r1) ∧ TwoNow W w' w.heap.size Z1 sa sb (m + 1) R.2 b) := Lib.hid (fun W sa sb m b hd hb hm => hd.actT (Nat.le_succ m) (fun O hO => by
            have := asked_any hO (HE.out W hb) (by omega) x.kind x (by have := HX.out; omega) (by have := HX.out; omega)
            rw [← hR] at this
            exact this.mono fun e w' h => ⟨by rw [hr1]; exact h.1, h.2⟩))
          have HD1 := Lib.hid (HACT.out WD sc sd (N + 2 * j) t HTWO.out HBWD.out (by omega))
          have HR1 := Lib.hid (HACT.out WD sd sc (N + 2 * j) t HTWO.out.swap HBWD.out (by omega))
          obtain ⟨c0, c1', c2', c3, c4⟩ := g0
          clear hr1 hR hZ1 hB0 hB1
          go_wp2
          rw [← hW0]
          clear hW0 e1 e2 e3 e4 e5
          subst hWD
          go_region_held3 (fun w' => w'.cell? ⟨wo.heap.size, 0, none⟩ = some (.int .i64 x.kind) ∧ w'.cell? ⟨wo.heap.size, 1, none⟩ = some (.string (bs x.path)) ∧ w'.cell? ⟨wo.heap.size, 2, none⟩ = some (.string (bs x.to)) ∧ w'.cell? ⟨wo.heap.size, 3, none⟩ = some (.string (bs x.data)) ∧ w'.cell? ⟨wo.heap.size, 4, none⟩ = some (.int .i64 x.n)) (first | exact HSS.out _ HBK0.out | exact HSS.out _ hk7 | exact HSS.out _ hk8) (first
            | (go_at_call 29; refine (HD2.out).mono ?_; rintro e w8 ⟨rfl, hn8⟩; have HFIN := Lib.hid (hn7.swap.then hn8); have hk8 := HBLK.out _ w8 _ _ _ _ _ hk7 hn8)
            | (go_at_call 29; refine (HR2.out).mono ?_; rintro e w8 ⟨rfl, hn8⟩; have HFIN := Lib.hid (hn7.then hn8.swap).swap; have hk8 := HBLK.out _ w8 _ _ _ _ _ hk7 hn8)
            | (go_at_call 29; refine (HD1.out).mono ?_; rintro e w7 ⟨rfl, hn7⟩; have HR2 := Lib.hid (HACT.out w7 sd sc (N + 2 * j + 1) _ hn7.two.swap (HBWD.out.trans hn7.below) (by omega)); have hk7 := HBLK.out _ w7 _ _ _ _ _ HBK0.out hn7)
            | (go_at_call 29; refine (HR1.out).mono ?_; rintro e w7 ⟨rfl, hn7⟩; have HD2 := Lib.hid (HACT.out w7 sc sd (N + 2 * j + 1) _ hn7.two.swap (HBWD.out.trans hn7.below) (by omega)); have hk7 := HBLK.out _ w7 _ _ _ _ _ HBK0.out hn7))
          all_goals
            have HF : Hid (Two w8 w.heap.size Z1 sc sd (N + 2 * j + 1 + 1) R.2 R.2) := Lib.hid (by first | exact HFIN.out.two | exact HFIN.out.two.swap)
            have HB8 : Hid (Below w.heap.size w w8) := Lib.hid (HBWD.out.trans HFIN.out.below)
            obtain ⟨d0, d1, d2, d3, d4⟩ := HSS.out w8 hk8
            have hz8 : wo.heap.size < w8.heap.size := size_of_cell d0
            have HRD1 := Lib.hid (HF.out.read (HE.out _ HB8.out) x.path (by have := HX.out; omega))
            obtain ⟨tx, htx⟩ : ∃ y, y = (Disk.readR R.2.l x.path).1 := ⟨_, rfl⟩
            obtain ⟨ec, hec⟩ : ∃ y, y = (Disk.readR R.2.l x.path).2 := ⟨_, rfl⟩
            rw [← htx, ← hec] at HRD1
            clear hk7 hk8 hn7 hn8 HFIN c0 c1' c2' c3 c4 d0 d3 d4
            go_wp2_with fail
            refine HRD1.out.mono ?_
            rintro e w9 ⟨rfl, hb9⟩
            have HF9 := Lib.hid (HF.out.below hb9)
            have HB9 := Lib.hid (HB8.out.trans (hb9.mono HB8.out.size))
            have f1 := (hb9.cell (p := ⟨wo.heap.size, 1, none⟩) hz8).trans d1
            have f2 := (hb9.cell (p := ⟨wo.heap.size, 2, none⟩) hz8).trans d2
            have hz9 : wo.heap.size < w9.heap.size := size_of_cell f1
            have HRD2 := Lib.hid (HF9.out.swap.read (HE.out _ HB9.out) x.path (by have := HX.out; omega))
            rw [← htx, ← hec] at HRD2
            clear htx hec hb9 d1 d2 hz8
            go_wp2_with fail
            refine HRD2.out.mono ?_
            rintro e w10 ⟨rfl, hb10⟩
            have HF10 := Lib.hid ((HF9.out.below hb10).below (Below.refl _ _).drew)
            have HB10 := Lib.hid (HB9.out.trans (hb10.mono HB9.out.size)).drew
            have k2 := (hb10.cell (p := ⟨wo.heap.size, 2, none⟩) hz9).trans f2
            have hz10 : wo.heap.size < w10.drew.heap.size := size_of_cell (v := .string (bs x.to)) k2
            obtain ⟨kk, hkk⟩ : ∃ y, y = Disk.kind R.2.l x.to := ⟨_, rfl⟩
            have HKI : Hid (∀ (W : World) (sa sb : Nat), Two W w.heap.size Z1 sa sb (N + 2 * j + 1 + 1) R.2 R.2 → Calls Tryz.prog 25 #[.pointer (some ⟨sa, 0, none⟩), .string (bs x.to)] W fun e w' => e = .returned (.int .i64 kk) ∧ Below W.heap.size W w') := Lib.hid (fun W sa sb hd => by
              have := hd.kind x.to (by have := HX.out; omega)
              rw [← hkk] at this
              exact this)
            have HC1 := Lib.hid (HKI.out w10.drew sc sd HF10.out)
            have HS1 := Lib.hid (HKI.out w10.drew sd sc HF10.out.swap)
            have hq1 := sv_inj (a := tx) (b := tx)
            rw [decide_eq_true rfl] at hq1
            clear hkk hb10 f1 f2 hz9
            go_wp2
            go_region_held3 (fun w' => w'.cell? ⟨wo.heap.size, 2, none⟩ = some (.string (bs x.to))) (first | exact k2 | exact k11 | exact k12) (first
              | (go_at_call 25; refine (HK2.out).mono ?_; rintro e w12 ⟨rfl, hb12⟩; have HF12 := Lib.hid (HF11.out.below hb12); have HB12 := Lib.hid (HB11.out.trans (hb12.mono HB11.out.size)); have k12 := (hb12.cell (p := ⟨wo.heap.size, 2, none⟩) hz11).trans k11)
              | (go_at_call 25; refine (HC1.out).mono ?_; rintro e w11 ⟨rfl, hb11⟩; have HF11 := Lib.hid (HF10.out.below hb11); have HB11 := Lib.hid (HB10.out.trans (hb11.mono HB10.out.size)); have k11 := (hb11.cell (p := ⟨wo.heap.size, 2, none⟩) hz10).trans k2; have hz11 := size_of_cell k11; have HK2 := Lib.hid (HKI.out w11 sd sc HF11.out.swap))
              | (go_at_call 25; refine (HS1.out).mono ?_; rintro e w11 ⟨rfl, hb11⟩; have HF11 := Lib.hid (HF10.out.below hb11); have HB11 := Lib.hid (HB10.out.trans (hb11.mono HB10.out.size)); have k11 := (hb11.cell (p := ⟨wo.heap.size, 2, none⟩) hz10).trans k2; have hz11 := size_of_cell k11; have HK2 := Lib.hid (HKI.out w11 sc sd HF11.out)))
            all_goals
              go_wp2
              go_roundw
              case rel => exact ⟨j + 1, R.2, by go_num, by omega, HF12.out.free.more (by omega), HLR.out, HB12.out⟩
              case measure => simp [intOf]; omega
        · have hee : ¬ (j : Int) < (M : Int) := by omega
          have HFL : Hid ((fls t.l).length ≤ 4398046511104) := Lib.hid (by rw [fls_length]; have := HTL.out; omega)
          have HRL : Hid (t.raws.length ≤ 4398046511104) := Lib.hid (by have := HTT.out.rawsLe; omega)
          have HR1 := Lib.hid (HTT.out.all (by have := HTL.out; omega))
          go_wp2_with fail
          refine HR1.out.mono ?_
          rintro e w1 ⟨v1, rfl, hr1, hb1⟩
          have HF1 := Lib.hid hr1.files
          have HT1 := Lib.hid (HTT.out.below hb1)
          have HB1 := Lib.hid (HBR.out.trans (hb1.mono hzr))
          have HR2 := Lib.hid (HT1.out.swap.all (by have := HTL.out; omega))
          clear hr1 hb1
          go_wp2_with fail
          refine HR2.out.mono ?_
          rintro e w2 ⟨v2, rfl, hr2, hb2⟩
          have HT2 := Lib.hid (HT1.out.below hb2)
          have HB2 := Lib.hid (HB1.out.trans (hb2.mono HB1.out.size))
          have HC2 := Lib.hid (files_any (HF1.out.below hb2 (Nat.le_refl _) |>.mono hb2.size) hr2.files HFL.out)
          clear hr2 hb2
          go_wp2_with fail
          refine HC2.out.mono ?_
          rintro e w3 ⟨rfl, m, rfl⟩
          have HT3 := Lib.hid (HT2.out.below (w' := w2.drewN m) (bdrew (Below.refl _ _) m))
          have HB3 := Lib.hid (bdrew HB2.out m)
          obtain ⟨w3, hw3⟩ : ∃ x, x = w2.drewN m := ⟨_, rfl⟩
          rw [← hw3] at HT3 HB3 ⊢
          clear hw3
          have HR3 := Lib.hid (HT3.out.raws (by omega))
          go_wp2_with fail
          refine HR3.out.mono ?_
          rintro e w4 ⟨v4, rfl, hr4, hb4⟩
          have HF4 := Lib.hid hr4.rws
          have HT4 := Lib.hid (HT3.out.below hb4)
          have HB4 := Lib.hid (HB3.out.trans (hb4.mono HB3.out.size))
          have HR4 := Lib.hid (HT4.out.swap.raws (by omega))
          clear hr4 hb4
          go_wp2_with fail
          refine HR4.out.mono ?_
          rintro e w5 ⟨v5, rfl, hr5, hb5⟩
          have HB5 := Lib.hid (HB4.out.trans (hb5.mono HB4.out.size))
          have HC5 := Lib.hid (raws_any (HF4.out.below hb5 (Nat.le_refl _) |>.mono hb5.size) hr5.rws HRL.out)
          clear hr5 hb5
          go_wp2_with fail
          refine HC5.out.mono ?_
          rintro e w6 ⟨rfl, m2, rfl⟩
          have HB6 := Lib.hid (bdrew HB5.out m2)
          obtain ⟨w6, hw6⟩ : ∃ x, x = w5.drewN m2 := ⟨_, rfl⟩
          rw [← hw6] at HB6 ⊢
          clear hw6
          go_wp2_with fail
          refine (HLV.out _ HB6.out).mono ?_
          rintro e w7 ⟨rfl, hb7⟩
          have HB7 := Lib.hid (HB6.out.trans (hb7.mono HB6.out.size))
          go_wp2
          go_returns
          exact ⟨rfl, HB7.out⟩
end Go.Proofs.YtnfklomokjhojaaGreatDoor
