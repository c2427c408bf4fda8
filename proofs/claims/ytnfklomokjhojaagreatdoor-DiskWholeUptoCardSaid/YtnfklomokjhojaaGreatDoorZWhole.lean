/- DiskWhole's walk. -/
import Derived.Test.YtnfklomokjhojaaGreatDoorZWholeL
namespace Go.Proofs.YtnfklomokjhojaaGreatDoor
open Go.RowKit Go.Maps
set_option linter.unusedSimpArgs false
set_option linter.unusedVariables false
set_option maxHeartbeats 16000000 in
set_option maxRecDepth 100000 in
theorem disk_whole_law {w0 : World} {v : Value} {ds : List Disk.Dq} (h0 : Dqs w0 w0.heap.size v ds) (hE0 : Env w0) (hn : ds.length ≤ 1048576) (hsz : ∀ x ∈ ds, (x.path.length ≤ 1048576 ∧ x.to.length ≤ 1048576) ∧ x.Fits) (y : Disk.Dq) (hy : (y.path.length ≤ 1048576 ∧ y.to.length ≤ 1048576) ∧ y.Fits) :
    Calls Tryz.prog 4 #[v, .agg #[.int .i64 y.kind, .string (bs y.path), .string (bs y.to), .string (bs y.data), .int .i64 y.n]] w0 fun e w' => e = .returned (.bool true) ∧ Below w0.heap.size w0 w' := by
  obtain ⟨w, hw⟩ : ∃ W, W = w0.alloc (.cells #[.int .i64 y.kind, .string (bs y.path), .string (bs y.to), .string (bs y.data), .int .i64 y.n] 29) := ⟨_, rfl⟩
  have gs : w.heap.size = w0.heap.size + 1 := by rw [hw]; simp
  have hB00 : Below w0.heap.size w0 w := by rw [hw]; exact (Below.refl _ _).alloc (Nat.le_refl _) _
  have HB00 := Lib.hid hB00
  have HG : Hid (∀ W, Below w.heap.size w W → W.cell? ⟨w0.heap.size, 0, none⟩ = some (.int .i64 y.kind) ∧ W.cell? ⟨w0.heap.size, 1, none⟩ = some (.string (bs y.path)) ∧ W.cell? ⟨w0.heap.size, 2, none⟩ = some (.string (bs y.to)) ∧ W.cell? ⟨w0.heap.size, 3, none⟩ = some (.string (bs y.data)) ∧ W.cell? ⟨w0.heap.size, 4, none⟩ = some (.int .i64 y.n) ∧ W.frozen? ⟨w0.heap.size, 0, none⟩ = false) := Lib.hid (fun W hb => by
    have hblk := hb.block w0.heap.size (by omega)
    have hc : ∀ j, W.cell? ⟨w0.heap.size, j, none⟩ = w.cell? ⟨w0.heap.size, j, none⟩ := fun j => World.cell?_of_block (a := ⟨w0.heap.size, j, none⟩) hblk
    have hf : W.frozen? ⟨w0.heap.size, 0, none⟩ = w.frozen? ⟨w0.heap.size, 0, none⟩ := World.frozen?_of_block (a := ⟨w0.heap.size, 0, none⟩) hblk
    rw [hc, hc, hc, hc, hc, hf, hw]
    exact ⟨by simp, by simp, by simp, by simp, by simp, by simp⟩)
  have HE0 := Lib.hid (fun (W : World) (hb : Below w0.heap.size w0 W) => hE0.below hb (Nat.le_refl _))
  have HLV0 := Lib.hid (fun (W : World) (hb : Below w0.heap.size w0 W) => lives01_any W (hE0.below hb (Nat.le_refl _)))
  have h : Dqs w w.heap.size v ds := (h0.below hB00 (Nat.le_refl _)).mono (by omega)
  have hE : Env w := hE0.below hB00 (Nat.le_refl _)
  have HY := Lib.hid hy
  clear h0 hE0 hB00 hy
  obtain ⟨a1, c1, rfl⟩ := h.form
  obtain ⟨L, hL⟩ : ∃ N, N = ds.length := ⟨_, rfl⟩
  have HH := Lib.hid h
  have HSZ := Lib.hid hsz
  have HE := Lib.hid (fun (W : World) (hb : Below w.heap.size w W) => hE.below hb (Nat.le_refl _))
  have HLV := Lib.hid (fun (W : World) (hb : Below w.heap.size w W) => lives01_any W (hE.below hb (Nat.le_refl _)))
  rw [← hL] at hn ⊢
  have HL := Lib.hid hL
  clear h hsz hL hE
  go_enter Tryz.func4, Tryz.ntmps4
  go_wp2_with fail
  rw [← hw]
  clear hw
  refine (newD_any w w.heap.size (Nat.le_refl _)).mono ?_
  rintro e w1 ⟨sd, O1, rfl, hd1, hO1, hb1⟩
  have HD1 := Lib.hid hd1
  have HB1 := Lib.hid hb1
  clear hd1 hb1
  go_wp2_with fail
  refine (rnewD_any w1 w.heap.size HB1.out.size).mono ?_
  rintro e w2 ⟨rd, O2, rfl, hd2, hO2, hb2⟩
  have HT2 := Lib.hid (Duo.made HD1.out hb2 hd2 hO2)
  have HB2 := Lib.hid (HB1.out.trans (hb2.mono HB1.out.size))
  clear hd2 hO1 hO2 hb2
  go_wp2
  go_loopw [7] (fun q wr => ∃ (i : Nat) (s : Disk.S), q = .int .i64 i ∧ i ≤ L ∧ Disk.Hung s.l ∧ Duo wr w.heap.size (fun _ => False) sd rd (2 * i) s s ∧ Below w.heap.size w wr) (fun q _ => L - (intOf q).toNat)
  case atStart => exact ⟨0, newS, rfl, by omega, Disk.hung_nil, HT2.out, HB2.out⟩
  case round =>
    obtain ⟨i, s, rfl, hi, hhu, ht, hBr⟩ := hrel
    obtain ⟨wo, rfl⟩ : ∃ x, x = wr := ⟨wr, rfl⟩
    have HT := Lib.hid ht
    have HHU := Lib.hid hhu
    have HBR := Lib.hid hBr
    have hzr := hBr.size
    clear ht hhu hBr
    by_cases hiL : i < L
    · obtain ⟨x, hx⟩ : ∃ x, ds[i]? = some x := ⟨_, List.getElem?_eq_getElem (by have := HL.out; omega)⟩
      obtain ⟨bk, o, cap, hve, hbB, hbc⟩ := HH.out.at (by have := HL.out; omega)
      rw [← HL.out] at hve
      cases hve
      obtain ⟨e1, e2, e3, e4, e5⟩ := hbc i x hx
      rw [← HBR.out.cell (p := ⟨bk, o + i * 5, none⟩) hbB] at e1
      rw [← HBR.out.cell (p := ⟨bk, o + i * 5 + 1, none⟩) hbB] at e2
      rw [← HBR.out.cell (p := ⟨bk, o + i * 5 + 2, none⟩) hbB] at e3
      rw [← HBR.out.cell (p := ⟨bk, o + i * 5 + 3, none⟩) hbB] at e4
      rw [← HBR.out.cell (p := ⟨bk, o + i * 5 + 4, none⟩) hbB] at e5
      have HX := Lib.hid (HSZ.out x (List.mem_of_getElem? hx))
      have hiI : (i : Int) < (L : Int) := by omega
      have HASK := Lib.hid (asks_any HT.out (fun W hb => HE.out W (HBR.out.trans hb)) (by omega) x HX.out.2 (by have := HX.out; omega) (by have := HX.out; omega))
      clear hbc hx
      go_wp2_with fail
      refine HASK.out.mono ?_
      rintro e w6 ⟨rfl, hn6⟩
      have HN6 := Lib.hid hn6
      clear hn6 e1 e2 e3 e4 e5
      go_wp2
      go_roundw
      case rel => exact ⟨i + 1, _, by go_num, by omega, Disk.hung_asks HHU.out x, HN6.out.duo.more (by omega), HBR.out.trans HN6.out.below⟩
      case measure => simp [intOf]; omega
    · have hex : ¬ (i : Int) < (L : Int) := by omega
      have hfit := HT.out.fit
      have hsl : s.l.length ≤ 2097152 := by have := hfit.1; omega
      clear hfit
      have hz0 : w0.heap.size < wo.heap.size := by omega
      have HALL := Lib.hid (HT.out.all (by omega))
      go_wp2_with fail
      refine HALL.out.mono ?_
      rintro e w1 ⟨v1, rfl, hr1, hb1⟩
      have HT1 := Lib.hid (HT.out.fresh hb1)
      have HB1' := Lib.hid (HBR.out.trans (hb1.mono hzr))
      have HR1 := Lib.hid hr1
      have HV1 := Lib.hid (fun g (hg : v1.ownBlock = some g) => (World.ownsRow.lt hr1 g hg).2)
      have hz1 := hb1.size
      clear hr1 hb1
      have HRW := Lib.hid (HT1.out.raws (by omega))
      go_wp2_with fail
      refine HRW.out.mono ?_
      rintro e w2 ⟨v2, rfl, hr2, hb2⟩
      obtain ⟨a2, c2, rfl⟩ := own_form hr2
      obtain ⟨N, hN⟩ : ∃ N, N = s.raws.length := ⟨_, rfl⟩
      rw [← hN]
      have hNN : N ≤ 2097152 := by have := HT.out.fit.2.1; omega
      have HN := Lib.hid hN
      have HT2 := Lib.hid (HT1.out.below hb2)
      have HB2 := Lib.hid (HB1'.out.trans (hb2.mono (by omega)))
      have HR2 := Lib.hid (own_keep HR1.out (fun g _ h1 h2 => hb2.block g h2))
      have hz2 := hb2.size
      clear hr2 hb2 hN
      obtain ⟨d0, d1, d2, d3, d4, df⟩ := HG.out w2 HB2.out
      have hrk := pickI_range y.kind 4 (by decide)
      obtain ⟨k4, hk4⟩ : ∃ k, k = Disk.pickI y.kind 4 := ⟨_, rfl⟩
      have HPK := Lib.hid (pick01_any y.kind 4 HY.out.2.1 (by decide) (by decide) w2)
      rw [← hk4] at HPK hrk
      clear hk4
      go_wp2_with fail
      refine HPK.out.mono ?_
      rintro e w3 ⟨rfl, rfl⟩
      obtain ⟨w2, rfl⟩ : ∃ x, x = w3 := ⟨w3, rfl⟩
      obtain ⟨w3, hw3⟩ : ∃ W, W = w2.setCell ⟨w0.heap.size, 0, none⟩ (.int .i64 k4) := ⟨_, rfl⟩
      have hg3 : Keeps (fun k => k = w0.heap.size) w2 w3 := by rw [hw3]; exact Keeps.of_grown (setCell_grows w2 ⟨w0.heap.size, 0, none⟩ (.int .i64 k4)) (fun k e => (Option.some.inj e).symm)
      have HT3 := Lib.hid (HT2.out.keeps hg3 (fun k hk => by have hk' : k = w0.heap.size := hk; omega))
      have HB20 := Lib.hid (HB00.out.trans (HB2.out.mono (by omega)))
      have HB3 : Hid (Below w0.heap.size w0 w3) := Lib.hid (by rw [hw3]; exact HB20.out.setCell (p := ⟨w0.heap.size, 0, none⟩) (Nat.le_refl _) _)
      have HR3 := Lib.hid (own_keep HR2.out (fun g _ h1 h2 => hg3.block g h2 (fun hk => by have hk' : g = w0.heap.size := hk; omega)))
      have hz3 := hg3.size
      have HG3 : Hid (∀ W : World, W.heap[w0.heap.size]? = w3.heap[w0.heap.size]? → W.cell? ⟨w0.heap.size, 0, none⟩ = some (.int .i64 k4) ∧ W.cell? ⟨w0.heap.size, 1, none⟩ = some (.string (bs y.path)) ∧ W.cell? ⟨w0.heap.size, 2, none⟩ = some (.string (bs y.to))) := Lib.hid (fun W hW => by
        have hc : ∀ j, W.cell? ⟨w0.heap.size, j, none⟩ = w3.cell? ⟨w0.heap.size, j, none⟩ := fun j => World.cell?_of_block (a := ⟨w0.heap.size, j, none⟩) hW
        rw [hc, hc, hc, hw3]
        refine ⟨?_, ?_, ?_⟩
        · exact World.cell?_setCell_same _ _ _ d0
        · rw [World.cell?_setCell_other _ _ _ _ (by simp)]; exact d1
        · rw [World.cell?_setCell_other _ _ _ _ (by simp)]; exact d2)
      have HWR : Hid (Calls Tryz.prog 21 #[.pointer (some ⟨sd, 0, none⟩), .pointer (some ⟨rd, 0, none⟩), .agg #[.int .i64 k4, .string (bs y.path), .string (bs y.to), .string (bs y.data), .int .i64 y.n]] w3 fun e w' => e = .returned (.bool true) ∧ DuoNow w3 w' w.heap.size (fun k => False ∨ wo.heap.size ≤ k ∧ k < w1.heap.size) sd rd (2 * i + 1 + 1) (s.asked k4 ⟨k4, y.path, y.to, y.data, y.n⟩).2 (s.asked k4 ⟨k4, y.path, y.to, y.data, y.n⟩).2) := Lib.hid (writes_any HT3.out (fun W hb => HE0.out W (HB3.out.trans (hb.mono (by omega)))) (by omega) ⟨k4, y.path, y.to, y.data, y.n⟩ ⟨⟨by show _ ≤ k4; omega, by show k4 ≤ _; omega⟩, HY.out.2.2⟩ (by have := HY.out.1.1; show y.path.length ≤ _; omega) (by have := HY.out.1.2; show y.to.length ≤ _; omega) k4 (pick_small hrk.1 hrk.2))
      obtain ⟨s2, hs2⟩ : ∃ t, t = (s.asked k4 ⟨k4, y.path, y.to, y.data, y.n⟩).2 := ⟨_, rfl⟩
      have HWH : Hid (s2 = s ∨ (s2.raws.length = s.raws.length + 1 ∧ ∀ p, p ≠ y.path → (k4 = 2 → p ≠ y.to) → SM.look s2.l p = SM.look s.l p)) := Lib.hid (by rw [hs2]; exact Disk.asked_whole s k4 ⟨k4, y.path, y.to, y.data, y.n⟩)
      have HHU2 : Hid (Disk.Hung s2.l) := Lib.hid (by rw [hs2]; exact Disk.hung_asked HHU.out _ _)
      rw [← hs2] at HWR
      clear hs2 hg3
      go_wp2_with fail
      rw [← hw3]
      clear hw3 d0 d1 d2 d3 d4 df
      refine HWR.out.mono ?_
      rintro e w4 ⟨rfl, hn4⟩
      have HT4 := Lib.hid hn4.duo
      have HB4 := Lib.hid (HB3.out.trans (hn4.below.mono (by omega)))
      have HR4 := Lib.hid (own_keep HR3.out (fun g h0 h1 h2 => hn4.keep g (Or.inr ⟨h1, HV1.out g h0⟩)))
      have HG4 := Lib.hid (hn4.below.block w0.heap.size (by omega))
      have hz4 := hn4.below.size
      clear hn4
      have hfit2 := HT4.out.fit
      have hsl2 : s2.l.length ≤ 2097154 := by have := hfit2.1; omega
      obtain ⟨N2, hN2⟩ : ∃ N, N = s2.raws.length := ⟨_, rfl⟩
      have hNN2 : N2 ≤ 2097154 := by have := hfit2.2.1; omega
      have HN2 := Lib.hid hN2
      clear hfit2
      have HALL4 := Lib.hid (HT4.out.all (by omega))
      go_wp2_with fail
      refine HALL4.out.mono ?_
      rintro e w5 ⟨v5, rfl, hr5, hb5⟩
      have HT5 := Lib.hid (HT4.out.below hb5)
      have HB5 := Lib.hid (HB4.out.trans (hb5.mono (by have := HB4.out.size; omega)))
      have HR5 := Lib.hid (own_keep HR4.out (fun g _ h1 h2 => hb5.block g h2))
      have HS5 := Lib.hid hr5
      have hz5 := hb5.size
      have HG5 := Lib.hid ((hb5.block w0.heap.size (by omega)).trans HG4.out)
      clear hr5 hb5
      have HRW5 := Lib.hid (HT5.out.raws (by omega))
      go_wp2_with fail
      refine HRW5.out.mono ?_
      rintro e w6 ⟨v6, rfl, hr6, hb6⟩
      obtain ⟨a6, c6, rfl⟩ := own_form hr6
      rw [← hN2]
      have HT6 := Lib.hid (HT5.out.below hb6)
      have HB6 := Lib.hid (HB5.out.trans (hb6.mono HB5.out.size))
      have HR6 := Lib.hid (own_keep HR5.out (fun g _ h1 h2 => hb6.block g h2))
      have HS6 := Lib.hid (own_keep HS5.out (fun g _ h1 h2 => hb6.block g h2))
      have HG6 := Lib.hid (HG3.out w6 ((hb6.block w0.heap.size (by omega)).trans HG5.out))
      clear hr6 hb6 hN2
      rcases HWH.out with hsame | ⟨hlen, hlook⟩
      · have hq6 : ((N2 : Int) == (N : Int)) = true := beq_iff_eq.2 (by have h1 := HN.out; have h2 := HN2.out; rw [hsame] at h2; omega)
        have HFA : Hid (Calls Tryz.prog 17 #[v1, v5] w6 fun e w' => e = .returned (.bool true) ∧ ∃ m, w' = w6.drewN m) := Lib.hid (files_any (FRow.files HR6.out) (by have := (FRow.files HS6.out); rw [hsame] at this; exact this) (by rw [fls_length]; omega))
        go_wp2_with fail
        refine HFA.out.mono ?_
        rintro e w7 ⟨rfl, m, rfl⟩
        have HB7 := Lib.hid (bdrew HB6.out m)
        obtain ⟨w7, hw7⟩ : ∃ x, x = w6.drewN m := ⟨_, rfl⟩
        rw [← hw7] at HB7 ⊢
        clear hw7
        go_wp2_with fail
        refine (HLV0.out _ HB7.out).mono ?_
        rintro e w9 ⟨rfl, hb9⟩
        have HB9 := Lib.hid (HB7.out.trans (hb9.mono HB7.out.size))
        go_wp2
        go_returns
        exact ⟨rfl, HB9.out⟩
      · have hq6 : ((N2 : Int) == (N : Int)) = false := beq_eq_false_iff_ne.2 (by have h1 := HN.out; have h2 := HN2.out; omega)
        have HNe : Hid ((N2 : Int) = (N : Int) + 1) := Lib.hid (by have h1 := HN.out; have h2 := HN2.out; omega)
        have HC1 : Hid (∀ f ∈ fls s.l, Disk.touched k4 y f = false → f ∈ fls s2.l) := Lib.hid (fun f hf ht => (Disk.mem_fls HHU2.out.rises).2 (by rw [hlook _ (Disk.touched_not ht).1 (Disk.touched_not ht).2]; exact (Disk.mem_fls HHU.out.rises).1 hf))
        have HC2 : Hid (∀ f ∈ fls s2.l, Disk.touched k4 y f = false → f ∈ fls s.l) := Lib.hid (fun f hf ht => (Disk.mem_fls HHU.out.rises).2 (by rw [← hlook _ (Disk.touched_not ht).1 (Disk.touched_not ht).2]; exact (Disk.mem_fls HHU2.out.rises).1 hf))
        clear hlen hlook
        obtain ⟨av, cv, rfl⟩ := own_form HR6.out
        obtain ⟨bv, dv, rfl⟩ := own_form HS6.out
        have HF1 := Lib.hid (FRow.files HR6.out)
        have HF2 := Lib.hid (FRow.files HS6.out)
        obtain ⟨b0, b1, b2⟩ := HG6.out
        obtain ⟨M1, hM1⟩ : ∃ M, M = (fls s.l).length := ⟨_, rfl⟩
        obtain ⟨M2, hM2⟩ : ∃ M, M = (fls s2.l).length := ⟨_, rfl⟩
        have HM1 := Lib.hid hM1
        have HM2 := Lib.hid hM2
        have hMM1 : M1 ≤ 2097152 := by rw [hM1, fls_length]; exact hsl
        have hMM2 : M2 ≤ 2097154 := by rw [hM2, fls_length]; exact hsl2
        rw [← hM1, ← hM2]
        clear hM1 hM2 HR1 HR2 HR3 HR4 HR5 HR6 HS5 HS6 HWR HALL HALL4 HRW HRW5 HPK
        go_wp2
        go_loopw [12] (fun q wr => ∃ (j m : Nat), q = .int .i64 j ∧ j ≤ M1 ∧ wr = w6.drewN m) (fun q _ => M1 - (intOf q).toNat)
        case atStart => exact ⟨0, 0, rfl, by omega, rfl⟩
        case round =>
          obtain ⟨j, m, rfl, hj, rfl⟩ := hrel
          by_cases hjM : j < M1
          · obtain ⟨f, hf⟩ : ∃ f, (fls s.l)[j]? = some f := ⟨_, List.getElem?_eq_getElem (by have := HM1.out; omega)⟩
            obtain ⟨bk, o, cap, hve, hbB, hbc⟩ := HF1.out.at (by have := HM1.out; omega)
            rw [← HM1.out] at hve
            cases hve
            obtain ⟨e1, e2, e3⟩ := hbc j f hf
            have hjI : (j : Int) < (M1 : Int) := by omega
            have HIN := Lib.hid (HC1.out f (List.mem_of_getElem? hf))
            clear hbc hf
            rcases touch_cases k4 y f with (⟨r1, rt⟩ | ⟨r1, r2, rt⟩) | (⟨r1, r2, r3, rt⟩ | ⟨r1, r2, r3, rt⟩)
            all_goals
              have HTB := Lib.hid rt
              clear rt
              go_wp2
              go_big_quiet (fail)
              go_wp2
              clear r1
              try clear r2
              try clear r3
              go_loopw [13, 14] (fun q p wr => ∃ (k : Nat) (b : Bool) (m : Nat), p = .int .i64 k ∧ q = .bool b ∧ k ≤ M2 ∧ (b = true ↔ (Disk.touched k4 y f = true ∨ (((fls s2.l).take k).any fun g => decide (g = f)) = true)) ∧ wr = w6.drewN m) (fun _ p _ => M2 - (intOf p).toNat)
              case atStart => exact ⟨0, _, _, rfl, rfl, by omega, by simp [HTB.out], drewN_add _ _ _⟩
              case round =>
                obtain ⟨k, b, m', rfl, rfl, hk, hb, rfl⟩ := hrel
                by_cases hkM : k < M2
                · obtain ⟨g, hg⟩ : ∃ g, (fls s2.l)[k]? = some g := ⟨_, List.getElem?_eq_getElem (by have := HM2.out; omega)⟩
                  obtain ⟨bm, om, capm, hve, hbm, hcm⟩ := HF2.out.at (by have := HM2.out; omega)
                  rw [← HM2.out] at hve
                  cases hve
                  obtain ⟨u1, u2, u3⟩ := hcm k g hg
                  have hkI : (k : Int) < (M2 : Int) := by omega
                  have HNX := Lib.hid (any_next (f := f) hg)
                  have HBB := Lib.hid hb
                  have HSF : Hid (sameF g f = decide (g = f)) := Lib.hid (by unfold sameF; rfl)
                  clear hcm hg hb
                  cases b
                  all_goals
                    go_wp2
                    go_big_quiet (fail)
                    go_wp2
                    go_roundw
                    case rel =>
                      first
                      | exact ⟨k + 1, _, _, by go_num, rfl, by omega, by rw [HNX.out, HSF.out]; exact bor_next HBB.out, rfl⟩
                      | exact ⟨k + 1, _, _, by go_num, rfl, by omega, by rw [HNX.out]; first | exact bor_keep' HBB.out | exact bor_keep HBB.out, rfl⟩
                      | exact ⟨_, _, _, _, _, _, _, _, _, _, _, _, _, _, _, _, _, _, _, _, ⟨k + 1, true, _, by go_num, rfl, by omega, by rw [HNX.out]; first | exact bor_keep' HBB.out | exact bor_keep HBB.out, rfl⟩, rfl⟩
                    case measure => simp [intOf]; omega
                · have hex : ¬ (k : Int) < (M2 : Int) := by omega
                  have hbt : b = true := hb.2 (by
                    cases htt : Disk.touched k4 y f
                    · exact Or.inr (any_all (by have := HM2.out; omega) (HIN.out htt))
                    · exact Or.inl rfl)
                  subst hbt
                  clear hb
                  go_wp2
                  go_roundw
                  case rel => exact ⟨j + 1, _, by go_num, by omega, rfl⟩
                  case measure => simp [intOf]; omega
          · have hex : ¬ (j : Int) < (M1 : Int) := by omega
            go_wp2
            go_loopw [15] (fun q wr => ∃ (j m : Nat), q = .int .i64 j ∧ j ≤ M2 ∧ wr = w6.drewN m) (fun q _ => M2 - (intOf q).toNat)
            case atStart => exact ⟨0, m, rfl, by omega, rfl⟩
            case round =>
              obtain ⟨j, m, rfl, hj, rfl⟩ := hrel
              by_cases hjM : j < M2
              · obtain ⟨f, hf⟩ : ∃ f, (fls s2.l)[j]? = some f := ⟨_, List.getElem?_eq_getElem (by have := HM2.out; omega)⟩
                obtain ⟨bk, o, cap, hve, hbB, hbc⟩ := HF2.out.at (by have := HM2.out; omega)
                rw [← HM2.out] at hve
                cases hve
                obtain ⟨e1, e2, e3⟩ := hbc j f hf
                have hjI : (j : Int) < (M2 : Int) := by omega
                have HIN := Lib.hid (HC2.out f (List.mem_of_getElem? hf))
                clear hbc hf
                rcases touch_cases k4 y f with (⟨r1, rt⟩ | ⟨r1, r2, rt⟩) | (⟨r1, r2, r3, rt⟩ | ⟨r1, r2, r3, rt⟩)
                all_goals
                  have HTB := Lib.hid rt
                  clear rt
                  go_wp2
                  go_big_quiet (fail)
                  go_wp2
                  clear r1
                  try clear r2
                  try clear r3
                  go_loopw [16, 17] (fun q p wr => ∃ (k : Nat) (b : Bool) (m : Nat), p = .int .i64 k ∧ q = .bool b ∧ k ≤ M1 ∧ (b = true ↔ (Disk.touched k4 y f = true ∨ (((fls s.l).take k).any fun g => decide (g = f)) = true)) ∧ wr = w6.drewN m) (fun _ p _ => M1 - (intOf p).toNat)
                  case atStart => exact ⟨0, _, _, rfl, rfl, by omega, by simp [HTB.out], drewN_add _ _ _⟩
                  case round =>
                    obtain ⟨k, b, m', rfl, rfl, hk, hb, rfl⟩ := hrel
                    by_cases hkM : k < M1
                    · obtain ⟨g, hg⟩ : ∃ g, (fls s.l)[k]? = some g := ⟨_, List.getElem?_eq_getElem (by have := HM1.out; omega)⟩
                      obtain ⟨bm, om, capm, hve, hbm, hcm⟩ := HF1.out.at (by have := HM1.out; omega)
                      rw [← HM1.out] at hve
                      cases hve
                      obtain ⟨u1, u2, u3⟩ := hcm k g hg
                      have hkI : (k : Int) < (M1 : Int) := by omega
                      have HNX := Lib.hid (any_next (f := f) hg)
                      have HBB := Lib.hid hb
                      have HSF : Hid (sameF f g = decide (g = f)) := Lib.hid (by unfold sameF; exact decide_eq_decide.2 ⟨Eq.symm, Eq.symm⟩)
                      clear hcm hg hb
                      cases b
                      all_goals
                        go_wp2
                        go_big_quiet (fail)
                        go_wp2
                        go_roundw
                        case rel =>
                          first
                          | exact ⟨k + 1, _, _, by go_num, rfl, by omega, by rw [HNX.out, HSF.out]; exact bor_next HBB.out, rfl⟩
                          | exact ⟨k + 1, _, _, by go_num, rfl, by omega, by rw [HNX.out]; first | exact bor_keep' HBB.out | exact bor_keep HBB.out, rfl⟩
                          | exact ⟨_, _, _, _, _, _, _, _, _, _, _, _, _, _, _, _, _, _, _, _, ⟨k + 1, true, _, by go_num, rfl, by omega, by rw [HNX.out]; first | exact bor_keep' HBB.out | exact bor_keep HBB.out, rfl⟩, rfl⟩
                        case measure => simp [intOf]; omega
                    · have hex : ¬ (k : Int) < (M1 : Int) := by omega
                      have hbt : b = true := hb.2 (by
                        cases htt : Disk.touched k4 y f
                        · exact Or.inr (any_all (by have := HM1.out; omega) (HIN.out htt))
                        · exact Or.inl rfl)
                      subst hbt
                      clear hb
                      go_wp2
                      go_roundw
                      case rel => exact ⟨j + 1, _, by go_num, by omega, rfl⟩
                      case measure => simp [intOf]; omega
              · have hex : ¬ (j : Int) < (M2 : Int) := by omega
                have HB7 := Lib.hid (bdrew HB6.out m)
                have HT7 := Lib.hid (HT6.out.below (bdrew (Below.refl _ _) m))
                obtain ⟨w7, hw7⟩ : ∃ x, x = w6.drewN m := ⟨_, rfl⟩
                rw [← hw7] at HB7 HT7 ⊢
                clear hw7
                have HRW7 := Lib.hid (HT7.out.raws (by omega))
                have hw8 : IntKind.i64.wrap ((N : Int) + 1) = (N : Int) + 1 := IntWalk.i64_in _ (by omega)
                have hq8 : ((N2 : Int) == (N : Int) + 1) = true := beq_iff_eq.2 (by have := HNe.out; omega)
                go_wp2_with fail
                refine HRW7.out.mono ?_
                rintro e w8 ⟨v8, rfl, hr8, hb8⟩
                obtain ⟨a8, c8, rfl⟩ := own_form hr8
                rw [← HN2.out]
                have HB8 := Lib.hid (HB7.out.trans (hb8.mono HB7.out.size))
                clear hr8 hb8
                go_wp2_with fail
                refine (HLV0.out _ HB8.out).mono ?_
                rintro e w9 ⟨rfl, hb9⟩
                have HB9 := Lib.hid (HB8.out.trans (hb9.mono HB8.out.size))
                go_wp2
                go_returns
                exact ⟨rfl, HB9.out⟩
end Go.Proofs.YtnfklomokjhojaaGreatDoor
