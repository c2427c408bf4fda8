/- DiskCut's walk. -/
import Derived.Test.YtnfklomokjhojaaDoorDiskC1
namespace Go.Proofs.YtnfklomokjhojaaDoor
open Go.RowKit Go.Maps
set_option linter.unusedSimpArgs false
set_option linter.unusedVariables false
theorem Two.left {w : World} {B : Nat} {Z : Nat → Prop} {sa sb n : Nat} {a b : Disk.S} (h : Two w B Z sa sb n a b) : w.cell? ⟨sa, 2, none⟩ = some (.int .i64 a.left) := by
  obtain ⟨OA, OB, h1, h2, h3, h4⟩ := h
  exact h1.form
theorem Two.rawsLe {w : World} {B : Nat} {Z : Nat → Prop} {sa sb n : Nat} {a b : Disk.S} (h : Two w B Z sa sb n a b) : a.raws.length ≤ n := by
  obtain ⟨OA, OB, ⟨bm, m, rv, hm, h1⟩, h2, h3, h4⟩ := h
  exact hm.2.1
theorem Two.raws {w : World} {B : Nat} {Z : Nat → Prop} {sa sb n : Nat} {a b : Disk.S} (h : Two w B Z sa sb n a b) (hn : n ≤ 1099511627776) :
    Calls Tryd.prog 16 #[.pointer (some ⟨sa, 0, none⟩)] w fun e w' => ∃ v, e = .returned v ∧ RwRow w' w.heap.size v a.raws ∧ Below w.heap.size w w' := by
  obtain ⟨OA, OB, ⟨bm, m, rv, hm, h1⟩, h2, h3, h4⟩ := h
  exact told_raws h1 (by have := hm.2.1; omega)
theorem Two.all {w : World} {B : Nat} {Z : Nat → Prop} {sa sb n : Nat} {a b : Disk.S} (h : Two w B Z sa sb n a b) (hn : a.l.length ≤ 1099511627776) :
    Calls Tryd.prog 19 #[.pointer (some ⟨sa, 0, none⟩)] w fun e w' => ∃ v, e = .returned v ∧ FRow w' w.heap.size v (fls a.l) ∧ Below w.heap.size w w' := by
  obtain ⟨OA, OB, ⟨bm, m, rv, hm, h1⟩, h2, h3, h4⟩ := h
  exact all_any h1.d.c0 h1.d.things hn
theorem ask_len (s : Disk.S) (k : Int) (x : Disk.Dq) : (s.asked k x).2.l.length ≤ s.l.length + 1 := by
  have hd : ∀ (c : Int × Disk.M) (r : Disk.Rw), c.2.length ≤ s.l.length + 1 → (s.ask c r).2.l.length ≤ s.l.length + 1 := fun c r hc => by
    unfold Disk.S.ask
    split
    · exact Nat.le_succ _
    · split
      · exact hc
      · exact Nat.le_succ _
  have h1 := fun p (t : Disk.T) => SM.length_put_le s.l p t
  have h2 := fun p => SM.length_del_le s.l p
  unfold Disk.S.asked
  refine hd _ _ ?_
  unfold Disk.coreOf
  split
  · unfold Disk.mkdirC
    repeat' split
    all_goals first | exact Nat.le_succ _ | exact h1 _ _
  split
  · unfold Disk.writeC
    repeat' split
    all_goals first | exact Nat.le_succ _ | exact h1 _ _
  split
  · unfold Disk.renameC
    repeat' split
    all_goals first | exact Nat.le_succ _ | (refine Nat.le_trans (SM.length_put_le _ _ _) ?_; have := h2 x.path; omega)
  · unfold Disk.removeC
    repeat' split
    all_goals first | exact Nat.le_succ _ | (exact Nat.le_trans (h2 _) (Nat.le_succ _))
set_option maxHeartbeats 8000000 in
set_option maxRecDepth 100000 in
theorem disk_cut_law {w : World} {v : Value} {ds : List Disk.Dq} (h : Dqs w w.heap.size v ds) (hE : Env w) (hn : ds.length ≤ 1048576) (hsz : ∀ x ∈ ds, (x.path.length ≤ 1048576 ∧ x.to.length ≤ 1048576) ∧ x.Fits) (n : Int) (hfit : -9223372036854775808 ≤ n ∧ n ≤ 9223372036854775807) :
    Calls Tryd.prog 6 #[v, .int .i64 n] w fun e w' => e = .returned (.bool true) ∧ Below w.heap.size w w' := by
  obtain ⟨a1, c1, rfl⟩ := h.form
  obtain ⟨L, hL⟩ : ∃ N, N = ds.length := ⟨_, rfl⟩
  have HH := Lib.hid h
  have HSZ := Lib.hid hsz
  have HE := Lib.hid (fun (W : World) (hb : Below w.heap.size w W) => hE.below hb (Nat.le_refl _))
  have HLV := Lib.hid (fun (W : World) (hb : Below w.heap.size w W) => lives01_any W (hE.below hb (Nat.le_refl _)))
  rw [← hL] at hn ⊢
  have HL := Lib.hid hL
  clear h hsz hL hE
  have HPK := Lib.hid (fun W => pick01_any n 40 hfit (by decide) (by decide) W)
  have hN := pickI_range n 40 (by decide)
  obtain ⟨N, hNN⟩ : ∃ N, N = Disk.pickI n 40 := ⟨_, rfl⟩
  rw [← hNN] at HPK hN
  clear hNN hfit
  go_enter Tryd.func6, Tryd.ntmps6
  go_wp2_with fail
  refine (newD_any w w.heap.size (Nat.le_refl _)).mono ?_
  rintro e w1 ⟨sa, O1, rfl, hd1, hO1, hb1⟩
  have HD1 := Lib.hid hd1
  have HB1 := Lib.hid hb1
  clear hd1 hb1
  go_wp2_with fail
  refine (newD_any w1 w.heap.size HB1.out.size).mono ?_
  rintro e w2 ⟨sb, O2, rfl, hd2, hO2, hb2⟩
  have HT2 := Lib.hid (Two.made HD1.out hb2 hd2 hO2)
  have HB2 := Lib.hid (HB1.out.trans (hb2.mono HB1.out.size))
  clear hd2 hO1 hO2 hb2
  go_wp2_with fail
  refine (HPK.out _).mono ?_
  rintro e w3 ⟨rfl, rfl⟩
  have HCU : Hid (newS.cut N = (0, ⟨[], [], N⟩)) := Lib.hid (by
    unfold Disk.S.cut
    rw [if_neg (by decide), if_neg (by omega)]
    rfl)
  have HCT := Lib.hid (HT2.out.act (Nat.le_refl _) (fun O hO => cut_any hO N (by omega)))
  rw [HCU.out] at HCT
  go_wp2_with fail
  refine HCT.out.mono ?_
  rintro e w4 ⟨rfl, ht4, hb4, _⟩
  have HT4 := Lib.hid ht4
  have HB4 := Lib.hid (HB2.out.trans hb4)
  have HP4 : Hid (Disk.Pair N ⟨[], [], N⟩ newS) := Lib.hid ⟨rfl, rfl, rfl, by show N + ((0 : Nat) : Int) = N; omega, hN.1⟩
  clear ht4 hb4
  go_wp2
  go_loopw [7] (fun q wr => ∃ (i : Nat) (a b : Disk.S), q = .int .i64 i ∧ i ≤ L ∧ Two wr w.heap.size (fun _ => False) sa sb (2 * i) a b ∧ Disk.Pair N a b ∧ a.l.length ≤ i ∧ Below w.heap.size w wr) (fun q _ => L - (intOf q).toNat)
  case atStart => exact ⟨0, _, _, rfl, by omega, HT4.out, HP4.out, by simp, HB4.out⟩
  case round =>
    obtain ⟨i, a, b, rfl, hi, ht, hp, hal, hBr⟩ := hrel
    obtain ⟨wo, rfl⟩ : ∃ x, x = wr := ⟨wr, rfl⟩
    have HT := Lib.hid ht
    have HP := Lib.hid hp
    have HAL := Lib.hid hal
    have HBR := Lib.hid hBr
    have hzr := hBr.size
    clear ht hp hal hBr
    by_cases hiL : i < L
    · obtain ⟨x, hx⟩ : ∃ x, ds[i]? = some x := ⟨_, List.getElem?_eq_getElem (by have := HL.out; omega)⟩
      obtain ⟨bk, o, cap, hve, hbB, hbc⟩ := HH.out.at (by have := HL.out; omega)
      rw [← HL.out] at hve
      cases hve
      obtain ⟨e1, e2, e3, e4, e5⟩ := hbc i x hx
      rw [← HBR.out.cell (p := ⟨bk, o + i * 5, none⟩) hbB] at e1
      rw [← HBR.out.cell (p := ⟨bk, o + i * 5 + 1, none⟩) hbB] at e2
      rw [← HBR.out.cell (p := ⟨bk, o + i * 5 + 2, none⟩) hbB] at e3
      rw [← HBR.out.cell (p := ⟨bk, o + i * 5 + 3, none⟩) hbB] at e4
      rw [← HBR.out.cell (p := ⟨bk, o + i * 5 + 4, none⟩) hbB] at e5
      have hxs := HSZ.out x (List.mem_of_getElem? hx)
      have HPI := Lib.hid (fun W => pick01_any x.kind 4 hxs.2.1 (by decide) (by decide) W)
      have HX := Lib.hid hxs
      obtain ⟨k, hk⟩ : ∃ k, k = Disk.pickI x.kind 4 := ⟨_, rfl⟩
      rw [← hk] at HPI
      have hiI : (i : Int) < (L : Int) := by omega
      clear hbc hx hk hxs
      obtain ⟨W1, hW1⟩ : ∃ W, W = wo.alloc (.cells #[.int .i64 x.kind, .string (bs x.path), .string (bs x.to), .string (bs x.data), .int .i64 x.n] 41) := ⟨_, rfl⟩
      have f0 : W1.cell? ⟨wo.heap.size, 0, none⟩ = some (.int .i64 x.kind) := by rw [hW1]; simp
      have f1 : W1.cell? ⟨wo.heap.size, 1, none⟩ = some (.string (bs x.path)) := by rw [hW1]; simp
      have f2 : W1.cell? ⟨wo.heap.size, 2, none⟩ = some (.string (bs x.to)) := by rw [hW1]; simp
      have f3 : W1.cell? ⟨wo.heap.size, 3, none⟩ = some (.string (bs x.data)) := by rw [hW1]; simp
      have f4 : W1.cell? ⟨wo.heap.size, 4, none⟩ = some (.int .i64 x.n) := by rw [hW1]; simp
      have ff : W1.frozen? ⟨wo.heap.size, 0, none⟩ = false := by rw [hW1]; simp
      have fs : W1.heap.size = wo.heap.size + 1 := by rw [hW1]; simp
      have hBW1 : Below wo.heap.size wo W1 := by rw [hW1]; exact (Below.refl _ _).alloc (Nat.le_refl _) _
      obtain ⟨W2, hW2⟩ : ∃ W, W = W1.setCell ⟨wo.heap.size, 0, none⟩ (.int .i64 k) := ⟨_, rfl⟩
      have g0 : W2.cell? ⟨wo.heap.size, 0, none⟩ = some (.int .i64 k) := by rw [hW2]; exact World.cell?_setCell_same' _ _ _ (by rw [f0]; rfl)
      have g1 : W2.cell? ⟨wo.heap.size, 1, none⟩ = some (.string (bs x.path)) := by rw [hW2, World.cell?_setCell_other _ _ _ _ (by simp)]; exact f1
      have g2 : W2.cell? ⟨wo.heap.size, 2, none⟩ = some (.string (bs x.to)) := by rw [hW2, World.cell?_setCell_other _ _ _ _ (by simp)]; exact f2
      have g3 : W2.cell? ⟨wo.heap.size, 3, none⟩ = some (.string (bs x.data)) := by rw [hW2, World.cell?_setCell_other _ _ _ _ (by simp)]; exact f3
      have g4 : W2.cell? ⟨wo.heap.size, 4, none⟩ = some (.int .i64 x.n) := by rw [hW2, World.cell?_setCell_other _ _ _ _ (by simp)]; exact f4
      have gs : W2.heap.size = wo.heap.size + 1 := by rw [hW2]; simpa [World.setCell] using fs
      have hBW2 : Below wo.heap.size wo W2 := by
        rw [hW2]
        exact hBW1.grown (setCell_grows _ _ _) (by omega) (fun j hj => by cases hj; exact Nat.le_refl _)
      have HTW := Lib.hid (HT.out.fresh hBW2)
      have HBW := Lib.hid (HBR.out.trans (hBW2.mono hzr))
      have HASK := Lib.hid (HTW.out.act (Nat.le_succ (2 * i)) (fun O hO => asked_any hO (HE.out _ HBW.out) (by omega) k x (by have := HX.out; omega) (by have := HX.out; omega)))
      clear hBW1 hBW2
      go_wp2_with fail
      rw [← hW1]
      refine (HPI.out _).mono ?_
      rintro e w5 ⟨rfl, rfl⟩
      clear hW1
      go_wp2_with fail
      rw [← hW2]
      refine HASK.out.mono ?_
      rintro e w6 ⟨rfl, ht6, hb6, hz6⟩
      have hblk := hz6 wo.heap.size (by omega)
      have k0 := (World.cell?_of_block (a := ⟨wo.heap.size, 0, none⟩) hblk).trans g0
      have k1 := (World.cell?_of_block (a := ⟨wo.heap.size, 1, none⟩) hblk).trans g1
      have k2 := (World.cell?_of_block (a := ⟨wo.heap.size, 2, none⟩) hblk).trans g2
      have k3 := (World.cell?_of_block (a := ⟨wo.heap.size, 3, none⟩) hblk).trans g3
      have k4 := (World.cell?_of_block (a := ⟨wo.heap.size, 4, none⟩) hblk).trans g4
      have HT6 := Lib.hid ht6
      have HB6 := Lib.hid (HBW.out.trans hb6)
      have hb6s : wo.heap.size + 1 ≤ w6.heap.size := by have := hb6.size; omega
      clear hW2 f0 f1 f2 f3 f4 ff fs g0 g1 g2 g3 g4 ht6 hb6 hz6 hblk e1 e2 e3 e4 e5
      have HRW := Lib.hid (HT6.out.swap.raws (by omega))
      have hblen := HT6.out.swap.rawsLe
      have hdown := Disk.pair_down HP.out
      by_cases hdn : a.left = 0
      · have q1 : ((b.raws.length : Int) == N) = true := beq_iff_eq.2 (hdown.1 hdn)
        have had1 : (a.asked k x).1 = 15 := by rw [Disk.asked_down hdn k x]
        have had2 : (a.asked k x).2 = a := by rw [Disk.asked_down hdn k x]
        rw [had1]
        rw [had2] at HT6
        clear had1 had2
        clear hdown
        have HA0 := Lib.hid hdn
        clear hdn
        go_wp2_with fail
        refine HRW.out.mono ?_
        rintro e w7 ⟨v7, rfl, hr7, hb7⟩
        obtain ⟨a7, c7, rfl⟩ := own_form hr7
        have HT7 := Lib.hid (HT6.out.below hb7)
        have HB7 := Lib.hid (HB6.out.trans (hb7.mono HB6.out.size))
        have HDN := Lib.hid (down_any HT7.out.left)
        rw [decide_eq_true HA0.out] at HDN
        clear hr7 hb7
        go_wp2_with fail
        refine HDN.out.mono ?_
        rintro e w8 ⟨rfl, rfl⟩
        go_wp2
        go_roundw
        case rel => exact ⟨i + 1, a, b, by go_num, by omega, by
          obtain ⟨OA, OB, z1, z2, z3, z4⟩ := HT7.out.more (show 2 * i + 1 ≤ 2 * (i + 1) by omega)
          exact ⟨OA, OB, z1, z2, z3, fun k hk => hk.elim⟩, HP.out, by have := HAL.out; omega, HB7.out⟩
        case measure => simp [intOf]; omega
      · have q1 : ((b.raws.length : Int) == N) = false := beq_eq_false_iff_ne.2 (fun e => hdn (hdown.2 e))
        have HPA := Lib.hid (Disk.pair_ask HP.out hdn k x)
        have HLA := Lib.hid (ask_len a k x)
        obtain ⟨ea, hea⟩ : ∃ e, e = (a.asked k x).1 := ⟨_, rfl⟩
        obtain ⟨na, hna⟩ : ∃ e, e = (a.asked k x).2 := ⟨_, rfl⟩
        have HEB : Hid ((b.asked k x).1 = ea) := Lib.hid (by rw [hea]; exact HPA.out.1.symm)
        have HPB : Hid (Disk.Pair N na (b.asked k x).2) := Lib.hid (by rw [hna]; exact HPA.out.2)
        rw [← hna] at HT6 HLA
        rw [← hea]
        clear hdown hdn hea hna HPA
        go_wp2_with fail
        refine HRW.out.mono ?_
        rintro e w7 ⟨v7, rfl, hr7, hb7⟩
        obtain ⟨a7, c7, rfl⟩ := own_form hr7
        have m0 := (hb7.cell (p := ⟨wo.heap.size, 0, none⟩) (by show wo.heap.size < _; omega)).trans k0
        have m1 := (hb7.cell (p := ⟨wo.heap.size, 1, none⟩) (by show wo.heap.size < _; omega)).trans k1
        have m2 := (hb7.cell (p := ⟨wo.heap.size, 2, none⟩) (by show wo.heap.size < _; omega)).trans k2
        have m3 := (hb7.cell (p := ⟨wo.heap.size, 3, none⟩) (by show wo.heap.size < _; omega)).trans k3
        have m4 := (hb7.cell (p := ⟨wo.heap.size, 4, none⟩) (by show wo.heap.size < _; omega)).trans k4
        have HT7 := Lib.hid (HT6.out.below hb7)
        have HB7 := Lib.hid (HB6.out.trans (hb7.mono HB6.out.size))
        have HASK2 := Lib.hid (HT7.out.swap.act (Nat.le_succ (2 * i + 1)) (fun O hO => asked_any hO (HE.out _ HB7.out) (by omega) k x (by have := HX.out; omega) (by have := HX.out; omega)))
        rw [HEB.out] at HASK2
        clear hr7 hb7 k0 k1 k2 k3 k4
        go_wp2_with fail
        refine HASK2.out.mono ?_
        rintro e w8 ⟨rfl, ht8, hb8, _⟩
        have HT8 := Lib.hid ht8.swap
        have HB8 := Lib.hid (HB7.out.trans hb8)
        clear ht8 hb8
        go_wp2
        go_roundw
        case rel => exact ⟨i + 1, na, _, by go_num, by omega, by
          obtain ⟨OA, OB, z1, z2, z3, z4⟩ := HT8.out.more (show 2 * i + 1 + 1 ≤ 2 * (i + 1) by omega)
          exact ⟨OA, OB, z1, z2, z3, fun k hk => hk.elim⟩, HPB.out, by have := HAL.out; have := HLA.out; omega, HB8.out⟩
        case measure => simp [intOf]; omega
    · have hlA := HT.out.rawsLe
      have HR1 := Lib.hid (HT.out.all (by have := HAL.out; omega))
      have hee : ¬ (i : Int) < (L : Int) := by omega
      have hfl : (fls a.l).length ≤ 4398046511104 := by rw [fls_length]; have := HAL.out; omega
      have hrl : a.raws.length ≤ 4398046511104 := by omega
      have HFL := Lib.hid hfl
      have HRL := Lib.hid hrl
      clear hfl hrl hlA
      go_wp2_with fail
      refine HR1.out.mono ?_
      rintro e w1 ⟨v1, rfl, hr1, hb1⟩
      have HF1 := Lib.hid hr1.files
      have HT1 := Lib.hid (HT.out.below hb1)
      have HB1 := Lib.hid (HBR.out.trans (hb1.mono hzr))
      have HR2 := Lib.hid (HT1.out.swap.all (by rw [← HP.out.l]; have := HAL.out; omega))
      rw [← HP.out.l] at HR2
      clear hr1 hb1
      go_wp2_with fail
      refine HR2.out.mono ?_
      rintro e w2 ⟨v2, rfl, hr2, hb2⟩
      have HT2 := Lib.hid (HT1.out.below hb2)
      have HB2 := Lib.hid (HB1.out.trans (hb2.mono HB1.out.size))
      have HC2 := Lib.hid (files_any (HF1.out.below hb2 (Nat.le_refl _) |>.mono hb2.size) hr2.files HFL.out)
      clear hr2 hb2
      go_wp2_with fail
      refine HC2.out.mono ?_
      rintro e w3 ⟨rfl, m, rfl⟩
      have HT3 := Lib.hid (HT2.out.below (w' := w2.drewN m) (bdrew (Below.refl _ _) m))
      have HB3 := Lib.hid (bdrew HB2.out m)
      obtain ⟨w3, hw3⟩ : ∃ x, x = w2.drewN m := ⟨_, rfl⟩
      rw [← hw3] at HT3 HB3 ⊢
      clear hw3
      have HR3 := Lib.hid (HT3.out.raws (by omega))
      go_wp2_with fail
      refine HR3.out.mono ?_
      rintro e w4 ⟨v4, rfl, hr4, hb4⟩
      have HF4 := Lib.hid hr4.rws
      have HT4 := Lib.hid (HT3.out.below hb4)
      have HB4 := Lib.hid (HB3.out.trans (hb4.mono HB3.out.size))
      have HR4 := Lib.hid (HT4.out.swap.raws (by omega))
      rw [← HP.out.raws] at HR4
      clear hr4 hb4
      go_wp2_with fail
      refine HR4.out.mono ?_
      rintro e w5 ⟨v5, rfl, hr5, hb5⟩
      have HT5 := Lib.hid (HT4.out.below hb5)
      have HB5 := Lib.hid (HB4.out.trans (hb5.mono HB4.out.size))
      have HC5 := Lib.hid (raws_any (HF4.out.below hb5 (Nat.le_refl _) |>.mono hb5.size) hr5.rws HRL.out)
      clear hr5 hb5
      go_wp2_with fail
      refine HC5.out.mono ?_
      rintro e w6 ⟨rfl, m2, rfl⟩
      have HT6 := Lib.hid (HT5.out.below (w' := w5.drewN m2) (bdrew (Below.refl _ _) m2))
      have HB6 := Lib.hid (bdrew HB5.out m2)
      obtain ⟨w6, hw6⟩ : ∃ x, x = w5.drewN m2 := ⟨_, rfl⟩
      rw [← hw6] at HT6 HB6 ⊢
      clear hw6
      have hab : (⟨a.l, a.raws, -1⟩ : Disk.S) = b := by
        obtain ⟨bl, br, bf⟩ := b
        have h1 := HP.out.l
        have h2 := HP.out.raws
        have h3 := HP.out.left
        dsimp only at h1 h2 h3
        rw [h1, h2, h3]
      have HU := Lib.hid (HT6.out.act (Nat.le_refl _) (fun O hO => up_any hO))
      rw [hab] at HU
      have HLF := Lib.hid HP.out.left
      clear hab
      go_wp2_with fail
      refine HU.out.mono ?_
      rintro e w7 ⟨rfl, ht7, hb7, _⟩
      have HT7 := Lib.hid ht7
      have HB7 := Lib.hid (HB6.out.trans hb7)
      have HD7 := Lib.hid (down_any HT7.out.left)
      rw [HLF.out] at HD7
      clear ht7 hb7
      go_wp2_with fail
      refine HD7.out.mono ?_
      rintro e w8 ⟨rfl, rfl⟩
      have hm1 : decide ((-1 : Int) = 0) = false := rfl
      have HM8 := Lib.hid (HT7.out.act (Nat.le_succ _) (fun O hO => mkdir_any hO (HE.out _ HB7.out) (by omega) Disk.jour (by decide)))
      obtain ⟨eb, heb⟩ : ∃ e, e = (b.mkdir Disk.jour).1 := ⟨_, rfl⟩
      rw [← heb] at HM8
      have HEB := Lib.hid heb
      clear heb
      go_wp2_with fail
      refine HM8.out.mono ?_
      rintro e w9 ⟨rfl, ht9, hb9, _⟩
      have HT9 := Lib.hid ht9.swap
      have HB9 := Lib.hid (HB7.out.trans hb9)
      have HM9 := Lib.hid (HT9.out.act (Nat.le_succ _) (fun O hO => mkdir_any hO (HE.out _ HB9.out) (by omega) Disk.jour (by decide)))
      rw [← HEB.out] at HM9
      clear ht9 hb9
      go_wp2_with fail
      refine HM9.out.mono ?_
      rintro e w10 ⟨rfl, ht10, hb10, _⟩
      have HB10 := Lib.hid (HB9.out.trans hb10)
      clear ht10 hb10
      go_wp2_with fail
      refine (HLV.out _ HB10.out).mono ?_
      rintro e w11 ⟨rfl, hb11⟩
      have HB11 := Lib.hid (HB10.out.trans (hb11.mono HB10.out.size))
      go_wp2
      go_returns
      exact ⟨rfl, HB11.out⟩
end Go.Proofs.YtnfklomokjhojaaDoor
