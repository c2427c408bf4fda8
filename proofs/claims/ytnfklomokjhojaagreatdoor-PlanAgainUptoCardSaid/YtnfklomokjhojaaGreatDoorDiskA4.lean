/- A disk's raw writes: Rename: the walk. -/
import Derived.Test.YtnfklomokjhojaaGreatDoorDiskA3
namespace Go.Proofs.YtnfklomokjhojaaGreatDoor
open Go.RowKit Go.Maps
set_option linter.unusedSimpArgs false
set_option linter.unusedVariables false
set_option maxHeartbeats 8000000 in
set_option maxRecDepth 100000 in
theorem rename_any {w : World} {B : Nat} {O : Nat → Prop} {sd n : Nat} {s : Disk.S} (h : Dsk w B O sd n s) (hE : Env w) (hEB : w.heap.size ≥ B) (hn : n ≤ 1099511627776) (p q : List UInt8) (hp : p.length ≤ 4398046511104) (hq : q.length ≤ 4398046511104) :
    Calls Tryz.prog 50 #[.pointer (some ⟨sd, 0, none⟩), .string (bs p), .string (bs q)] w (AskPost w B O sd n (s.rename p q)) := by
  have H0 := Lib.hid h
  obtain ⟨bm, m, rv, ⟨hm, hr, hl, hok⟩, h⟩ := h
  have HOK := Lib.hid hok
  have H := Lib.hid h
  have HMAY := Lib.hid (may_any h.d.c2 hE p hp)
  have HMAY2 := Lib.hid (fun (W : World) (hb : Below w.heap.size w W) => may_any (h.below hb).d.c2 (hE.below hb (Nat.le_refl _)) q hq)
  have hbml := h.d.bml
  have hsdl := h.d.sdl
  have hps := bs_small hp
  have hqs := bs_small hq
  clear h hok hE
  have HNO : Hid (∀ w' k, Below w.heap.size w w' → s.rename p q = (k, s) → AskPost w B O sd n (s.rename p q) (.returned (.int .i64 k)) w') := Lib.hid (fun w' k h1 h2 => by
    rw [h2]
    exact ⟨rfl, (DskNow.of_below H0.out h1).more (Nat.le_succ _)⟩)
  have HC1 : Hid (s.rename p q = s.ask (Disk.renameC s.l p q) ⟨3, p, q⟩) := Lib.hid rfl
  have HCC0 : Hid (Disk.renameC s.l p q = if !Disk.pathOk p then (10, s.l) else if !Disk.pathOk q then (10, s.l) else if Disk.kind s.l p = 0 then (12, s.l) else if Disk.kind s.l p = 2 then (13, s.l) else
    if Disk.homeE s.l q ≠ 0 then (Disk.homeE s.l q, s.l) else if Disk.kind s.l q = 2 then (13, s.l) else (0, SM.put (SM.del s.l p) q ((SM.look s.l p).getD ⟨false, []⟩))) := Lib.hid rfl
  obtain ⟨c, hc⟩ : ∃ c, c = Disk.renameC s.l p q := ⟨_, rfl⟩
  rw [← hc] at HC1 HCC0
  have HOKC : Hid (∀ x ∈ c.2, Disk.pathOk x.1 = true) := Lib.hid (by rw [hc]; exact Disk.renameC_ok HOK.out p q)
  clear hc
  obtain ⟨R, hR⟩ : ∃ R, R = s.rename p q := ⟨_, rfl⟩
  rw [← hR] at HC1 HNO ⊢
  clear hR
  go_enter Tryz.func50, Tryz.ntmps50
  go_wp2_with fail
  refine HMAY.out.mono ?_
  rintro e w1 ⟨rfl, hb1⟩
  have HB1 := Lib.hid hb1
  clear hb1
  obtain ⟨k1, hk1⟩ : ∃ k, k = Disk.mayE s p := ⟨_, rfl⟩
  have HK1 := Lib.hid hk1
  rw [← hk1]
  clear hk1
  by_cases h1 : k1 = 0
  rotate_left 1
  · have q1 : (k1 != 0) = true := bne_iff_ne.2 h1
    have HF := Lib.hid (HNO.out _ k1 HB1.out (by
      rw [HC1.out, Disk.ask_may (p := p) (by rw [← HK1.out]; exact h1) (fun h => by rw [HCC0.out, h]; rfl), ← HK1.out]))
    clear h1
    go_wp2
    go_returns
    exact HF.out
  subst h1
  have hlp := Disk.may_ok HK1.out.symm
  have HLF := Lib.hid hlp.1
  have HCC1 : Hid (c = if !Disk.pathOk q then (10, s.l) else if Disk.kind s.l p = 0 then (12, s.l) else if Disk.kind s.l p = 2 then (13, s.l) else
    if Disk.homeE s.l q ≠ 0 then (Disk.homeE s.l q, s.l) else if Disk.kind s.l q = 2 then (13, s.l) else (0, SM.put (SM.del s.l p) q ((SM.look s.l p).getD ⟨false, []⟩))) := Lib.hid (by rw [HCC0.out, hlp.2]; rfl)
  clear hlp
  go_wp2_with fail
  refine (HMAY2.out _ HB1.out).mono ?_
  rintro e w2 ⟨rfl, hb2⟩
  have HB2 := Lib.hid (HB1.out.trans (hb2.mono HB1.out.size))
  clear hb2
  obtain ⟨k2, hk2⟩ : ∃ k, k = Disk.mayE s q := ⟨_, rfl⟩
  have HK2 := Lib.hid hk2
  rw [← hk2]
  clear hk2
  by_cases h1 : k2 = 0
  rotate_left 1
  · have q1 : (k2 != 0) = true := bne_iff_ne.2 h1
    have HF := Lib.hid (HNO.out _ k2 HB2.out (by
      rw [HC1.out, Disk.ask_may (p := q) (by rw [← HK2.out]; exact h1) (fun h => by rw [HCC1.out, h]; rfl), ← HK2.out]))
    clear h1
    go_wp2
    go_returns
    exact HF.out
  subst h1
  have hlp := Disk.may_ok HK2.out.symm
  have HCC2 : Hid (c = if Disk.kind s.l p = 0 then (12, s.l) else if Disk.kind s.l p = 2 then (13, s.l) else
    if Disk.homeE s.l q ≠ 0 then (Disk.homeE s.l q, s.l) else if Disk.kind s.l q = 2 then (13, s.l) else (0, SM.put (SM.del s.l p) q ((SM.look s.l p).getD ⟨false, []⟩))) := Lib.hid (by rw [HCC1.out, hlp.2]; rfl)
  clear hlp
  have H2 := Lib.hid (H.out.below HB2.out)
  have HKIND := Lib.hid (kind_any H2.out.d.c0 H2.out.d.things (bs p) hps)
  rw [bs_list] at HKIND
  have HNC : Hid (∀ w' k, Below w.heap.size w w' → c = (k, s.l) → k ≠ 0 → AskPost w B O sd n R (.returned (.int .i64 k)) w') := Lib.hid (fun w' k h1 h2 h3 => HNO.out _ k h1 (by
    rw [HC1.out, Disk.ask_no HLF.out (by rw [h2]; exact h3), h2]))
  go_wp2_with fail
  refine HKIND.out.mono ?_
  rintro e w3 ⟨rfl, hb3⟩
  have HB3 := Lib.hid (HB2.out.trans (hb3.mono HB2.out.size))
  clear hb3
  obtain ⟨k3, hk3⟩ : ∃ k, k = Disk.kind s.l p := ⟨_, rfl⟩
  rw [← hk3] at HCC2 ⊢
  clear hk3
  by_cases h1 : k3 = 0
  · have HF := Lib.hid (HNC.out _ 12 HB3.out (by rw [HCC2.out, if_pos h1]) (by decide))
    have q1 : (k3 == 0) = true := beq_iff_eq.2 h1
    clear h1
    go_wp2
    go_returns
    exact HF.out
  by_cases h2 : k3 = 2
  · have HF := Lib.hid (HNC.out _ 13 HB3.out (by rw [HCC2.out, if_neg h1, if_pos h2]) (by decide))
    have q1 : (k3 == 0) = false := beq_eq_false_iff_ne.2 h1
    have q2 : (k3 == 2) = true := beq_iff_eq.2 h2
    clear h1 h2
    go_wp2
    go_returns
    exact HF.out
  have HCC3 : Hid (c = if Disk.homeE s.l q ≠ 0 then (Disk.homeE s.l q, s.l) else if Disk.kind s.l q = 2 then (13, s.l) else (0, SM.put (SM.del s.l p) q ((SM.look s.l p).getD ⟨false, []⟩))) := Lib.hid (by rw [HCC2.out, if_neg h1, if_neg h2])
  have q1 : (k3 == 0) = false := beq_eq_false_iff_ne.2 h1
  have q2 : (k3 == 2) = false := beq_eq_false_iff_ne.2 h2
  clear h1 h2
  have H3 := Lib.hid (H.out.below HB3.out)
  have HHOME := Lib.hid (home_any H3.out.d.c0 H3.out.d.things q hq)
  go_wp2_with fail
  refine HHOME.out.mono ?_
  rintro e w4 ⟨rfl, hb4⟩
  have HB4 := Lib.hid (HB3.out.trans (hb4.mono HB3.out.size))
  clear hb4 q1 q2
  obtain ⟨k4, hk4⟩ : ∃ k, k = Disk.homeE s.l q := ⟨_, rfl⟩
  rw [← hk4] at HCC3 ⊢
  clear hk4
  by_cases h1 : k4 = 0
  rotate_left 1
  · have HF := Lib.hid (HNC.out _ k4 HB4.out (by rw [HCC3.out, if_pos h1]) h1)
    have q1 : (k4 != 0) = true := bne_iff_ne.2 h1
    clear h1
    go_wp2
    go_returns
    exact HF.out
  subst h1
  have HCC4 : Hid (c = if Disk.kind s.l q = 2 then (13, s.l) else (0, SM.put (SM.del s.l p) q ((SM.look s.l p).getD ⟨false, []⟩))) := Lib.hid (by rw [HCC3.out, if_neg (by simp)])
  have H4 := Lib.hid (H.out.below HB4.out)
  have HKIND2 := Lib.hid (kind_any H4.out.d.c0 H4.out.d.things (bs q) hqs)
  rw [bs_list] at HKIND2
  go_wp2_with fail
  refine HKIND2.out.mono ?_
  rintro e w5 ⟨rfl, hb5⟩
  have HB5 := Lib.hid (HB4.out.trans (hb5.mono HB4.out.size))
  clear hb5
  obtain ⟨k5, hk5⟩ : ∃ k, k = Disk.kind s.l q := ⟨_, rfl⟩
  rw [← hk5] at HCC4 ⊢
  clear hk5
  by_cases h1 : k5 = 2
  · have HF := Lib.hid (HNC.out _ 13 HB5.out (by rw [HCC4.out, if_pos h1]) (by decide))
    have q1 : (k5 == 2) = true := beq_iff_eq.2 h1
    clear h1
    go_wp2
    go_returns
    exact HF.out
  have q1 : (k5 == 2) = false := beq_eq_false_iff_ne.2 h1
  obtain ⟨z, hz⟩ : ∃ z, z = (SM.look s.l p).getD zeroT := ⟨_, rfl⟩
  have HCC5 : Hid (c = (0, SM.put (SM.del s.l p) q z)) := Lib.hid (by rw [HCC4.out, if_neg h1, hz]; rfl)
  have HV : Hid (elT.val ((SM.look s.l (bs p).data.toList).getD zeroT) = .agg #[.bool z.dir, .string (bs z.data)]) := Lib.hid (by rw [bs_list, ← hz]; rfl)
  have HF := Lib.hid (Disk.ask_yes (c := c) (r := ⟨3, p, q⟩) HLF.out (by rw [HCC5.out]))
  clear h1 hz
  have H5 := Lib.hid (H.out.below HB5.out)
  obtain ⟨w5, rfl⟩ : ∃ x, x = w5 := ⟨w5, rfl⟩
  have d0 := H5.out.d.c0
  have hsd5 := H5.out.d.sdl
  have hbm5 := H5.out.d.bml
  obtain ⟨W2, hW2⟩ : ∃ x, x = w5.alloc (.cells #[.bool z.dir, .string (bs z.data)] 74) := ⟨_, rfl⟩
  have hB2 : Below w5.heap.size w5 W2 := by rw [hW2]; exact (Below.refl _ _).alloc (Nat.le_refl _) _
  have g1 : W2.cell? ⟨w5.heap.size, 0, none⟩ = some (.bool z.dir) := by rw [hW2]; simp
  have g2 : W2.cell? ⟨w5.heap.size, 1, none⟩ = some (.string (bs z.data)) := by rw [hW2]; simp
  have gs : W2.heap.size = w5.heap.size + 1 := by rw [hW2]; simp
  have HW2 := Lib.hid hB2
  have H6 := Lib.hid (H5.out.below hB2)
  have e0 := H6.out.d.c0
  rw [hW2] at e0
  clear hB2
  go_wp2_with (first | (at_lookup; refine wpList_look elT rfl _ _ 68 rfl 74 Tryz.underlying9 Tryz.underlying68 zeroT (zT _) rfl H5.out.d.things (bs p) hps rfl _ HV.out ?_) | (at_delete; rw [← hW2]; refine wpList_del elT rfl _ _ 68 rfl 74 Tryz.underlying9 Tryz.underlying68 rfl H6.out.d.things (bs p) hps rfl ?_; intro w6 hm6 hg6; rw [bs_list] at hm6; have HP6 := Lib.hid (H6.out.put hg6 hm6); have e6 := HP6.out.d.c0; have HG6 := Lib.hid hg6; have k1 := (World.cell?_of_block (a := ⟨w5.heap.size, 0, none⟩) (hg6.block w5.heap.size (by omega) (fun e => by have := Option.some.inj e; omega))).trans g1; have k2 := (World.cell?_of_block (a := ⟨w5.heap.size, 1, none⟩) (hg6.block w5.heap.size (by omega) (fun e => by have := Option.some.inj e; omega))).trans g2; clear hm6 hg6 hW2 e0 d0))
  refine still_tail 6 (by kernel_rfl) (by kernel_rfl) (fun w7 hw7 => ?_)
  have HP7 : Hid (DskAt w7 B O sd bm m rv ⟨SM.del s.l p, s.raws, s.left⟩) := Lib.hid (by rw [hw7]; exact HP6.out.below (Below.refl _ _).drew)
  have HB67 : Hid (Below w6.heap.size w6 w7) := Lib.hid (by rw [hw7]; exact (Below.refl _ _).drew)
  have d7 := HP7.out.d.c0
  rw [show w6.cell? ⟨w5.heap.size, 0, none⟩ = w7.cell? ⟨w5.heap.size, 0, none⟩ by rw [hw7]; rfl] at k1
  rw [show w6.cell? ⟨w5.heap.size, 1, none⟩ = w7.cell? ⟨w5.heap.size, 1, none⟩ by rw [hw7]; rfl] at k2
  clear hw7 e6
  simp only [List.take_succ_cons, List.take_zero, List.drop_succ_cons, List.drop_zero]
  iterate 6 still_step
  refine wpStill_nil ?_
  go_wp2_with (first | (at_mapUpdate; refine wpList_put elT rfl _ _ _ 68 rfl 74 Tryz.underlying9 Tryz.underlying68 rfl HP7.out.d.things (by unfold maxLen; omega) (bs q) hqs rfl (⟨z.dir, z.data⟩ : Disk.T) _ rfl rfl ?_; intro w8 hm8 hg8; rw [bs_list] at hm8))
  have HP8 := Lib.hid (HP7.out.put hg8 hm8)
  have HK8 : Hid (Keeps O w w8) := Lib.hid (by
    have k0 : Keeps O w W2 := Keeps.of_below (HB5.out.trans (HW2.out.mono HB5.out.size))
    have k1 := k0.then_grown HG6.out (fun k e => Or.inl (by rw [← Option.some.inj e]; exact H.out.ob))
    have k2 := k1.then_below HB67.out
    exact k2.then_grown hg8 (fun k e => Or.inl (by rw [← Option.some.inj e]; exact H.out.ob)))
  have HDONE := Lib.hid (done_any HP8.out (by show s.raws.length ≤ _; omega) hl 3 p q)
  clear hg8 hm8 k1 k2 g1 g2
  go_wp2_with fail
  refine HDONE.out.mono ?_
  rintro e w9 ⟨rfl, hd9⟩
  have HD9 := Lib.hid hd9
  clear hd9
  go_wp2
  go_returns
  have HR : R = (0, s.did (SM.put (SM.del s.l p) q ⟨z.dir, z.data⟩) ⟨3, p, q⟩) := by rw [HC1.out, HF.out, HCC5.out]
  refine ⟨by rw [HR] <;> rfl, ?_⟩
  rw [HR]
  exact DskNow.done HK8.out HD9.out (by omega) (by show (s.raws ++ [_]).length ≤ _; rw [List.length_append, List.length_singleton]; omega) (off_le _ hl) (by have := HOKC.out; rw [HCC5.out] at this; exact this)
end Go.Proofs.YtnfklomokjhojaaGreatDoor
