/- A disk's raw writes: Write, Remove: the walks. -/
import Derived.Test.YtnfklomokjhojaaGreatDoorDiskA2
namespace Go.Proofs.YtnfklomokjhojaaGreatDoor
open Go.RowKit Go.Maps
set_option linter.unusedSimpArgs false
set_option linter.unusedVariables false
set_option maxHeartbeats 4000000 in
set_option maxRecDepth 100000 in
theorem write_any {w : World} {B : Nat} {O : Nat → Prop} {sd n : Nat} {s : Disk.S} (h : Dsk w B O sd n s) (hE : Env w) (hn : n ≤ 1099511627776) (p t : List UInt8) (hp : p.length ≤ 4398046511104) :
    Calls Tryz.prog 47 #[.pointer (some ⟨sd, 0, none⟩), .string (bs p), .string (bs t)] w (AskPost w B O sd n (s.write p t)) := by
  have H0 := Lib.hid h
  obtain ⟨bm, m, rv, ⟨hm, hr, hl, hok⟩, h⟩ := h
  have HOK := Lib.hid hok
  have H := Lib.hid h
  have HMAY := Lib.hid (may_any h.d.c2 hE p hp)
  have hbml := h.d.bml
  have hsdl := h.d.sdl
  have hps := bs_small hp
  clear h hok
  go_enter Tryz.func47, Tryz.ntmps47
  go_wp2_with fail
  refine HMAY.out.mono ?_
  rintro e w1 ⟨rfl, hb1⟩
  have HB1 := Lib.hid hb1
  have HC1 : Hid (s.write p t = s.ask (Disk.writeC s.l p t) ⟨2, p, []⟩) := Lib.hid rfl
  by_cases hmay : Disk.mayE s p = 0
  rotate_left 1
  · have HF := Lib.hid (Disk.ask_may (c := Disk.writeC s.l p t) (r := ⟨2, p, []⟩) hmay (fun h => by unfold Disk.writeC; rw [h]; rfl))
    have q1 : (Disk.mayE s p != 0) = true := bne_iff_ne.2 hmay
    obtain ⟨k, hk⟩ : ∃ k, k = Disk.mayE s p := ⟨_, rfl⟩
    rw [← hk] at q1 HF ⊢
    clear hmay hk
    go_wp2
    go_returns
    exact ⟨by rw [HC1.out, HF.out] <;> rfl, by rw [HC1.out, HF.out]; exact (DskNow.of_below H0.out HB1.out).more (Nat.le_succ _)⟩
  have hlp := Disk.may_ok hmay
  have HCC : Hid (Disk.writeC s.l p t = if Disk.homeE s.l p ≠ 0 then (Disk.homeE s.l p, s.l) else if Disk.kind s.l p = 2 then (13, s.l) else (0, SM.put s.l p ⟨false, t⟩)) := Lib.hid (by unfold Disk.writeC; rw [hlp.2]; rfl)
  have HLF := Lib.hid hlp.1
  have HPO := Lib.hid hlp.2
  rw [hmay]
  clear hmay hlp
  have H1 := Lib.hid (H.out.below HB1.out)
  have HHOME := Lib.hid (home_any H1.out.d.c0 H1.out.d.things p hp)
  go_wp2_with fail
  refine HHOME.out.mono ?_
  rintro e w2 ⟨rfl, hb2⟩
  have HB2 := Lib.hid (hb1.trans (hb2.mono hb1.size))
  by_cases hho : Disk.homeE s.l p = 0
  rotate_left 1
  · have HF := Lib.hid (Disk.ask_no (c := Disk.writeC s.l p t) (r := ⟨2, p, []⟩) HLF.out (by rw [HCC.out, if_pos hho]; exact hho))
    have HF2 : Hid ((Disk.writeC s.l p t).1 = Disk.homeE s.l p) := Lib.hid (by rw [HCC.out, if_pos hho])
    have q1 : (Disk.homeE s.l p != 0) = true := bne_iff_ne.2 hho
    obtain ⟨k, hk⟩ : ∃ k, k = Disk.homeE s.l p := ⟨_, rfl⟩
    rw [← hk] at q1 HF2 ⊢
    clear hho hk
    go_wp2
    go_returns
    exact ⟨by rw [HC1.out, HF.out, HF2.out] <;> rfl, by rw [HC1.out, HF.out]; exact (DskNow.of_below H0.out HB2.out).more (Nat.le_succ _)⟩
  have HCC2 : Hid (Disk.writeC s.l p t = if Disk.kind s.l p = 2 then (13, s.l) else (0, SM.put s.l p ⟨false, t⟩)) := Lib.hid (by rw [HCC.out, if_neg (by simpa using hho)])
  rw [hho]
  clear hho
  have H2 := Lib.hid (H.out.below HB2.out)
  have HKIND := Lib.hid (kind_any H2.out.d.c0 H2.out.d.things (bs p) hps)
  rw [bs_list] at HKIND
  go_wp2_with fail
  refine HKIND.out.mono ?_
  rintro e w3 ⟨rfl, hb3⟩
  have HB3 := Lib.hid (HB2.out.trans (hb3.mono HB2.out.size))
  by_cases hki : Disk.kind s.l p = 2
  · have HF := Lib.hid (Disk.ask_no (c := Disk.writeC s.l p t) (r := ⟨2, p, []⟩) HLF.out (by rw [HCC2.out, if_pos hki]; simp))
    have HF2 : Hid ((Disk.writeC s.l p t).1 = 13) := Lib.hid (by rw [HCC2.out, if_pos hki])
    have q1 : (Disk.kind s.l p == 2) = true := beq_iff_eq.2 hki
    obtain ⟨k, hk⟩ : ∃ k, k = Disk.kind s.l p := ⟨_, rfl⟩
    rw [← hk] at q1 ⊢
    clear hki hk
    go_wp2
    go_returns
    exact ⟨by rw [HC1.out, HF.out, HF2.out] <;> rfl, by rw [HC1.out, HF.out]; exact (DskNow.of_below H0.out HB3.out).more (Nat.le_succ _)⟩
  have HCC3 : Hid (Disk.writeC s.l p t = (0, SM.put s.l p ⟨false, t⟩)) := Lib.hid (by rw [HCC2.out, if_neg hki])
  have HF := Lib.hid (Disk.ask_yes (c := Disk.writeC s.l p t) (r := ⟨2, p, []⟩) HLF.out (by rw [HCC3.out]))
  rw [HCC3.out] at HF
  have q2 : (Disk.kind s.l p == 2) = false := beq_eq_false_iff_ne.2 hki
  obtain ⟨kk, hkk⟩ : ∃ k, k = Disk.kind s.l p := ⟨_, rfl⟩
  rw [← hkk] at q2 ⊢
  clear hki hkk
  have H3 := Lib.hid (H.out.below HB3.out)
  have d0 := H3.out.d.c0
  obtain ⟨w3, rfl⟩ : ∃ x, x = w3 := ⟨w3, rfl⟩
  clear hb1 hb2 hb3
  go_wp2_with (first | (at_mapUpdate; refine wpList_put elT rfl _ _ _ 68 rfl 74 Tryz.underlying9 Tryz.underlying68 rfl H3.out.d.things (by unfold maxLen; omega) (bs p) hps rfl (⟨false, t⟩ : Disk.T) _ rfl rfl ?_; intro w6 hm6 hg6; rw [bs_list] at hm6))
  have HP6 := Lib.hid (H3.out.put hg6 hm6)
  have HK6 := Lib.hid ((Keeps.of_below (O := O) HB3.out).then_grown hg6 (fun k e => Or.inl (by rw [← Option.some.inj e]; exact H.out.ob)))
  have HDONE := Lib.hid (done_any HP6.out (by show s.raws.length ≤ _; omega) hl 2 p [])
  clear hg6 hm6
  go_wp2_with fail
  refine HDONE.out.mono ?_
  rintro e w7 ⟨rfl, hd7⟩
  have HD7 := Lib.hid hd7
  clear hd7
  go_wp2
  go_returns
  refine ⟨by rw [HC1.out, HCC3.out, HF.out] <;> rfl, ?_⟩
  rw [HC1.out, HCC3.out, HF.out]
  exact DskNow.done HK6.out HD7.out (by omega) (by show (s.raws ++ [_]).length ≤ _; rw [List.length_append, List.length_singleton]; omega) (off_le _ hl) (Disk.ok_put HOK.out HPO.out _)
set_option maxHeartbeats 4000000 in
set_option maxRecDepth 100000 in
theorem remove_any {w : World} {B : Nat} {O : Nat → Prop} {sd n : Nat} {s : Disk.S} (h : Dsk w B O sd n s) (hE : Env w) (hn : n ≤ 1099511627776) (p : List UInt8) (hp : p.length ≤ 4398046511104) :
    Calls Tryz.prog 52 #[.pointer (some ⟨sd, 0, none⟩), .string (bs p)] w (AskPost w B O sd n (s.remove p)) := by
  have H0 := Lib.hid h
  obtain ⟨bm, m, rv, ⟨hm, hr, hl, hok⟩, h⟩ := h
  have HOK := Lib.hid hok
  have H := Lib.hid h
  have HMAY := Lib.hid (may_any h.d.c2 hE p hp)
  have hbml := h.d.bml
  have hsdl := h.d.sdl
  have hps := bs_small hp
  clear h hok
  go_enter Tryz.func52, Tryz.ntmps52
  go_wp2_with fail
  refine HMAY.out.mono ?_
  rintro e w1 ⟨rfl, hb1⟩
  have HB1 := Lib.hid hb1
  have HC1 : Hid (s.remove p = s.ask (Disk.removeC s.l p) ⟨4, p, []⟩) := Lib.hid rfl
  by_cases hmay : Disk.mayE s p = 0
  rotate_left 1
  · have HF := Lib.hid (Disk.ask_may (c := Disk.removeC s.l p) (r := ⟨4, p, []⟩) hmay (fun h => by unfold Disk.removeC; rw [h]; rfl))
    have q1 : (Disk.mayE s p != 0) = true := bne_iff_ne.2 hmay
    obtain ⟨k, hk⟩ : ∃ k, k = Disk.mayE s p := ⟨_, rfl⟩
    rw [← hk] at q1 HF ⊢
    clear hmay hk
    go_wp2
    go_returns
    exact ⟨by rw [HC1.out, HF.out] <;> rfl, by rw [HC1.out, HF.out]; exact (DskNow.of_below H0.out HB1.out).more (Nat.le_succ _)⟩
  have hlp := Disk.may_ok hmay
  have HCC : Hid (Disk.removeC s.l p = if Disk.kind s.l p = 0 then (12, s.l) else if s.l.any fun x => Disk.parent x.1 == p then (14, s.l) else (0, SM.del s.l p)) := Lib.hid (by unfold Disk.removeC; rw [hlp.2]; rfl)
  have HLF := Lib.hid hlp.1
  have HPO := Lib.hid hlp.2
  rw [hmay]
  clear hmay hlp
  have H1 := Lib.hid (H.out.below HB1.out)
  have HKIND := Lib.hid (kind_any H1.out.d.c0 H1.out.d.things (bs p) hps)
  rw [bs_list] at HKIND
  go_wp2_with fail
  refine HKIND.out.mono ?_
  rintro e w3 ⟨rfl, hb3⟩
  have HB3 := Lib.hid (HB1.out.trans (hb3.mono HB1.out.size))
  by_cases hki : Disk.kind s.l p = 0
  · have HF := Lib.hid (Disk.ask_no (c := Disk.removeC s.l p) (r := ⟨4, p, []⟩) HLF.out (by rw [HCC.out, if_pos hki]; simp))
    have HF2 : Hid ((Disk.removeC s.l p).1 = 12) := Lib.hid (by rw [HCC.out, if_pos hki])
    have q1 : (Disk.kind s.l p == 0) = true := beq_iff_eq.2 hki
    obtain ⟨k, hk⟩ : ∃ k, k = Disk.kind s.l p := ⟨_, rfl⟩
    rw [← hk] at q1 ⊢
    clear hki hk
    go_wp2
    go_returns
    exact ⟨by rw [HC1.out, HF.out, HF2.out] <;> rfl, by rw [HC1.out, HF.out]; exact (DskNow.of_below H0.out HB3.out).more (Nat.le_succ _)⟩
  have HCC2 : Hid (Disk.removeC s.l p = if s.l.any fun x => Disk.parent x.1 == p then (14, s.l) else (0, SM.del s.l p)) := Lib.hid (by rw [HCC.out, if_neg hki])
  have q2 : (Disk.kind s.l p == 0) = false := beq_eq_false_iff_ne.2 hki
  obtain ⟨kk, hkk⟩ : ∃ k, k = Disk.kind s.l p := ⟨_, rfl⟩
  rw [← hkk] at q2 ⊢
  clear hki hkk hb1 hb3
  have H3 := Lib.hid (H.out.below HB3.out)
  have d0 := H3.out.d.c0
  have hz3 := HB3.out.size
  have hbm3 := H3.out.d.bml
  have hsd3 := H3.out.d.sdl
  obtain ⟨w3, rfl⟩ : ∃ x, x = w3 := ⟨w3, rfl⟩
  go_wp2_with (first | (at_range; refine wpList_range elT rfl _ 68 rfl 74 Tryz.underlying9 Tryz.underlying68 rfl H3.out.d.things ?_; intro w4 cnt0 hrg hg4 hs4))
  try go_frame
  have HB4 : Hid (Below w3.heap.size w3 w4) := Lib.hid ((Below.refl _ _).grown hg4 (Nat.le_refl _) (fun j hj => by cases hj))
  go_loopw [6] (fun _ wr => ∃ left cnt, SRange Tryz.prog 9 elT wr bm w3.heap.size m s.l left cnt ∧ (∀ x ∈ s.l, left x.1 = false → (Disk.parent x.1 == p) = false) ∧ Below w3.heap.size w3 wr) (fun _ wr => wr.rangeLeft bm w3.heap.size)
  case atStart =>
    refine ⟨_, _, hrg, fun x hx h => ?_, HB4.out⟩
    rw [SM.look_mem H3.out.d.things.rises hx] at h
    exact absurd h (by simp)
  case round =>
    obtain ⟨left, cnt, hrg5, hall, hB5⟩ := hrel
    obtain ⟨w5, rfl⟩ : ∃ x, x = wr := ⟨wr, rfl⟩
    have HRG := Lib.hid hrg5
    have HALL := Lib.hid hall
    have HB5 := Lib.hid hB5
    have H5 := Lib.hid (H3.out.below hB5)
    have d5 := H5.out.d.c0
    have hz5 := hB5.size
    clear hrg5 hall hB5 hrg hg4 hs4 d0
    go_wp2_with (first | (at_next; refine wpList_next elT rfl _ rfl Tryz.underlying9 (fun c => .agg #[.bool c.dir, .string (bs c.data)]) (fun c => rfl) rfl HRG.out ?_ ?_))
    · intro hno
      have HANY : Hid ((s.l.any fun x => Disk.parent x.1 == p) = false) := Lib.hid (by
        rw [List.any_eq_false]
        intro x hx
        rw [HALL.out x hx (hno _)]
        simp)
      clear hno
      have HCC3 : Hid (Disk.removeC s.l p = (0, SM.del s.l p)) := Lib.hid (by rw [HCC2.out, HANY.out]; rfl)
      have HF := Lib.hid (Disk.ask_yes (c := Disk.removeC s.l p) (r := ⟨4, p, []⟩) HLF.out (by rw [HCC3.out]))
      rw [HCC3.out] at HF
      have HKP : Hid (Keeps O w w5) := Lib.hid (Keeps.of_below (HB3.out.trans (HB5.out.mono HB3.out.size)))
      go_wp2_with (first | (at_delete; refine wpList_del elT rfl _ _ 68 rfl 74 Tryz.underlying9 Tryz.underlying68 rfl H5.out.d.things (bs p) hps rfl ?_; intro w6 hm6 hg6; rw [bs_list] at hm6))
      have HP6 := Lib.hid (H5.out.put hg6 hm6)
      have HK6 := Lib.hid (HKP.out.then_grown hg6 (fun k e => Or.inl (by rw [← Option.some.inj e]; exact H.out.ob)))
      have HDONE := Lib.hid (done_any HP6.out (by show s.raws.length ≤ _; omega) hl 4 p [])
      clear hg6 hm6
      go_wp2_with fail
      refine HDONE.out.mono ?_
      rintro e w7 ⟨rfl, hd7⟩
      have HD7 := Lib.hid hd7
      clear hd7
      go_wp2
      go_returns
      refine ⟨by rw [HC1.out, HCC3.out, HF.out] <;> rfl, ?_⟩
      rw [HC1.out, HCC3.out, HF.out]
      exact DskNow.done HK6.out HD7.out (by omega) (by show (s.raws ++ [_]).length ≤ _; rw [List.length_append, List.length_singleton]; omega) (off_le _ hl) (Disk.ok_del HOK.out _)
    · intro x c w6 cnt1 hls hlk hss hrg6 hlt hg6 hs6 hen
      have HB6 := Lib.hid (HB5.out.grown hg6 hz5 (fun j hj => by cases hj; exact Nat.le_refl _))
      have HRG6 := Lib.hid hrg6
      have hmem := SM.look_some hlk
      have hxl : x.size ≤ 4096 := by
        have := Disk.pathOk_length (HOK.out _ hmem)
        simpa using this
      have HPAR := Lib.hid (parent_any x (by omega))
      obtain ⟨q, hq⟩ : ∃ q, q = Disk.parent x.data.toList := ⟨_, rfl⟩
      rw [← hq] at HPAR
      have HNX : Hid (q ≠ p → ∀ y ∈ s.l, (left y.1 && !(y.1 == x.data.toList)) = false → (Disk.parent y.1 == p) = false) := Lib.hid (fun h y hy h2 => by
        by_cases he : y.1 = x.data.toList
        · rw [he, ← hq]; exact beq_eq_false_iff_ne.2 h
        · rw [beq_eq_false_iff_ne.2 he] at h2
          exact HALL.out y hy (by simpa using h2))
      have HNO : Hid (q = p → (s.l.any fun x => Disk.parent x.1 == p) = true) := Lib.hid (fun h => by
        rw [List.any_eq_true]
        exact ⟨_, hmem, by rw [← h, hq]; exact beq_self_eq_true _⟩)
      have HLT := Lib.hid hlt
      have hqe := sv_inj (a := q) (b := p)
      clear hls hlk hrg6 hmem hq hlt hg6
      by_cases he : q = p
      · have HANY := Lib.hid (HNO.out he)
        have HCC3 : Hid (Disk.removeC s.l p = (14, s.l)) := Lib.hid (by rw [HCC2.out, HANY.out]; rfl)
        have HF := Lib.hid (Disk.ask_no (c := Disk.removeC s.l p) (r := ⟨4, p, []⟩) HLF.out (by rw [HCC3.out]; simp))
        rw [HCC3.out] at HF
        rw [decide_eq_true he] at hqe
        clear he
        go_wp2_with fail
        refine (HPAR.out _).mono ?_
        rintro e w7 ⟨rfl, rfl⟩
        go_wp2
        go_returns
        exact ⟨by rw [HC1.out, HCC3.out, HF.out] <;> rfl, by rw [HC1.out, HCC3.out, HF.out]; exact (DskNow.of_below H0.out (HB3.out.trans (HB6.out.mono HB3.out.size))).more (Nat.le_succ _)⟩
      · have HK := Lib.hid (HNX.out he)
        rw [decide_eq_false he] at hqe
        clear he
        go_wp2_with fail
        refine (HPAR.out _).mono ?_
        rintro e w7 ⟨rfl, rfl⟩
        go_wp2
        go_roundw
        case rel => exact ⟨_, cnt1, HRG6.out, HK.out, HB6.out⟩
        case measure => rw [HRG6.out.left_eq, HRG.out.left_eq]; exact HLT.out
end Go.Proofs.YtnfklomokjhojaaGreatDoor
