/- The document's disk: Mkdir, Write, Remove: the walks. -/
import Derived.Test.YtnfklomokjhojaaGreatDoorRk1
import Derived.Test.YtnfklomokjhojaaGreatDoorDiskA2
namespace Go.Proofs.YtnfklomokjhojaaGreatDoor
open Go.RowKit Go.Maps
set_option linter.unusedSimpArgs false
set_option linter.unusedVariables false
set_option maxHeartbeats 8000000 in
set_option maxRecDepth 100000 in
theorem rmkdir_any {w : World} {B : Nat} {O : Nat → Prop} {rd n : Nat} {s : Disk.S} (h : Rsk w B O rd n s) (hn : n ≤ 1099511627776) (p : List UInt8) (hp : p.length ≤ 4398046511104) :
    Calls Tryz.prog 48 #[.pointer (some ⟨rd, 0, none⟩), .string (bs p)] w (RAskPost w B O rd n (s.mkdir p)) := by
  have H0 := Lib.hid h
  obtain ⟨lv, rv, hfit, h⟩ := h
  have HFIT := Lib.hid hfit
  have H := Lib.hid h
  have hll : s.l.length ≤ 4398046511104 := by have := hfit.1; omega
  have HMAY := Lib.hid (rmay_any h.r.c2 p hp)
  have HNO : Hid (∀ k, s.mkdir p = (k, s) → RAskPost w B O rd n (s.mkdir p) (.returned (.int .i64 k)) w) := Lib.hid (fun k h2 => by
    rw [h2]
    exact ⟨rfl, (RskNow.of_below H0.out (Below.refl _ _)).more (Nat.le_succ _)⟩)
  have HC1 : Hid (s.mkdir p = s.ask (Disk.mkdirC s.l p) ⟨1, p, []⟩) := Lib.hid rfl
  obtain ⟨R, hR⟩ : ∃ R, R = s.mkdir p := ⟨_, rfl⟩
  rw [← hR] at HC1 HNO ⊢
  clear h hfit hR
  go_enter Tryz.func48, Tryz.ntmps48
  go_wp2_with fail
  refine HMAY.out.mono ?_
  rintro e w1 ⟨rfl, rfl⟩
  obtain ⟨k1, hk1⟩ : ∃ k, k = Disk.mayE s p := ⟨_, rfl⟩
  have HK1 := Lib.hid hk1
  rw [← hk1]
  clear hk1
  by_cases h1 : k1 = 0
  rotate_left 1
  · have q1 : (k1 != 0) = true := bne_iff_ne.2 h1
    have HF := Lib.hid (HNO.out k1 (by
      rw [HC1.out, Disk.ask_may (p := p) (by rw [← HK1.out]; exact h1) (fun h => by unfold Disk.mkdirC; rw [h]; rfl), ← HK1.out]))
    clear h1
    go_wp2
    go_returns
    exact HF.out
  subst h1
  have hlp := Disk.may_ok HK1.out.symm
  have HLF := Lib.hid hlp.1
  have HPO := Lib.hid hlp.2
  have HCC : Hid (Disk.mkdirC s.l p = if Disk.homeE s.l p ≠ 0 then (Disk.homeE s.l p, s.l) else if Disk.kind s.l p ≠ 0 then (11, s.l) else (0, SM.put s.l p ⟨true, []⟩)) := Lib.hid (by unfold Disk.mkdirC; rw [hlp.2]; rfl)
  obtain ⟨c, hc⟩ : ∃ c, c = Disk.mkdirC s.l p := ⟨_, rfl⟩
  have HOKC : Hid (∀ x ∈ c.2, Disk.pathOk x.1 = true) := Lib.hid (by rw [hc]; exact Disk.mkdirC_ok HFIT.out.2.2.2 p)
  rw [← hc] at HC1 HCC
  clear hc hlp
  have HNC : Hid (∀ k, c = (k, s.l) → k ≠ 0 → RAskPost w1 B O rd n R (.returned (.int .i64 k)) w1) := Lib.hid (fun k h2 h3 => HNO.out k (by
    rw [HC1.out, Disk.ask_no HLF.out (by rw [h2]; exact h3), h2]))
  have HHOME := Lib.hid (H.out.home hll p hp)
  go_wp2_with fail
  refine HHOME.out.mono ?_
  rintro e w4 ⟨rfl, rfl⟩
  obtain ⟨w1, rfl⟩ : ∃ x, x = w4 := ⟨w4, rfl⟩
  obtain ⟨k4, hk4⟩ : ∃ k, k = Disk.homeE s.l p := ⟨_, rfl⟩
  rw [← hk4] at HCC ⊢
  clear hk4
  by_cases h1 : k4 = 0
  rotate_left 1
  · have HF := Lib.hid (HNC.out k4 (by rw [HCC.out, if_pos h1]) h1)
    have q1 : (k4 != 0) = true := bne_iff_ne.2 h1
    clear h1
    go_wp2
    go_returns
    exact HF.out
  subst h1
  have HCC2 : Hid (c = if Disk.kind s.l p ≠ 0 then (11, s.l) else (0, SM.put s.l p ⟨true, []⟩)) := Lib.hid (by rw [HCC.out, if_neg (by simp)])
  have HKIND := Lib.hid (H.out.kind hll p)
  go_wp2_with fail
  refine HKIND.out.mono ?_
  rintro e w5 ⟨rfl, rfl⟩
  obtain ⟨w1, rfl⟩ : ∃ x, x = w5 := ⟨w5, rfl⟩
  obtain ⟨k5, hk5⟩ : ∃ k, k = Disk.kind s.l p := ⟨_, rfl⟩
  rw [← hk5] at HCC2 ⊢
  clear hk5
  by_cases h2 : k5 = 0
  rotate_left 1
  · have HF := Lib.hid (HNC.out 11 (by rw [HCC2.out, if_pos h2]) (by decide))
    have q1 : (k5 != 0) = true := bne_iff_ne.2 h2
    clear h2
    go_wp2
    go_returns
    exact HF.out
  subst h2
  have HC3 : Hid (c = (0, SM.put s.l p ⟨true, []⟩)) := Lib.hid (by rw [HCC2.out, if_neg (by simp)])
  have HF : Hid (R = (0, s.did c.2 ⟨1, p, []⟩)) := Lib.hid (by rw [HC1.out, Disk.ask_yes HLF.out (by rw [HC3.out])])
  have HPUT := Lib.hid (put_any H.out.r ⟨p, true, []⟩ false (by have := HFIT.out.1; omega))
  go_wp2_with fail
  refine HPUT.out.mono ?_
  rintro e w6 ⟨rfl, ⟨lv6, hr6, hf6⟩, hg6⟩
  have HA6 := Lib.hid (H.out.put hg6 hr6 hf6)
  have HK6 : Hid (Keeps O w1 w6) := Lib.hid (Keeps.of_grown hg6 (fun k e => by rw [← Option.some.inj e]; exact H.out.os))
  have HO6 : Hid (∀ k, (O k ∨ w1.heap.size ≤ k ∧ k < w6.heap.size) → O k ∨ w1.heap.size ≤ k) := Lib.hid (fun k hk => hk.imp id (fun h => h.1))
  clear hr6 hf6 hg6
  have HN7 := Lib.hid (noted_any HA6.out (by show s.raws.length ≤ _; have := HFIT.out.2.1; omega) (by show s.left ≤ _; exact HFIT.out.2.2.1) 1 p [])
  go_wp2_with fail
  refine HN7.out.mono ?_
  rintro e w8 ⟨rfl, hn8⟩
  have HN8 := Lib.hid hn8
  clear hn8
  go_wp2
  go_returns
  have hfit' : RskFit (n + 1) (s.did c.2 ⟨1, p, []⟩) := ⟨by show c.2.length ≤ _; rw [HC3.out]; have := SM.length_put_le s.l p (⟨true, []⟩ : Disk.T); have := HFIT.out.1; exact Nat.le_trans ‹_› (by omega), by show (s.raws ++ [_]).length ≤ _; rw [List.length_append, List.length_singleton]; have := HFIT.out.2.1; omega, off_le _ HFIT.out.2.2.1, HOKC.out⟩
  refine ⟨by rw [HF.out] <;> rfl, ?_⟩
  rw [HF.out]
  exact RskNow.noted HK6.out HO6.out (by rw [HC3.out]; exact HN8.out) hfit'
set_option maxHeartbeats 8000000 in
set_option maxRecDepth 100000 in
theorem rwrite_any {w : World} {B : Nat} {O : Nat → Prop} {rd n : Nat} {s : Disk.S} (h : Rsk w B O rd n s) (hn : n ≤ 1099511627776) (p t : List UInt8) (hp : p.length ≤ 4398046511104) :
    Calls Tryz.prog 49 #[.pointer (some ⟨rd, 0, none⟩), .string (bs p), .string (bs t)] w (RAskPost w B O rd n (s.write p t)) := by
  have H0 := Lib.hid h
  obtain ⟨lv, rv, hfit, h⟩ := h
  have HFIT := Lib.hid hfit
  have H := Lib.hid h
  have hll : s.l.length ≤ 4398046511104 := by have := hfit.1; omega
  have HMAY := Lib.hid (rmay_any h.r.c2 p hp)
  have HNO : Hid (∀ k, s.write p t = (k, s) → RAskPost w B O rd n (s.write p t) (.returned (.int .i64 k)) w) := Lib.hid (fun k h2 => by
    rw [h2]
    exact ⟨rfl, (RskNow.of_below H0.out (Below.refl _ _)).more (Nat.le_succ _)⟩)
  have HC1 : Hid (s.write p t = s.ask (Disk.writeC s.l p t) ⟨2, p, []⟩) := Lib.hid rfl
  obtain ⟨R, hR⟩ : ∃ R, R = s.write p t := ⟨_, rfl⟩
  rw [← hR] at HC1 HNO ⊢
  clear h hfit hR
  go_enter Tryz.func49, Tryz.ntmps49
  go_wp2_with fail
  refine HMAY.out.mono ?_
  rintro e w1 ⟨rfl, rfl⟩
  obtain ⟨k1, hk1⟩ : ∃ k, k = Disk.mayE s p := ⟨_, rfl⟩
  have HK1 := Lib.hid hk1
  rw [← hk1]
  clear hk1
  by_cases h1 : k1 = 0
  rotate_left 1
  · have q1 : (k1 != 0) = true := bne_iff_ne.2 h1
    have HF := Lib.hid (HNO.out k1 (by
      rw [HC1.out, Disk.ask_may (p := p) (by rw [← HK1.out]; exact h1) (fun h => by unfold Disk.writeC; rw [h]; rfl), ← HK1.out]))
    clear h1
    go_wp2
    go_returns
    exact HF.out
  subst h1
  have hlp := Disk.may_ok HK1.out.symm
  have HLF := Lib.hid hlp.1
  have HPO := Lib.hid hlp.2
  have HCC : Hid (Disk.writeC s.l p t = if Disk.homeE s.l p ≠ 0 then (Disk.homeE s.l p, s.l) else if Disk.kind s.l p = 2 then (13, s.l) else (0, SM.put s.l p ⟨false, t⟩)) := Lib.hid (by unfold Disk.writeC; rw [hlp.2]; rfl)
  obtain ⟨c, hc⟩ : ∃ c, c = Disk.writeC s.l p t := ⟨_, rfl⟩
  have HOKC : Hid (∀ x ∈ c.2, Disk.pathOk x.1 = true) := Lib.hid (by rw [hc]; exact Disk.writeC_ok HFIT.out.2.2.2 p t)
  rw [← hc] at HC1 HCC
  clear hc hlp
  have HNC : Hid (∀ k, c = (k, s.l) → k ≠ 0 → RAskPost w1 B O rd n R (.returned (.int .i64 k)) w1) := Lib.hid (fun k h2 h3 => HNO.out k (by
    rw [HC1.out, Disk.ask_no HLF.out (by rw [h2]; exact h3), h2]))
  have HHOME := Lib.hid (H.out.home hll p hp)
  go_wp2_with fail
  refine HHOME.out.mono ?_
  rintro e w4 ⟨rfl, rfl⟩
  obtain ⟨w1, rfl⟩ : ∃ x, x = w4 := ⟨w4, rfl⟩
  obtain ⟨k4, hk4⟩ : ∃ k, k = Disk.homeE s.l p := ⟨_, rfl⟩
  rw [← hk4] at HCC ⊢
  clear hk4
  by_cases h1 : k4 = 0
  rotate_left 1
  · have HF := Lib.hid (HNC.out k4 (by rw [HCC.out, if_pos h1]) h1)
    have q1 : (k4 != 0) = true := bne_iff_ne.2 h1
    clear h1
    go_wp2
    go_returns
    exact HF.out
  subst h1
  have HCC2 : Hid (c = if Disk.kind s.l p = 2 then (13, s.l) else (0, SM.put s.l p ⟨false, t⟩)) := Lib.hid (by rw [HCC.out, if_neg (by simp)])
  have HKIND := Lib.hid (H.out.kind hll p)
  go_wp2_with fail
  refine HKIND.out.mono ?_
  rintro e w5 ⟨rfl, rfl⟩
  obtain ⟨w1, rfl⟩ : ∃ x, x = w5 := ⟨w5, rfl⟩
  obtain ⟨k5, hk5⟩ : ∃ k, k = Disk.kind s.l p := ⟨_, rfl⟩
  rw [← hk5] at HCC2 ⊢
  clear hk5
  by_cases h2 : k5 = 2
  · have HF := Lib.hid (HNC.out 13 (by rw [HCC2.out, if_pos h2]) (by decide))
    have q1 : (k5 == 2) = true := beq_iff_eq.2 h2
    clear h2
    go_wp2
    go_returns
    exact HF.out
  have q1 : (k5 == 2) = false := beq_eq_false_iff_ne.2 h2
  have HC3 : Hid (c = (0, SM.put s.l p ⟨false, t⟩)) := Lib.hid (by rw [HCC2.out, if_neg h2])
  clear h2
  have HF : Hid (R = (0, s.did c.2 ⟨2, p, []⟩)) := Lib.hid (by rw [HC1.out, Disk.ask_yes HLF.out (by rw [HC3.out])])
  have HPUT := Lib.hid (put_any H.out.r ⟨p, false, t⟩ false (by have := HFIT.out.1; omega))
  go_wp2_with fail
  refine HPUT.out.mono ?_
  rintro e w6 ⟨rfl, ⟨lv6, hr6, hf6⟩, hg6⟩
  have HA6 := Lib.hid (H.out.put hg6 hr6 hf6)
  have HK6 : Hid (Keeps O w1 w6) := Lib.hid (Keeps.of_grown hg6 (fun k e => by rw [← Option.some.inj e]; exact H.out.os))
  have HO6 : Hid (∀ k, (O k ∨ w1.heap.size ≤ k ∧ k < w6.heap.size) → O k ∨ w1.heap.size ≤ k) := Lib.hid (fun k hk => hk.imp id (fun h => h.1))
  clear hr6 hf6 hg6
  have HN7 := Lib.hid (noted_any HA6.out (by show s.raws.length ≤ _; have := HFIT.out.2.1; omega) (by show s.left ≤ _; exact HFIT.out.2.2.1) 2 p [])
  go_wp2_with fail
  refine HN7.out.mono ?_
  rintro e w8 ⟨rfl, hn8⟩
  have HN8 := Lib.hid hn8
  clear hn8
  go_wp2
  go_returns
  have hfit' : RskFit (n + 1) (s.did c.2 ⟨2, p, []⟩) := ⟨by show c.2.length ≤ _; rw [HC3.out]; have := SM.length_put_le s.l p (⟨false, t⟩ : Disk.T); have := HFIT.out.1; exact Nat.le_trans ‹_› (by omega), by show (s.raws ++ [_]).length ≤ _; rw [List.length_append, List.length_singleton]; have := HFIT.out.2.1; omega, off_le _ HFIT.out.2.2.1, HOKC.out⟩
  refine ⟨by rw [HF.out] <;> rfl, ?_⟩
  rw [HF.out]
  exact RskNow.noted HK6.out HO6.out (by rw [HC3.out]; exact HN8.out) hfit'
set_option maxHeartbeats 8000000 in
set_option maxRecDepth 100000 in
theorem rremove_any {w : World} {B : Nat} {O : Nat → Prop} {rd n : Nat} {s : Disk.S} (h : Rsk w B O rd n s) (hn : n ≤ 1099511627776) (p : List UInt8) (hp : p.length ≤ 4398046511104) :
    Calls Tryz.prog 53 #[.pointer (some ⟨rd, 0, none⟩), .string (bs p)] w (RAskPost w B O rd n (s.remove p)) := by
  have H0 := Lib.hid h
  obtain ⟨lv, rv, hfit, h⟩ := h
  have HFIT := Lib.hid hfit
  have H := Lib.hid h
  have hll : s.l.length ≤ 4398046511104 := by have := hfit.1; omega
  have HMAY := Lib.hid (rmay_any h.r.c2 p hp)
  have HNO : Hid (∀ k, s.remove p = (k, s) → RAskPost w B O rd n (s.remove p) (.returned (.int .i64 k)) w) := Lib.hid (fun k h2 => by
    rw [h2]
    exact ⟨rfl, (RskNow.of_below H0.out (Below.refl _ _)).more (Nat.le_succ _)⟩)
  have HC1 : Hid (s.remove p = s.ask (Disk.removeC s.l p) ⟨4, p, []⟩) := Lib.hid rfl
  obtain ⟨R, hR⟩ : ∃ R, R = s.remove p := ⟨_, rfl⟩
  rw [← hR] at HC1 HNO ⊢
  clear h hfit hR
  go_enter Tryz.func53, Tryz.ntmps53
  go_wp2_with fail
  refine HMAY.out.mono ?_
  rintro e w1 ⟨rfl, rfl⟩
  obtain ⟨k1, hk1⟩ : ∃ k, k = Disk.mayE s p := ⟨_, rfl⟩
  have HK1 := Lib.hid hk1
  rw [← hk1]
  clear hk1
  by_cases h1 : k1 = 0
  rotate_left 1
  · have q1 : (k1 != 0) = true := bne_iff_ne.2 h1
    have HF := Lib.hid (HNO.out k1 (by
      rw [HC1.out, Disk.ask_may (p := p) (by rw [← HK1.out]; exact h1) (fun h => by unfold Disk.removeC; rw [h]; rfl), ← HK1.out]))
    clear h1
    go_wp2
    go_returns
    exact HF.out
  subst h1
  have hlp := Disk.may_ok HK1.out.symm
  have HLF := Lib.hid hlp.1
  have HPO := Lib.hid hlp.2
  have HCC2 : Hid (Disk.removeC s.l p = if Disk.kind s.l p = 0 then (12, s.l) else if s.l.any fun x => Disk.parent x.1 == p then (14, s.l) else (0, SM.del s.l p)) := Lib.hid (by unfold Disk.removeC; rw [hlp.2]; rfl)
  obtain ⟨c, hc⟩ : ∃ c, c = Disk.removeC s.l p := ⟨_, rfl⟩
  have HOKC : Hid (∀ x ∈ c.2, Disk.pathOk x.1 = true) := Lib.hid (by rw [hc]; exact Disk.removeC_ok HFIT.out.2.2.2 p)
  rw [← hc] at HC1 HCC2
  clear hc hlp
  have HNC : Hid (∀ k, c = (k, s.l) → k ≠ 0 → RAskPost w1 B O rd n R (.returned (.int .i64 k)) w1) := Lib.hid (fun k h2 h3 => HNO.out k (by
    rw [HC1.out, Disk.ask_no HLF.out (by rw [h2]; exact h3), h2]))
  have HKIND := Lib.hid (H.out.kind hll p)
  go_wp2_with fail
  refine HKIND.out.mono ?_
  rintro e w5 ⟨rfl, rfl⟩
  obtain ⟨w1, rfl⟩ : ∃ x, x = w5 := ⟨w5, rfl⟩
  obtain ⟨k5, hk5⟩ : ∃ k, k = Disk.kind s.l p := ⟨_, rfl⟩
  rw [← hk5] at HCC2 ⊢
  clear hk5
  by_cases h2 : k5 = 0
  · have HF := Lib.hid (HNC.out 12 (by rw [HCC2.out, if_pos h2]) (by decide))
    have q1 : (k5 == 0) = true := beq_iff_eq.2 h2
    clear h2
    go_wp2
    go_returns
    exact HF.out
  have q1 : (k5 == 0) = false := beq_eq_false_iff_ne.2 h2
  have HCC3 : Hid (c = if s.l.any fun x => Disk.parent x.1 == p then (14, s.l) else (0, SM.del s.l p)) := Lib.hid (by rw [HCC2.out, if_neg h2])
  clear h2
  have c0 := H.out.r.c0
  have HFI := Lib.hid H.out.r.row.files
  obtain ⟨av, cv, rfl⟩ := own_form H.out.r.row
  obtain ⟨N, hN⟩ : ∃ N, N = (fls s.l).length := ⟨_, rfl⟩
  have HNL : Hid (N = s.l.length) := Lib.hid (by rw [hN, fls_length])
  rw [← hN] at c0
  have HN := Lib.hid hN
  have hNb : N ≤ 4398046511104 := by rw [HNL.out]; exact hll
  clear hN
  go_wp2
  go_loopw [7] (fun q wr => ∃ i : Nat, q = .int .i64 i ∧ i ≤ N ∧ (∀ x ∈ s.l.take i, Disk.parent x.1 ≠ p) ∧ wr = w1) (fun q _ => N - (intOf q).toNat)
  case atStart => exact ⟨0, rfl, by omega, fun x hx => by simp at hx, rfl⟩
  case round =>
    obtain ⟨i, rfl, hi, hall, rfl⟩ := hrel
    have HALL := Lib.hid hall
    clear hall
    by_cases hiN : i < N
    · obtain ⟨f, hf⟩ : ∃ f, (fls s.l)[i]? = some f := ⟨_, List.getElem?_eq_getElem (by have := HN.out; omega)⟩
      obtain ⟨bk, o, cap, hve, hbB, hbc⟩ := HFI.out.at (by have := HN.out; omega)
      rw [← HN.out] at hve
      cases hve
      obtain ⟨e1, e2, e3⟩ := hbc i f hf
      have HL := Lib.hid (fls_at hf)
      obtain ⟨xp, xd, xt⟩ := f
      dsimp only at e1 HL
      have hxl : xp.length ≤ 4096 := Disk.pathOk_length (HFIT.out.2.2.2 _ (List.mem_of_getElem? HL.out))
      have HPAR := Lib.hid (rparent_any (bs xp) (by show xp.toArray.size ≤ _; simp; omega))
      rw [bs_list] at HPAR
      have hiI : (i : Int) < (N : Int) := by omega
      obtain ⟨q, hq⟩ : ∃ q, q = Disk.parent xp := ⟨_, rfl⟩
      rw [← hq] at HPAR
      have hqe := sv_inj (a := q) (b := p)
      have HQ := Lib.hid hq
      clear hf hbc e2 e3 hq
      by_cases he : q = p
      · have HANY : Hid ((s.l.any fun x => Disk.parent x.1 == p) = true) := Lib.hid (List.any_eq_true.2 ⟨_, List.mem_of_getElem? HL.out, by show (Disk.parent xp == p) = true; rw [← HQ.out, he]; exact beq_self_eq_true _⟩)
        have HF := Lib.hid (HNC.out 14 (by rw [HCC3.out, HANY.out]; rfl) (by decide))
        rw [decide_eq_true he] at hqe
        clear he
        go_wp2_with fail
        refine (HPAR.out _).mono ?_
        rintro e w7 ⟨rfl, rfl⟩
        go_wp2
        go_returns
        exact HF.out
      · have HK : Hid (∀ x ∈ s.l.take (i + 1), Disk.parent x.1 ≠ p) := Lib.hid (fun x hx => by
          rw [List.take_add_one, HL.out] at hx
          rcases List.mem_append.1 hx with hx | hx
          · exact HALL.out x hx
          · simp at hx; subst hx; rw [← HQ.out]; exact he)
        rw [decide_eq_false he] at hqe
        clear he
        go_wp2_with fail
        refine (HPAR.out _).mono ?_
        rintro e w7 ⟨rfl, rfl⟩
        go_wp2
        go_roundw
        case rel => exact ⟨i + 1, by go_num, by omega, HK.out, trivial⟩
        case measure => simp [intOf]; omega
    · have HANY : Hid ((s.l.any fun x => Disk.parent x.1 == p) = false) := Lib.hid (by
        rw [List.any_eq_false]
        intro x hx
        have := HALL.out x (by rw [List.take_of_length_le (by have := HNL.out; omega)]; exact hx)
        simpa using this)
      have HC3 : Hid (c = (0, SM.del s.l p)) := Lib.hid (by rw [HCC3.out, HANY.out]; rfl)
      have HF : Hid (R = (0, s.did c.2 ⟨4, p, []⟩)) := Lib.hid (by rw [HC1.out, Disk.ask_yes HLF.out (by rw [HC3.out])])
      have hex : ¬ (i : Int) < (N : Int) := by omega
      obtain ⟨w1, rfl⟩ : ∃ x, x = wr := ⟨wr, rfl⟩
      have HPUT := Lib.hid (put_any H.out.r ⟨p, false, []⟩ true (by have := HFIT.out.1; omega))
      go_wp2_with fail
      refine HPUT.out.mono ?_
      rintro e w6 ⟨rfl, ⟨lv6, hr6, hf6⟩, hg6⟩
      have HA6 := Lib.hid (H.out.put hg6 hr6 hf6)
      have HK6 : Hid (Keeps O w1 w6) := Lib.hid (Keeps.of_grown hg6 (fun k e => by rw [← Option.some.inj e]; exact H.out.os))
      have HO6 : Hid (∀ k, (O k ∨ w1.heap.size ≤ k ∧ k < w6.heap.size) → O k ∨ w1.heap.size ≤ k) := Lib.hid (fun k hk => hk.imp id (fun h => h.1))
      clear hr6 hf6 hg6
      have HN7 := Lib.hid (noted_any HA6.out (by show s.raws.length ≤ _; have := HFIT.out.2.1; omega) (by show s.left ≤ _; exact HFIT.out.2.2.1) 4 p [])
      go_wp2_with fail
      refine HN7.out.mono ?_
      rintro e w8 ⟨rfl, hn8⟩
      have HN8 := Lib.hid hn8
      clear hn8
      go_wp2
      go_returns
      have hfit' : RskFit (n + 1) (s.did c.2 ⟨4, p, []⟩) := ⟨by show c.2.length ≤ _; rw [HC3.out]; have := SM.length_del_le s.l p; have := HFIT.out.1; exact Nat.le_trans ‹_› (by omega), by show (s.raws ++ [_]).length ≤ _; rw [List.length_append, List.length_singleton]; have := HFIT.out.2.1; omega, off_le _ HFIT.out.2.2.1, HOKC.out⟩
      refine ⟨by rw [HF.out] <;> rfl, ?_⟩
      rw [HF.out]
      exact RskNow.noted HK6.out HO6.out (by rw [HC3.out]; exact HN8.out) hfit'
end Go.Proofs.YtnfklomokjhojaaGreatDoor
