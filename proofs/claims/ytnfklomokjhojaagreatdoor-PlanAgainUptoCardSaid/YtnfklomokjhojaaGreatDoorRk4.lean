/- The document's disk: Read, Down, Up, Cut; disk's Clear: the walks. -/
import Derived.Test.YtnfklomokjhojaaGreatDoorRk3
import Derived.Test.YtnfklomokjhojaaGreatDoorDiskA6
namespace Go.Proofs.YtnfklomokjhojaaGreatDoor
open Go.RowKit Go.Maps
set_option linter.unusedSimpArgs false
set_option linter.unusedVariables false
theorem rdown_any {w : World} {rd : Nat} {k : Int} (h : w.cell? ⟨rd, 2, none⟩ = some (.int .i64 k)) :
    Calls Tryz.prog 16 #[.pointer (some ⟨rd, 0, none⟩)] w fun e w' => e = .returned (.bool (decide (k = 0))) ∧ w' = w := by
  have hq : (k == 0) = decide (k = 0) := by
    by_cases h0 : k = 0
    · rw [h0]; rfl
    · rw [decide_eq_false h0]; exact beq_eq_false_iff_ne.2 h0
  go_enter Tryz.func16, Tryz.ntmps16
  go_wp2
  go_returns
  exact ⟨rfl, rfl⟩
theorem rup_any {w : World} {B : Nat} {O : Nat → Prop} {rd n : Nat} {s : Disk.S} (h : Rsk w B O rd n s) :
    Calls Tryz.prog 42 #[.pointer (some ⟨rd, 0, none⟩)] w fun e w' => e = .returned (.tuple #[]) ∧ RskNow w w' B O rd n ⟨s.l, s.raws, -1⟩ := by
  obtain ⟨lv, rv, ⟨hl, hr, hf, hok⟩, h⟩ := h
  have H := Lib.hid (h.setLeft (-1))
  have HO := Lib.hid h.os
  have HOK := Lib.hid hok
  have d2 := h.r.c2
  have d3 := h.r.fr 2
  clear h hok
  go_enter Tryz.func42, Tryz.ntmps42
  go_wp2
  go_returns
  exact ⟨rfl, ⟨O, ⟨lv, rv, ⟨hl, hr, by show (-1 : Int) ≤ _; decide, HOK.out⟩, H.out.1⟩, fun k h => Or.inl h⟩, Keeps.of_grown H.out.2 (fun k e => by rw [← Option.some.inj e]; exact HO.out)⟩
set_option maxHeartbeats 1000000 in
set_option maxRecDepth 100000 in
theorem rcut_any {w : World} {B : Nat} {O : Nat → Prop} {rd n : Nat} {s : Disk.S} (h : Rsk w B O rd n s) (k : Int) (hk : k ≤ 9223372036854775807) :
    Calls Tryz.prog 41 #[.pointer (some ⟨rd, 0, none⟩), .int .i64 k] w fun e w' => e = .returned (.int .i64 (s.cut k).1) ∧ RskNow w w' B O rd n (s.cut k).2 := by
  have H0 := Lib.hid h
  obtain ⟨lv, rv, ⟨hl, hr, hf, hok⟩, h⟩ := h
  have H := Lib.hid (h.setLeft k)
  have HO := Lib.hid h.os
  have HOK := Lib.hid hok
  have d2 := h.r.c2
  have d3 := h.r.fr 2
  have HC : Hid (s.cut k = if s.left = 0 then (15, s) else if k < 0 then (1, s) else (0, ⟨s.l, s.raws, k⟩)) := Lib.hid rfl
  obtain ⟨lf, hlf⟩ : ∃ x, x = s.left := ⟨_, rfl⟩
  rw [← hlf] at d2 HC
  clear h hok hlf hf
  by_cases h0 : lf = 0
  · have HF : Hid (s.cut k = (15, s)) := Lib.hid (by rw [HC.out, if_pos h0])
    have q0 : (lf == 0) = true := beq_iff_eq.2 h0
    clear h0
    go_enter Tryz.func41, Tryz.ntmps41
    go_wp2
    go_returns
    rw [HF.out]
    exact ⟨rfl, RskNow.of_below H0.out (Below.refl _ _)⟩
  have q0 : (lf == 0) = false := beq_eq_false_iff_ne.2 h0
  by_cases h1 : k < 0
  · have HF : Hid (s.cut k = (1, s)) := Lib.hid (by rw [HC.out, if_neg h0, if_pos h1])
    clear h0
    go_enter Tryz.func41, Tryz.ntmps41
    go_wp2
    go_returns
    rw [HF.out]
    exact ⟨rfl, RskNow.of_below H0.out (Below.refl _ _)⟩
  · have HF : Hid (s.cut k = (0, ⟨s.l, s.raws, k⟩)) := Lib.hid (by rw [HC.out, if_neg h0, if_neg h1])
    clear h0
    go_enter Tryz.func41, Tryz.ntmps41
    go_wp2
    go_returns
    rw [HF.out]
    exact ⟨rfl, ⟨O, ⟨lv, rv, ⟨hl, hr, hk, HOK.out⟩, H.out.1⟩, fun k h => Or.inl h⟩, Keeps.of_grown H.out.2 (fun k e => by rw [← Option.some.inj e]; exact HO.out)⟩
/-- The raw writes are forgotten. -/
theorem RskAt.clear {w : World} {B : Nat} {O : Nat → Prop} {rd : Nat} {lv rv : Value} {s : Disk.S} (h : RskAt w B O rd lv rv s) : RskAt (w.setCell ⟨rd, 1, none⟩ (.slice none 0 0)) B O rd lv (.slice none 0 0) ⟨s.l, [], s.left⟩ ∧ w.grownBy (w.setCell ⟨rd, 1, none⟩ (.slice none 0 0)) (some rd) := by
  have hg := setCell_grows w ⟨rd, 1, none⟩ (.slice none 0 0)
  refine ⟨⟨⟨?_, World.cell?_setCell_same' _ _ _ (by rw [h.r.c1]; rfl), ?_, fun j => by rw [World.frozen?_setCell]; exact h.r.fr j, h.r.row.kept hg (not_row (fun g e e2 => h.r.ne (by rw [e, e2]))), h.r.ne, h.r.rises, h.r.rdb⟩, World.ownsRow_nil _ _ _ _, by simp [Value.ownBlock], fun g hg => (by cases hg), h.os, h.ol, fun g hg => (by cases hg), fun k hk => ⟨(h.lim k hk).1, by simpa [World.setCell] using (h.lim k hk).2⟩⟩, hg⟩
  · rw [World.cell?_setCell_other _ _ _ _ (by simp)]; exact h.r.c0
  · rw [World.cell?_setCell_other _ _ _ _ (by simp)]; exact h.r.c2
theorem DskAt.clear {w : World} {B : Nat} {O : Nat → Prop} {sd bm m : Nat} {rv : Value} {s : Disk.S} (h : DskAt w B O sd bm m rv s) : DskAt (w.setCell ⟨sd, 1, none⟩ (.slice none 0 0)) B O sd bm m (.slice none 0 0) ⟨s.l, [], s.left⟩ ∧ w.grownBy (w.setCell ⟨sd, 1, none⟩ (.slice none 0 0)) (some sd) := by
  have hg := setCell_grows w ⟨sd, 1, none⟩ (.slice none 0 0)
  have hne := h.d.ne
  refine ⟨⟨⟨?_, World.cell?_setCell_same' _ _ _ (by rw [h.d.c1]; rfl), ?_, fun j => by rw [World.frozen?_setCell]; exact h.d.fr j, h.d.things.kept hg (fun e => hne (Option.some.inj e).symm), h.d.sdb, h.d.bmb⟩, World.ownsRow_nil _ _ _ _, by simp [Value.ownBlock], by simp [Value.ownBlock], h.os, h.ob, fun g hg => (by cases hg), fun k hk => ⟨(h.lim k hk).1, by simpa [World.setCell] using (h.lim k hk).2⟩⟩, hg⟩
  · rw [World.cell?_setCell_other _ _ _ _ (by simp)]; exact h.d.c0
  · rw [World.cell?_setCell_other _ _ _ _ (by simp)]; exact h.d.c2
theorem clear_disk {w : World} {B : Nat} {O : Nat → Prop} {sd n : Nat} {s : Disk.S} (h : Dsk w B O sd n s) :
    Calls Tryz.prog 28 #[.pointer (some ⟨sd, 0, none⟩)] w fun e w' => e = .returned (.tuple #[]) ∧ DskNow w w' B O sd n ⟨s.l, [], s.left⟩ := by
  obtain ⟨bm, m, rv, ⟨hm, hr, hl, hok⟩, h⟩ := h
  have H := Lib.hid h.clear
  have HO := Lib.hid h.os
  have HOK := Lib.hid hok
  have d1 := h.d.c1
  have d3 := h.d.fr 1
  obtain ⟨a1, c1, rfl⟩ := own_form h.row
  clear h hok
  go_enter Tryz.func28, Tryz.ntmps28
  go_wp2
  go_returns
  exact ⟨rfl, ⟨O, ⟨bm, m, _, ⟨hm, by simp, hl, HOK.out⟩, H.out.1⟩, fun k h => Or.inl h⟩, Keeps.of_grown H.out.2 (fun k e => by rw [← Option.some.inj e]; exact HO.out)⟩
set_option maxHeartbeats 4000000 in
set_option maxRecDepth 100000 in
theorem rread_any {w : World} {B : Nat} {O : Nat → Prop} {rd : Nat} {lv rv : Value} {s : Disk.S} (h : RskAt w B O rd lv rv s) (hn : s.l.length ≤ 4398046511104) (p : List UInt8) (hp : p.length ≤ 4398046511104) :
    Calls Tryz.prog 36 #[.pointer (some ⟨rd, 0, none⟩), .string (bs p)] w fun e w' => e = .returned (.tuple #[.string (bs (Disk.readR s.l p).1), .int .i64 (Disk.readR s.l p).2]) ∧ ∃ m, w' = w.drewN m := by
  have e1 := str_eq_lit (bs p) [47]
  rw [bs_list] at e1
  have HB := Lib.hid (rpathD_any (bs p) (by show p.toArray.size ≤ _; simp; omega) w)
  rw [bs_list] at HB
  have HKI := Lib.hid (h.kind hn p)
  have HK1 : Hid (Disk.kind s.l p ≠ 0 → Disk.kind s.l p ≠ 2 → ∃ (k : Nat) (t : List UInt8), s.l[k]? = some (p, (⟨false, t⟩ : Disk.T)) ∧ SM.look s.l p = some ⟨false, t⟩) := Lib.hid kind_one
  obtain ⟨kk, hkk⟩ : ∃ k, k = Disk.kind s.l p := ⟨_, rfl⟩
  have HR : Hid (Disk.readR s.l p = if p ≠ [47] ∧ Disk.pathOk p = false then ([], 10) else if kk = 0 then ([], 12) else if kk = 2 then ([], 13) else (((SM.look s.l p).getD zeroT).data, 0)) := Lib.hid (by rw [hkk]; rfl)
  rw [← hkk] at HKI HK1
  have H := Lib.hid h
  clear h hkk
  obtain ⟨ok, hok⟩ : ∃ b, b = Disk.pathOk p := ⟨_, rfl⟩
  rw [← hok] at HB HR
  obtain ⟨rt, hrt⟩ : ∃ b, b = decide (p = [47]) := ⟨_, rfl⟩
  rw [← hrt] at e1
  have CS : (ok = false ∧ rt = false ∧ Disk.readR s.l p = ([], 10)) ∨ ((ok = true ∨ rt = true) ∧ Disk.readR s.l p = if kk = 0 then ([], 12) else if kk = 2 then ([], 13) else (((SM.look s.l p).getD zeroT).data, 0)) := by
    by_cases h47 : p = [47]
    · refine Or.inr ⟨Or.inr (by rw [hrt]; exact decide_eq_true h47), by rw [HR.out, if_neg (by rintro ⟨h, _⟩; exact h h47)]⟩
    · cases ok
      · exact Or.inl ⟨rfl, by rw [hrt]; exact decide_eq_false h47, by rw [HR.out, if_pos ⟨h47, rfl⟩]⟩
      · exact Or.inr ⟨Or.inl rfl, by rw [HR.out, if_neg (by simp)]⟩
  clear hok hrt
  rcases CS with ⟨rfl, rfl, hres⟩ | ⟨hor, hres⟩
  · have HF := Lib.hid hres
    clear hres
    go_enter Tryz.func36, Tryz.ntmps36
    go_wp2_with fail
    refine HB.out.mono ?_
    rintro e w1 ⟨rfl, rfl⟩
    go_wp2
    go_returns
    exact ⟨by rw [HF.out] <;> rfl, 0, rfl⟩
  have HRES := Lib.hid hres
  clear hres
  -- the gate stands open: both of the check's ways
  by_cases h0 : kk = 0
  · have HF : Hid (Disk.readR s.l p = ([], 12)) := Lib.hid (by rw [HRES.out, if_pos h0])
    have q0 : (kk == 0) = true := beq_iff_eq.2 h0
    clear h0
    cases ok
    · obtain rfl : rt = true := hor.resolve_left (by simp)
      clear hor
      go_enter Tryz.func36, Tryz.ntmps36
      go_wp2_with fail
      refine HB.out.mono ?_
      rintro e w1 ⟨rfl, rfl⟩
      go_wp2_with fail
      refine HKI.out.mono ?_
      rintro e w2 ⟨rfl, rfl⟩
      go_wp2
      go_returns
      exact ⟨by rw [HF.out] <;> rfl, 0, rfl⟩
    · clear hor
      go_enter Tryz.func36, Tryz.ntmps36
      go_wp2_with fail
      refine HB.out.mono ?_
      rintro e w1 ⟨rfl, rfl⟩
      go_wp2_with fail
      refine HKI.out.mono ?_
      rintro e w2 ⟨rfl, rfl⟩
      go_wp2
      go_returns
      exact ⟨by rw [HF.out] <;> rfl, 0, rfl⟩
  have q0 : (kk == 0) = false := beq_eq_false_iff_ne.2 h0
  by_cases h2 : kk = 2
  · have HF : Hid (Disk.readR s.l p = ([], 13)) := Lib.hid (by rw [HRES.out, if_neg h0, if_pos h2])
    have q2 : (kk == 2) = true := beq_iff_eq.2 h2
    clear h0 h2
    cases ok
    · obtain rfl : rt = true := hor.resolve_left (by simp)
      clear hor
      go_enter Tryz.func36, Tryz.ntmps36
      go_wp2_with fail
      refine HB.out.mono ?_
      rintro e w1 ⟨rfl, rfl⟩
      go_wp2_with fail
      refine HKI.out.mono ?_
      rintro e w2 ⟨rfl, rfl⟩
      go_wp2
      go_returns
      exact ⟨by rw [HF.out] <;> rfl, 0, rfl⟩
    · clear hor
      go_enter Tryz.func36, Tryz.ntmps36
      go_wp2_with fail
      refine HB.out.mono ?_
      rintro e w1 ⟨rfl, rfl⟩
      go_wp2_with fail
      refine HKI.out.mono ?_
      rintro e w2 ⟨rfl, rfl⟩
      go_wp2
      go_returns
      exact ⟨by rw [HF.out] <;> rfl, 0, rfl⟩
  have q2 : (kk == 2) = false := beq_eq_false_iff_ne.2 h2
  obtain ⟨kx, xt, hkx, hlk⟩ := HK1.out h0 h2
  have HF : Hid (Disk.readR s.l p = (xt, 0)) := Lib.hid (by rw [HRES.out, if_neg h0, if_neg h2, hlk]; rfl)
  have c0 := H.out.r.c0
  have HFI := Lib.hid H.out.r.row.files
  obtain ⟨av, cv, rfl⟩ := own_form H.out.r.row
  obtain ⟨N, hN⟩ : ∃ N, N = (fls s.l).length := ⟨_, rfl⟩
  have hkN : kx < N := by
    have := (List.getElem?_eq_some_iff.1 hkx).1
    rw [hN, fls_length]
    exact this
  have hfx : (fls s.l)[kx]? = some ⟨p, false, xt⟩ := by
    unfold fls
    rw [List.getElem?_map, hkx]
    rfl
  obtain ⟨bk, o, cap, hve, hbB, hbc⟩ := HFI.out.at (by omega)
  rw [← hN] at hve c0
  have HN := Lib.hid hN
  have HKX := Lib.hid hkx
  cases hve
  obtain ⟨e1', e2, e3⟩ := hbc kx _ hfx
  dsimp only at e1' e2 e3
  have hrdl := H.out.r.rdl
  have HFIND : Hid (∀ W, Below w.heap.size w W → Calls Tryz.prog 59 #[.pointer (some ⟨rd, 0, none⟩), .string (bs p)] W fun e w' => e = .returned (.int .i64 kx) ∧ ∃ m, w' = W.drewN m) := Lib.hid (fun W hW => (find_at (by rw [hW.cell (p := ⟨rd, 0, none⟩) hrdl]; exact H.out.r.c0) (HFI.out.below hW (Nat.le_refl _)) H.out.r.rises hn HKX.out).mono fun e w' ⟨h1, h2⟩ => ⟨h1, 0, h2⟩)
  have hkI : (kx : Int) < (N : Int) := by omega
  have hk0 : (0 : Int) ≤ (kx : Int) := by omega
  clear h0 h2 hkx hlk hbc hfx hN e1'
  cases ok
  · obtain rfl : rt = true := hor.resolve_left (by simp)
    clear hor
    go_enter Tryz.func36, Tryz.ntmps36
    go_wp2_with fail
    refine HB.out.mono ?_
    rintro e w1 ⟨rfl, rfl⟩
    go_wp2_with fail
    refine HKI.out.mono ?_
    rintro e w2 ⟨rfl, rfl⟩
    go_wp2
    go_big_quiet ((go_at_call 59; exact Calls.quiet_of (HFIND.out _ (bdrew (Below.refl _ _) _))))
    go_wp2
    go_returns
    exact ⟨by rw [HF.out] <;> rfl, _, rfl⟩
  · clear hor
    go_enter Tryz.func36, Tryz.ntmps36
    go_wp2_with fail
    refine HB.out.mono ?_
    rintro e w1 ⟨rfl, rfl⟩
    go_wp2_with fail
    refine HKI.out.mono ?_
    rintro e w2 ⟨rfl, rfl⟩
    go_wp2
    go_big_quiet ((go_at_call 59; exact Calls.quiet_of (HFIND.out _ (bdrew (Below.refl _ _) _))))
    go_wp2
    go_returns
    exact ⟨by rw [HF.out] <;> rfl, _, rfl⟩
end Go.Proofs.YtnfklomokjhojaaGreatDoor
