/- The document's disk: Rename: the walk. -/
import Derived.Test.YtnfklomokjhojaaGreatDoorRk2
import Derived.Deep.RegionHeld3
namespace Go.Proofs.YtnfklomokjhojaaGreatDoor
open Go.RowKit Go.Maps
set_option linter.unusedSimpArgs false
set_option linter.unusedVariables false
theorem idx_unique {l : Disk.M} (h : SM.Rises l) {i j : Nat} {p : List UInt8} {t u : Disk.T} (hi : l[i]? = some (p, t)) (hj : l[j]? = some (p, u)) : i = j := by
  obtain ⟨h1, e1⟩ := List.getElem?_eq_some_iff.1 hi
  obtain ⟨h2, e2⟩ := List.getElem?_eq_some_iff.1 hj
  have hp := List.pairwise_iff_getElem.1 h
  rcases Nat.lt_trichotomy i j with hh | hh | hh
  · have := hp i j h1 h2 hh
    rw [e1, e2, WideAt.bytes_irrefl] at this
    exact absurd this (by simp)
  · exact hh
  · have := hp j i h2 h1 hh
    rw [e1, e2, WideAt.bytes_irrefl] at this
    exact absurd this (by simp)
/-- Where it is. -/
theorem find_at {w : World} {rd B : Nat} {lv : Value} {l : Disk.M} (c0 : w.cell? ⟨rd, 0, none⟩ = some lv) (hf : Files w B lv (fls l)) (hr : SM.Rises l) (hn : l.length ≤ 4398046511104) {p : List UInt8} {k : Nat} {t : Disk.T} (hk : l[k]? = some (p, t)) :
    Calls Tryz.prog 59 #[.pointer (some ⟨rd, 0, none⟩), .string (bs p)] w fun e w' => e = .returned (.int .i64 k) ∧ w' = w := by
  refine (find_any c0 hf hr hn (bs p)).mono ?_
  rintro e w' ⟨⟨i, rfl, hfd⟩, rfl⟩
  rw [bs_list] at hfd
  have hlk := SM.look_mem hr (List.mem_of_getElem? hk)
  dsimp only at hlk
  rcases hfd with ⟨h1, _⟩ | ⟨k', t', rfl, h2, _⟩
  · rw [hlk] at h1; exact absurd h1 (by simp)
  · rw [idx_unique hr h2 hk]
    exact ⟨rfl, rfl⟩
theorem kind_one {l : Disk.M} {p : List UInt8} (h0 : Disk.kind l p ≠ 0) (h2 : Disk.kind l p ≠ 2) : ∃ (k : Nat) (t : List UInt8), l[k]? = some (p, (⟨false, t⟩ : Disk.T)) ∧ SM.look l p = some ⟨false, t⟩ := by
  unfold Disk.kind at h0 h2
  by_cases hp : p = [47]
  · rw [if_pos hp] at h2; exact absurd rfl h2
  · rw [if_neg hp] at h0 h2
    cases hl : SM.look l p with
    | none => rw [hl] at h0; exact absurd rfl h0
    | some t =>
      rw [hl] at h2
      obtain ⟨d, t⟩ := t
      cases d
      · obtain ⟨k, hk, e⟩ := List.mem_iff_getElem.1 (SM.look_some hl)
        exact ⟨k, t, by rw [List.getElem?_eq_getElem hk, e], rfl⟩
      · exact absurd rfl h2
set_option maxHeartbeats 16000000 in
set_option maxRecDepth 100000 in
theorem rrename_any {w : World} {B : Nat} {O : Nat → Prop} {rd n : Nat} {s : Disk.S} (h : Rsk w B O rd n s) (hn : n ≤ 1099511627776) (p q : List UInt8) (hp : p.length ≤ 4398046511104) (hq : q.length ≤ 4398046511104) :
    Calls Tryz.prog 51 #[.pointer (some ⟨rd, 0, none⟩), .string (bs p), .string (bs q)] w (RAskPost w B O rd n (s.rename p q)) := by
  have H0 := Lib.hid h
  obtain ⟨lv, rv, hfit, h⟩ := h
  have HFIT := Lib.hid hfit
  have H := Lib.hid h
  have hll : s.l.length ≤ 4398046511104 := by have := hfit.1; omega
  have HMAY := Lib.hid (rmay_any h.r.c2 p hp)
  have HMAY2 := Lib.hid (rmay_any h.r.c2 q hq)
  have HNO : Hid (∀ k, s.rename p q = (k, s) → RAskPost w B O rd n (s.rename p q) (.returned (.int .i64 k)) w) := Lib.hid (fun k h2 => by
    rw [h2]
    exact ⟨rfl, (RskNow.of_below H0.out (Below.refl _ _)).more (Nat.le_succ _)⟩)
  have HC1 : Hid (s.rename p q = s.ask (Disk.renameC s.l p q) ⟨3, p, q⟩) := Lib.hid rfl
  have HCC0 : Hid (Disk.renameC s.l p q = if !Disk.pathOk p then (10, s.l) else if !Disk.pathOk q then (10, s.l) else if Disk.kind s.l p = 0 then (12, s.l) else if Disk.kind s.l p = 2 then (13, s.l) else
    if Disk.homeE s.l q ≠ 0 then (Disk.homeE s.l q, s.l) else if Disk.kind s.l q = 2 then (13, s.l) else (0, SM.put (SM.del s.l p) q ((SM.look s.l p).getD ⟨false, []⟩))) := Lib.hid rfl
  obtain ⟨c, hc⟩ : ∃ c, c = Disk.renameC s.l p q := ⟨_, rfl⟩
  rw [← hc] at HC1 HCC0
  have HOKC : Hid (∀ x ∈ c.2, Disk.pathOk x.1 = true) := Lib.hid (by rw [hc]; exact Disk.renameC_ok HFIT.out.2.2.2 p q)
  clear hc
  obtain ⟨R, hR⟩ : ∃ R, R = s.rename p q := ⟨_, rfl⟩
  rw [← hR] at HC1 HNO ⊢
  clear h hfit hR
  go_enter Tryz.func51, Tryz.ntmps51
  go_wp2_with fail
  refine HMAY.out.mono ?_
  rintro e w1 ⟨rfl, rfl⟩
  obtain ⟨k1, hk1⟩ : ∃ k, k = Disk.mayE s p := ⟨_, rfl⟩
  have HK1 := Lib.hid hk1
  rw [← hk1]
  clear hk1
  by_cases h1 : k1 = 0
  rotate_left 1
  · have q1 : (k1 != 0) = true := bne_iff_ne.2 h1
    have HF := Lib.hid (HNO.out k1 (by
      rw [HC1.out, Disk.ask_may (p := p) (by rw [← HK1.out]; exact h1) (fun h => by rw [HCC0.out, h]; rfl), ← HK1.out]))
    clear h1
    go_wp2
    go_returns
    exact HF.out
  subst h1
  have hlp := Disk.may_ok HK1.out.symm
  have HLF := Lib.hid hlp.1
  have HCC1 : Hid (c = if !Disk.pathOk q then (10, s.l) else if Disk.kind s.l p = 0 then (12, s.l) else if Disk.kind s.l p = 2 then (13, s.l) else
    if Disk.homeE s.l q ≠ 0 then (Disk.homeE s.l q, s.l) else if Disk.kind s.l q = 2 then (13, s.l) else (0, SM.put (SM.del s.l p) q ((SM.look s.l p).getD ⟨false, []⟩))) := Lib.hid (by rw [HCC0.out, hlp.2]; rfl)
  clear hlp
  go_wp2_with fail
  refine HMAY2.out.mono ?_
  rintro e w2 ⟨rfl, rfl⟩
  obtain ⟨w1, rfl⟩ : ∃ x, x = w2 := ⟨w2, rfl⟩
  obtain ⟨k2, hk2⟩ : ∃ k, k = Disk.mayE s q := ⟨_, rfl⟩
  have HK2 := Lib.hid hk2
  rw [← hk2]
  clear hk2
  by_cases h1 : k2 = 0
  rotate_left 1
  · have q1 : (k2 != 0) = true := bne_iff_ne.2 h1
    have HF := Lib.hid (HNO.out k2 (by
      rw [HC1.out, Disk.ask_may (p := q) (by rw [← HK2.out]; exact h1) (fun h => by rw [HCC1.out, h]; rfl), ← HK2.out]))
    clear h1
    go_wp2
    go_returns
    exact HF.out
  subst h1
  have hlp := Disk.may_ok HK2.out.symm
  have HCC2 : Hid (c = if Disk.kind s.l p = 0 then (12, s.l) else if Disk.kind s.l p = 2 then (13, s.l) else
    if Disk.homeE s.l q ≠ 0 then (Disk.homeE s.l q, s.l) else if Disk.kind s.l q = 2 then (13, s.l) else (0, SM.put (SM.del s.l p) q ((SM.look s.l p).getD ⟨false, []⟩))) := Lib.hid (by rw [HCC1.out, hlp.2]; rfl)
  clear hlp
  have HNC : Hid (∀ k, c = (k, s.l) → k ≠ 0 → RAskPost w1 B O rd n R (.returned (.int .i64 k)) w1) := Lib.hid (fun k h2 h3 => HNO.out k (by
    rw [HC1.out, Disk.ask_no HLF.out (by rw [h2]; exact h3), h2]))
  have HKIND := Lib.hid (H.out.kind hll p)
  go_wp2_with fail
  refine HKIND.out.mono ?_
  rintro e w5 ⟨rfl, rfl⟩
  obtain ⟨w1, rfl⟩ : ∃ x, x = w5 := ⟨w5, rfl⟩
  have HK1' : Hid (Disk.kind s.l p ≠ 0 → Disk.kind s.l p ≠ 2 → ∃ (k : Nat) (t : List UInt8), s.l[k]? = some (p, (⟨false, t⟩ : Disk.T)) ∧ SM.look s.l p = some ⟨false, t⟩) := Lib.hid kind_one
  obtain ⟨k3, hk3⟩ : ∃ k, k = Disk.kind s.l p := ⟨_, rfl⟩
  rw [← hk3] at HCC2 HK1' ⊢
  clear hk3
  by_cases h1 : k3 = 0
  · have HF := Lib.hid (HNC.out 12 (by rw [HCC2.out, if_pos h1]) (by decide))
    have q1 : (k3 == 0) = true := beq_iff_eq.2 h1
    clear h1
    go_wp2
    go_returns
    exact HF.out
  by_cases h2 : k3 = 2
  · have HF := Lib.hid (HNC.out 13 (by rw [HCC2.out, if_neg h1, if_pos h2]) (by decide))
    have q1 : (k3 == 0) = false := beq_eq_false_iff_ne.2 h1
    have q2 : (k3 == 2) = true := beq_iff_eq.2 h2
    clear h1 h2
    go_wp2
    go_returns
    exact HF.out
  have HCC3 : Hid (c = if Disk.homeE s.l q ≠ 0 then (Disk.homeE s.l q, s.l) else if Disk.kind s.l q = 2 then (13, s.l) else (0, SM.put (SM.del s.l p) q ((SM.look s.l p).getD ⟨false, []⟩))) := Lib.hid (by rw [HCC2.out, if_neg h1, if_neg h2])
  have q1 : (k3 == 0) = false := beq_eq_false_iff_ne.2 h1
  have q2 : (k3 == 2) = false := beq_eq_false_iff_ne.2 h2
  obtain ⟨kx, xt, hkx, hlk⟩ := HK1'.out h1 h2
  have HKX := Lib.hid hkx
  have HLK := Lib.hid hlk
  clear h1 h2 hkx hlk
  have HHOME := Lib.hid (H.out.home hll q hq)
  go_wp2_with fail
  refine HHOME.out.mono ?_
  rintro e w4 ⟨rfl, rfl⟩
  obtain ⟨w1, rfl⟩ : ∃ x, x = w4 := ⟨w4, rfl⟩
  clear q1 q2
  obtain ⟨k4, hk4⟩ : ∃ k, k = Disk.homeE s.l q := ⟨_, rfl⟩
  rw [← hk4] at HCC3 ⊢
  clear hk4
  by_cases h1 : k4 = 0
  rotate_left 1
  · have HF := Lib.hid (HNC.out k4 (by rw [HCC3.out, if_pos h1]) h1)
    have q1 : (k4 != 0) = true := bne_iff_ne.2 h1
    clear h1
    go_wp2
    go_returns
    exact HF.out
  subst h1
  have HCC4 : Hid (c = if Disk.kind s.l q = 2 then (13, s.l) else (0, SM.put (SM.del s.l p) q ((SM.look s.l p).getD ⟨false, []⟩))) := Lib.hid (by rw [HCC3.out, if_neg (by simp)])
  have HKIND2 := Lib.hid (H.out.kind hll q)
  go_wp2_with fail
  refine HKIND2.out.mono ?_
  rintro e w6 ⟨rfl, rfl⟩
  obtain ⟨w1, rfl⟩ : ∃ x, x = w6 := ⟨w6, rfl⟩
  obtain ⟨k5, hk5⟩ : ∃ k, k = Disk.kind s.l q := ⟨_, rfl⟩
  rw [← hk5] at HCC4 ⊢
  clear hk5
  by_cases h1 : k5 = 2
  · have HF := Lib.hid (HNC.out 13 (by rw [HCC4.out, if_pos h1]) (by decide))
    have q1 : (k5 == 2) = true := beq_iff_eq.2 h1
    clear h1
    go_wp2
    go_returns
    exact HF.out
  have q1 : (k5 == 2) = false := beq_eq_false_iff_ne.2 h1
  have HC3 : Hid (c = (0, SM.put (SM.del s.l p) q ⟨false, xt⟩)) := Lib.hid (by rw [HCC4.out, if_neg h1, HLK.out]; rfl)
  have HF : Hid (R = (0, s.did c.2 ⟨3, p, q⟩)) := Lib.hid (by rw [HC1.out, Disk.ask_yes HLF.out (by rw [HC3.out])])
  clear h1
  have c0 := H.out.r.c0
  have HFI := Lib.hid H.out.r.row.files
  obtain ⟨av, cv, rfl⟩ := own_form H.out.r.row
  obtain ⟨N, hN⟩ : ∃ N, N = (fls s.l).length := ⟨_, rfl⟩
  have HNL : Hid (N = s.l.length) := Lib.hid (by rw [hN, fls_length])
  have hkN : kx < N := by
    have := (List.getElem?_eq_some_iff.1 HKX.out).1
    have := HNL.out
    omega
  have hfx : (fls s.l)[kx]? = some ⟨p, false, xt⟩ := by
    unfold fls
    rw [List.getElem?_map, HKX.out]
    rfl
  obtain ⟨bk, o, cap, hve, hbB, hbc⟩ := HFI.out.at (by omega)
  rw [← hN] at hve c0
  have HN := Lib.hid hN
  cases hve
  obtain ⟨e1, e2, e3⟩ := hbc kx _ hfx
  dsimp only at e1 e2 e3
  have hrdl := H.out.r.rdl
  have HSS : Hid (∀ W, Below w1.heap.size w1 W → W.cell? ⟨rd, 0, none⟩ = some (.slice (some ⟨bk, o, none⟩) N cv) ∧ W.cell? ⟨bk, o + kx * 3, none⟩ = some (.string (bs p)) ∧ W.cell? ⟨bk, o + kx * 3 + 1, none⟩ = some (.bool false) ∧ W.cell? ⟨bk, o + kx * 3 + 2, none⟩ = some (.string (bs xt))) := Lib.hid (fun W hW =>
    ⟨(hW.cell (p := ⟨rd, 0, none⟩) hrdl).trans c0, (hW.cell (p := ⟨bk, o + kx * 3, none⟩) hbB).trans e1, (hW.cell (p := ⟨bk, o + kx * 3 + 1, none⟩) hbB).trans e2, (hW.cell (p := ⟨bk, o + kx * 3 + 2, none⟩) hbB).trans e3⟩)
  have HFIND : Hid (∀ W, Below w1.heap.size w1 W → Calls Tryz.prog 59 #[.pointer (some ⟨rd, 0, none⟩), .string (bs p)] W fun e w' => e = .returned (.int .i64 kx) ∧ w' = W) := Lib.hid (fun W hW => find_at (by rw [hW.cell (p := ⟨rd, 0, none⟩) hrdl]; exact H.out.r.c0) (HFI.out.below hW (Nat.le_refl _)) H.out.r.rises hll HKX.out)
  have hkI : (kx : Int) < (N : Int) := by omega
  have hk0 : (0 : Int) ≤ (kx : Int) := by omega
  have HBD : Hid (Below w1.heap.size w1 w1.drew) := Lib.hid (Below.refl _ _).drew
  have HBA : Hid (∀ ob, Below w1.heap.size w1 (w1.drew.alloc ob)) := Lib.hid (fun ob => (Below.refl _ _).drew.alloc (Nat.le_refl _) ob)
  clear hbc hfx hN
  go_wp2
  go_region_held3 (fun w' => w'.cell? ⟨rd, 0, none⟩ = some (.slice (some ⟨bk, o, none⟩) N cv) ∧ w'.cell? ⟨bk, o + kx * 3, none⟩ = some (.string (bs p)) ∧ w'.cell? ⟨bk, o + kx * 3 + 1, none⟩ = some (.bool false) ∧ w'.cell? ⟨bk, o + kx * 3 + 2, none⟩ = some (.string (bs xt))) (first | exact HSS.out _ HBD.out | exact HSS.out _ (HBA.out _)) (first
    | (go_at_call 59; refine (HFIND.out w1.drew HBD.out).mono ?_; rintro e w7 ⟨rfl, rfl⟩)
    | (go_at_call 59; refine (HFIND.out _ (HBA.out (.cells #[.string ⟨#[]⟩, .bool false, .string ⟨#[]⟩] 42))).mono ?_; rintro e w7 ⟨rfl, rfl⟩))
  all_goals
    obtain ⟨W2, hW2⟩ : ∃ x, x = (w1.alloc (.cells #[.string (bs p), .bool false, .string (bs xt)] 42)).drew := ⟨_, rfl⟩
    rw [← hW2]
    have hB2 : Below w1.heap.size w1 W2 := by rw [hW2]; exact ((Below.refl _ _).alloc (Nat.le_refl _) _).drew
    have g0 : W2.cell? ⟨w1.heap.size, 0, none⟩ = some (.string (bs p)) := by rw [hW2]; show (w1.alloc _).cell? _ = _; rw [World.cell?_alloc_new]; rfl
    have g1 : W2.cell? ⟨w1.heap.size, 1, none⟩ = some (.bool false) := by rw [hW2]; show (w1.alloc _).cell? _ = _; rw [World.cell?_alloc_new]; rfl
    have g2 : W2.cell? ⟨w1.heap.size, 2, none⟩ = some (.string (bs xt)) := by rw [hW2]; show (w1.alloc _).cell? _ = _; rw [World.cell?_alloc_new]; rfl
    have gf : W2.frozen? ⟨w1.heap.size, 0, none⟩ = false := by rw [hW2]; show (w1.alloc _).frozen? _ = _; simp
    have gs : W2.heap.size = w1.heap.size + 1 := by rw [hW2]; show (w1.alloc _).heap.size = _; simp
    have HB2 := Lib.hid hB2
    have H2 := Lib.hid (H.out.below hB2)
    have HPUT := Lib.hid (put_any H2.out.r ⟨p, false, xt⟩ true (by have := HFIT.out.1; omega))
    clear hW2 hB2 c0 e1 e2 e3 hkI hk0 q1
    go_wp2_with fail
    refine HPUT.out.mono ?_
    rintro e w6 ⟨rfl, ⟨lv6, hr6, hf6⟩, hg6⟩
    have HA6 := Lib.hid (H2.out.put hg6 hr6 hf6)
    have HG6 := Lib.hid hg6
    have hxb := hg6.block w1.heap.size (by omega) (fun e => by have := Option.some.inj e; omega)
    have k0 := (World.cell?_of_block (a := ⟨w1.heap.size, 0, none⟩) hxb).trans g0
    have k1 := (World.cell?_of_block (a := ⟨w1.heap.size, 1, none⟩) hxb).trans g1
    have k2 := (World.cell?_of_block (a := ⟨w1.heap.size, 2, none⟩) hxb).trans g2
    have kf := (World.frozen?_of_block (a := ⟨w1.heap.size, 0, none⟩) hxb).trans gf
    have hz6 := hg6.size
    obtain ⟨W7, hW7⟩ : ∃ x, x = w6.setCell ⟨w1.heap.size, 0, none⟩ (.string (bs q)) := ⟨_, rfl⟩
    have m0 : W7.cell? ⟨w1.heap.size, 0, none⟩ = some (.string (bs q)) := by rw [hW7]; exact World.cell?_setCell_same' _ _ _ (by rw [k0]; rfl)
    have m1 : W7.cell? ⟨w1.heap.size, 1, none⟩ = some (.bool false) := by rw [hW7, World.cell?_setCell_other _ _ _ _ (by simp)]; exact k1
    have m2 : W7.cell? ⟨w1.heap.size, 2, none⟩ = some (.string (bs xt)) := by rw [hW7, World.cell?_setCell_other _ _ _ _ (by simp)]; exact k2
    have hg7 : w6.grownBy W7 (some w1.heap.size) := by rw [hW7]; exact setCell_grows _ _ _
    have HG7 := Lib.hid hg7
    have HA7 := Lib.hid (HA6.out.keeps (Keeps.of_grown (O := fun k => k = w1.heap.size) hg7 (fun k e => (Option.some.inj e).symm)) (fun k hk e => by
      rcases hk with hk | hk
      · have := (H.out.lim k hk).2; omega
      · omega))
    have HPUT2 := Lib.hid (put_any HA7.out.r ⟨q, false, xt⟩ false (by show (SM.del s.l p).length ≤ _; have := SM.length_del_le s.l p; have := HFIT.out.1; exact Nat.le_trans ‹_› (by omega)))
    have hz7 := hg7.size
    clear hr6 hf6 hg6 hxb g0 g1 g2 gf hg7
    go_wp2_with fail
    rw [← hW7]
    refine HPUT2.out.mono ?_
    rintro e w8 ⟨rfl, ⟨lv8, hr8, hf8⟩, hg8⟩
    have HA8 := Lib.hid (HA7.out.put hg8 hr8 hf8)
    have HK8 : Hid (Keeps O w1 w8) := Lib.hid ((((Keeps.of_below HB2.out).then_grown HG6.out (fun k e => Or.inl (by rw [← Option.some.inj e]; exact H.out.os))).then_grown HG7.out (fun k e => Or.inr (by have := Option.some.inj e; omega))).then_grown hg8 (fun k e => Or.inl (by rw [← Option.some.inj e]; exact H.out.os)))
    have HO8 : Hid (∀ k, ((O k ∨ W2.heap.size ≤ k ∧ k < w6.heap.size) ∨ W7.heap.size ≤ k ∧ k < w8.heap.size) → O k ∨ w1.heap.size ≤ k) := Lib.hid (fun k hk => by
      rcases hk with (hk | hk) | hk
      · exact Or.inl hk
      · exact Or.inr (by omega)
      · exact Or.inr (by omega))
    have HN7 := Lib.hid (noted_any HA8.out (by show s.raws.length ≤ _; have := HFIT.out.2.1; omega) (by show s.left ≤ _; exact HFIT.out.2.2.1) 3 p q)
    clear hr8 hf8 hg8 hW7 k0 k1 k2 kf m0 m1 m2
    go_wp2_with fail
    refine HN7.out.mono ?_
    rintro e w9 ⟨rfl, hn9⟩
    have HN9 := Lib.hid hn9
    clear hn9
    go_wp2
    go_returns
    have hfit' : RskFit (n + 1) (s.did c.2 ⟨3, p, q⟩) := ⟨by
      show c.2.length ≤ _
      rw [HC3.out]
      have h1 := SM.length_put_le (SM.del s.l p) q (⟨false, xt⟩ : Disk.T)
      have h2 := SM.length_del_le s.l p
      have h3 := HFIT.out.1
      exact Nat.le_trans h1 (by omega), by show (s.raws ++ [_]).length ≤ _; rw [List.length_append, List.length_singleton]; have := HFIT.out.2.1; omega, off_le _ HFIT.out.2.2.1, HOKC.out⟩
    refine ⟨by rw [HF.out] <;> rfl, ?_⟩
    rw [HF.out]
    exact RskNow.noted HK8.out HO8.out (by rw [HC3.out]; exact HN9.out) hfit'
end Go.Proofs.YtnfklomokjhojaaGreatDoor
