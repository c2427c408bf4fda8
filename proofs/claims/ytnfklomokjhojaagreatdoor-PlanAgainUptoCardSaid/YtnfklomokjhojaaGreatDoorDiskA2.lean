/- A disk's raw writes: the walks. -/
import Derived.Test.YtnfklomokjhojaaGreatDoorDiskA1
namespace Go.Proofs.YtnfklomokjhojaaGreatDoor
open Go.RowKit Go.Maps
set_option linter.unusedSimpArgs false
set_option linter.unusedVariables false
/-- What done leaves. -/
structure DonePost (w w' : World) (B : Nat) (O : Nat → Prop) (sd bm m : Nat) (s : Disk.S) : Prop where
  now : ∃ O' rv', DskAt w' B O' sd bm m rv' s ∧ ∀ j, O' j → O j ∨ w.heap.size ≤ j
  keeps : Keeps O w w'
/-- The row that grew is written back, and one fewer is left. -/
theorem DonePost.make {w wr : World} {B : Nat} {O : Nat → Prop} {sd bm m : Nat} {rv v : Value} {s : Disk.S} {r : Disk.Rw} {o : Obj} (h : DskAt w B O sd bm m rv s) (hg : (w.alloc o).grownBy wr rv.ownBlock)
    (hv : wr.ownsRow B 49 3 v (s.raws.length + 1) (s.raws.flatMap rwCells ++ rwCells r)) (hloc : v.ownBlock = rv.ownBlock ∨ v.ownBlock = some (w.alloc o).heap.size) :
    (∃ O', DskAt (wr.setCell ⟨sd, 1, none⟩ v) B O' sd bm m v ⟨s.l, s.raws ++ [r], s.left⟩ ∧ ∀ j, O' j → O j ∨ w.heap.size ≤ j) ∧ Keeps O w (wr.setCell ⟨sd, 1, none⟩ v) ∧
    wr.cell? ⟨sd, 1, none⟩ = some rv ∧ wr.frozen? ⟨sd, 1, none⟩ = false ∧ (wr.setCell ⟨sd, 1, none⟩ v).cell? ⟨sd, 2, none⟩ = some (.int .i64 s.left) ∧ (wr.setCell ⟨sd, 1, none⟩ v).frozen? ⟨sd, 2, none⟩ = false := by
  have hb : Below w.heap.size w (w.alloc o) := (Below.refl _ w).alloc (Nat.le_refl _) o
  have h2 := h.below hb
  have hs := (h2.setRaws hg (RwRow.snoc hv rfl) (fun g e => by
    rcases hloc with e2 | e2
    · exact Or.inl (e2 ▸ e)
    · rw [e2] at e; injection e with e; exact Or.inr (by omega)))
  have hz : w.heap.size ≤ (w.alloc o).heap.size := hb.size
  have d2 := h2.d.kept hg (fun e => h2.ns e.symm) (fun e => h2.nb e.symm)
  refine ⟨⟨_, hs.1, fun j hj => hj.imp id (fun hj => by omega)⟩, (Keeps.of_below hb).trans hs.2 (fun k hk => Or.inl hk), d2.c1, d2.fr 1, hs.1.d.c2, hs.1.d.fr 2⟩
set_option maxHeartbeats 2000000 in
set_option maxRecDepth 100000 in
theorem done_any {w : World} {B : Nat} {O : Nat → Prop} {sd bm m : Nat} {rv : Value} {s : Disk.S} (h : DskAt w B O sd bm m rv s) (hr : s.raws.length ≤ 1099511627776) (hl : s.left ≤ 9223372036854775807) (k : Int) (p q : List UInt8) :
    Calls Tryz.prog 71 #[.pointer (some ⟨sd, 0, none⟩), .int .i64 k, .string (bs p), .string (bs q)] w fun e w' => e = .returned (.int .i64 0) ∧ DonePost w w' B O sd bm m (s.did s.l ⟨k, p, q⟩) := by
  obtain ⟨i0, hi, hz0, hz1, hz2⟩ := info_parts infoRw
  have d1 := h.d.c1
  have hsdl := h.d.sdl
  have H := Lib.hid h
  have HROW : Hid (World.ownsRow w B 49 3 rv s.raws.length (s.raws.flatMap rwCells)) := Lib.hid h.row
  have hBs : B ≤ w.heap.size := by have := h.lim sd h.os; omega
  obtain ⟨a1, c1, rfl⟩ := own_form h.row
  have hd1 : w.cell? ⟨sd, 1, none⟩ = some (.slice a1 s.raws.length c1) := d1
  obtain ⟨N, hN⟩ : ∃ N, N = s.raws.length := ⟨_, rfl⟩
  rw [← hN] at hr hd1 HROW
  have HN := Lib.hid hN
  have hdid : Hid (s.did s.l ⟨k, p, q⟩ = ⟨s.l, s.raws ++ [⟨k, p, q⟩], Disk.off s.left⟩) := Lib.hid rfl
  obtain ⟨lf, hlf⟩ : ∃ x, x = s.left := ⟨_, rfl⟩
  have HLF := Lib.hid hlf
  rw [← hlf] at hl
  have HMK : Hid (∀ wr v, (w.alloc (.cells #[.int .i64 k, .string (bs p), .string (bs q)] 49)).grownBy wr (Value.slice a1 N c1).ownBlock → wr.ownsRow B 49 3 v (N + 1) (s.raws.flatMap rwCells ++ [.int .i64 k, .string (bs p), .string (bs q)]) →
      (v.ownBlock = (Value.slice a1 N c1).ownBlock ∨ v.ownBlock = some (w.alloc (.cells #[.int .i64 k, .string (bs p), .string (bs q)] 49)).heap.size) →
      (∃ O', DskAt (wr.setCell ⟨sd, 1, none⟩ v) B O' sd bm m v ⟨s.l, s.raws ++ [⟨k, p, q⟩], lf⟩ ∧ ∀ j, O' j → O j ∨ w.heap.size ≤ j) ∧ Keeps O w (wr.setCell ⟨sd, 1, none⟩ v) ∧
      wr.cell? ⟨sd, 1, none⟩ = some (.slice a1 N c1) ∧ wr.frozen? ⟨sd, 1, none⟩ = false ∧ (wr.setCell ⟨sd, 1, none⟩ v).cell? ⟨sd, 2, none⟩ = some (.int .i64 lf) ∧ (wr.setCell ⟨sd, 1, none⟩ v).frozen? ⟨sd, 2, none⟩ = false) := Lib.hid (by
    rw [hN, hlf]
    exact fun wr v h1 h2 h3 => DonePost.make (r := ⟨k, p, q⟩) H.out h1 h2 h3)
  clear h d1 hN hlf
  by_cases h0 : 0 < lf
  · have hw : IntKind.i64.wrap (lf - 1) = lf - 1 := IntWalk.i64_in _ (by omega)
    have HOFF : Hid (Disk.off s.left = lf - 1) := Lib.hid (by rw [← HLF.out]; unfold Disk.off; rw [if_pos h0])
    go_enter Tryz.func71, Tryz.ntmps71
    go_wp2_with (first | (at_builtin; refine wpList_append_own_at _ rfl _ _ 31 rfl B 49 i0 (.agg #[.int .i64 0, .string ByteArray.empty, .string ByteArray.empty]) 3 40 Tryz.underlying31 hi hz0 hz1 hz2 rfl (by decide) _ _ _ rfl (World.ownsRow.alloc HROW.out _) ⟨w.heap.size, 0, none⟩ 1 1 [.int .i64 k, .string (bs p), .string (bs q)] rfl rfl (new_cells2 _ _ (by first | rfl | simp) _ _) (fun x hx => by simp at hx; rcases hx with rfl | rfl | rfl <;> rfl) (by unfold maxLen; omega) (by omega) (by simp; omega) ?_; intro v7 w7 hown7 hgrow7 _ hloc7; obtain ⟨hnow, hkeep, k1, k2, k3, k4⟩ := HMK.out w7 v7 hgrow7 hown7 hloc7; have HNOW := Lib.hid hnow; have HKEEP := Lib.hid hkeep; obtain ⟨a7, c7, rfl⟩ := own_form hown7; clear hnow hkeep hown7 hgrow7 hloc7))
    go_returns
    obtain ⟨O', h1, h2⟩ := HNOW.out
    have h3 := h1.setLeft (lf - 1)
    exact ⟨rfl, ⟨O', _, by rw [hdid.out, HOFF.out]; exact h3.1, h2⟩, HKEEP.out.then_grown h3.2 (fun j e => by
      have e := Option.some.inj e
      rw [← e]
      exact h2 _ h1.os)⟩
  · have HOFF : Hid (Disk.off s.left = lf) := Lib.hid (by rw [← HLF.out]; unfold Disk.off; rw [if_neg h0])
    go_enter Tryz.func71, Tryz.ntmps71
    go_wp2_with (first | (at_builtin; refine wpList_append_own_at _ rfl _ _ 31 rfl B 49 i0 (.agg #[.int .i64 0, .string ByteArray.empty, .string ByteArray.empty]) 3 40 Tryz.underlying31 hi hz0 hz1 hz2 rfl (by decide) _ _ _ rfl (World.ownsRow.alloc HROW.out _) ⟨w.heap.size, 0, none⟩ 1 1 [.int .i64 k, .string (bs p), .string (bs q)] rfl rfl (new_cells2 _ _ (by first | rfl | simp) _ _) (fun x hx => by simp at hx; rcases hx with rfl | rfl | rfl <;> rfl) (by unfold maxLen; omega) (by omega) (by simp; omega) ?_; intro v7 w7 hown7 hgrow7 _ hloc7; obtain ⟨hnow, hkeep, k1, k2, k3, k4⟩ := HMK.out w7 v7 hgrow7 hown7 hloc7; have HNOW := Lib.hid hnow; have HKEEP := Lib.hid hkeep; obtain ⟨a7, c7, rfl⟩ := own_form hown7; clear hnow hkeep hown7 hgrow7 hloc7))
    go_returns
    obtain ⟨O', h1, h2⟩ := HNOW.out
    exact ⟨rfl, ⟨O', _, by rw [hdid.out, HOFF.out]; exact h1, h2⟩, HKEEP.out⟩
/-- Behind done. -/
theorem DskNow.done {w w1 w2 : World} {B : Nat} {O : Nat → Prop} {sd bm m n : Nat} {s' : Disk.S} (hk : Keeps O w w1) (h : DonePost w1 w2 B O sd bm m s') (hm : m ≤ n) (hr : s'.raws.length ≤ n) (hl : s'.left ≤ 9223372036854775807) (hok : ∀ x ∈ s'.l, Disk.pathOk x.1 = true) : DskNow w w2 B O sd n s' := by
  obtain ⟨⟨O', rv', h1, h2⟩, h3⟩ := h
  exact ⟨⟨O', ⟨bm, m, rv', ⟨hm, hr, hl, hok⟩, h1⟩, fun k hk2 => (h2 k hk2).imp id (Nat.le_trans hk.size)⟩, hk.trans h3 (fun k h => Or.inl h)⟩
theorem off_le (k : Int) (h : k ≤ 9223372036854775807) : Disk.off k ≤ 9223372036854775807 := by unfold Disk.off; split <;> omega
theorem bs_small {p : List UInt8} (h : p.length ≤ 4398046511104) : (bs p).size ≤ maxLen := by show p.toArray.size ≤ maxLen; simp [maxLen]; omega
set_option maxHeartbeats 4000000 in
set_option maxRecDepth 100000 in
theorem mkdir_any {w : World} {B : Nat} {O : Nat → Prop} {sd n : Nat} {s : Disk.S} (h : Dsk w B O sd n s) (hE : Env w) (hn : n ≤ 1099511627776) (p : List UInt8) (hp : p.length ≤ 4398046511104) :
    Calls Tryz.prog 46 #[.pointer (some ⟨sd, 0, none⟩), .string (bs p)] w (AskPost w B O sd n (s.mkdir p)) := by
  have H0 := Lib.hid h
  obtain ⟨bm, m, rv, ⟨hm, hr, hl, hok⟩, h⟩ := h
  have HOK := Lib.hid hok
  have H := Lib.hid h
  have HMAY := Lib.hid (may_any h.d.c2 hE p hp)
  have hbml := h.d.bml
  have hsdl := h.d.sdl
  have hps := bs_small hp
  clear h hok
  go_enter Tryz.func46, Tryz.ntmps46
  go_wp2_with fail
  refine HMAY.out.mono ?_
  rintro e w1 ⟨rfl, hb1⟩
  have HB1 := Lib.hid hb1
  have HC1 : Hid (s.mkdir p = s.ask (Disk.mkdirC s.l p) ⟨1, p, []⟩) := Lib.hid rfl
  by_cases hmay : Disk.mayE s p = 0
  rotate_left 1
  · have HF := Lib.hid (Disk.ask_may (c := Disk.mkdirC s.l p) (r := ⟨1, p, []⟩) hmay (fun h => by unfold Disk.mkdirC; rw [h]; rfl))
    have q1 : (Disk.mayE s p != 0) = true := bne_iff_ne.2 hmay
    obtain ⟨k, hk⟩ : ∃ k, k = Disk.mayE s p := ⟨_, rfl⟩
    rw [← hk] at q1 HF ⊢
    clear hmay hk
    go_wp2
    go_returns
    exact ⟨by rw [HC1.out, HF.out] <;> rfl, by rw [HC1.out, HF.out]; exact (DskNow.of_below H0.out HB1.out).more (Nat.le_succ _)⟩
  have hlp := Disk.may_ok hmay
  have HCC : Hid (Disk.mkdirC s.l p = if Disk.homeE s.l p ≠ 0 then (Disk.homeE s.l p, s.l) else if Disk.kind s.l p ≠ 0 then (11, s.l) else (0, SM.put s.l p ⟨true, []⟩)) := Lib.hid (by unfold Disk.mkdirC; rw [hlp.2]; rfl)
  have HLF := Lib.hid hlp.1
  have HPO := Lib.hid hlp.2
  rw [hmay]
  clear hmay hlp
  have H1 := Lib.hid (H.out.below HB1.out)
  have HHOME := Lib.hid (home_any H1.out.d.c0 H1.out.d.things p hp)
  go_wp2_with fail
  refine HHOME.out.mono ?_
  rintro e w2 ⟨rfl, hb2⟩
  have HB2 := Lib.hid (hb1.trans (hb2.mono hb1.size))
  by_cases hho : Disk.homeE s.l p = 0
  rotate_left 1
  · have HF := Lib.hid (Disk.ask_no (c := Disk.mkdirC s.l p) (r := ⟨1, p, []⟩) HLF.out (by rw [HCC.out, if_pos hho]; exact hho))
    have HF2 : Hid ((Disk.mkdirC s.l p).1 = Disk.homeE s.l p) := Lib.hid (by rw [HCC.out, if_pos hho])
    have q1 : (Disk.homeE s.l p != 0) = true := bne_iff_ne.2 hho
    obtain ⟨k, hk⟩ : ∃ k, k = Disk.homeE s.l p := ⟨_, rfl⟩
    rw [← hk] at q1 HF2 ⊢
    clear hho hk
    go_wp2
    go_returns
    exact ⟨by rw [HC1.out, HF.out, HF2.out] <;> rfl, by rw [HC1.out, HF.out]; exact (DskNow.of_below H0.out HB2.out).more (Nat.le_succ _)⟩
  have HCC2 : Hid (Disk.mkdirC s.l p = if Disk.kind s.l p ≠ 0 then (11, s.l) else (0, SM.put s.l p ⟨true, []⟩)) := Lib.hid (by rw [HCC.out, if_neg (by simpa using hho)])
  rw [hho]
  clear hho
  have H2 := Lib.hid (H.out.below HB2.out)
  have HKIND := Lib.hid (kind_any H2.out.d.c0 H2.out.d.things (bs p) hps)
  rw [bs_list] at HKIND
  go_wp2_with fail
  refine HKIND.out.mono ?_
  rintro e w3 ⟨rfl, hb3⟩
  have HB3 := Lib.hid (HB2.out.trans (hb3.mono HB2.out.size))
  by_cases hki : Disk.kind s.l p = 0
  rotate_left 1
  · have HF := Lib.hid (Disk.ask_no (c := Disk.mkdirC s.l p) (r := ⟨1, p, []⟩) HLF.out (by rw [HCC2.out, if_pos hki]; simp))
    have HF2 : Hid ((Disk.mkdirC s.l p).1 = 11) := Lib.hid (by rw [HCC2.out, if_pos hki])
    have q1 : (Disk.kind s.l p != 0) = true := bne_iff_ne.2 hki
    obtain ⟨k, hk⟩ : ∃ k, k = Disk.kind s.l p := ⟨_, rfl⟩
    rw [← hk] at q1 ⊢
    clear hki hk
    go_wp2
    go_returns
    exact ⟨by rw [HC1.out, HF.out, HF2.out] <;> rfl, by rw [HC1.out, HF.out]; exact (DskNow.of_below H0.out HB3.out).more (Nat.le_succ _)⟩
  have HCC3 : Hid (Disk.mkdirC s.l p = (0, SM.put s.l p ⟨true, []⟩)) := Lib.hid (by rw [HCC2.out, if_neg (by simpa using hki)])
  have HF := Lib.hid (Disk.ask_yes (c := Disk.mkdirC s.l p) (r := ⟨1, p, []⟩) HLF.out (by rw [HCC3.out]))
  rw [HCC3.out] at HF
  rw [hki]
  clear hki
  have H3 := Lib.hid (H.out.below HB3.out)
  have d0 := H3.out.d.c0
  obtain ⟨w3, rfl⟩ : ∃ x, x = w3 := ⟨w3, rfl⟩
  clear hb1 hb2 hb3
  go_wp2_with (first | (at_mapUpdate; refine wpList_put elT rfl _ _ _ 68 rfl 74 Tryz.underlying9 Tryz.underlying68 rfl H3.out.d.things (by unfold maxLen; omega) (bs p) hps rfl (⟨true, []⟩ : Disk.T) _ rfl rfl ?_; intro w6 hm6 hg6; rw [bs_list] at hm6))
  have HP6 := Lib.hid (H3.out.put hg6 hm6)
  have HK6 := Lib.hid ((Keeps.of_below (O := O) HB3.out).then_grown hg6 (fun k e => Or.inl (by rw [← Option.some.inj e]; exact H.out.ob)))
  have HDONE := Lib.hid (done_any HP6.out (by show s.raws.length ≤ _; omega) hl 1 p [])
  clear hg6 hm6
  go_wp2_with fail
  refine HDONE.out.mono ?_
  rintro e w7 ⟨rfl, hd7⟩
  have HD7 := Lib.hid hd7
  clear hd7
  go_wp2
  go_returns
  refine ⟨by rw [HC1.out, HCC3.out, HF.out] <;> rfl, ?_⟩
  rw [HC1.out, HCC3.out, HF.out]
  exact DskNow.done HK6.out HD7.out (by omega) (by show (s.raws ++ [_]).length ≤ _; rw [List.length_append, List.length_singleton]; omega) (off_le _ hl) (Disk.ok_put HOK.out HPO.out _)
end Go.Proofs.YtnfklomokjhojaaGreatDoor
