/- A disk's small functions: the walks. -/
import Derived.Test.YtdogacgpfnolfaaGreatDoorDiskK
import Derived.Deep.AppendLies
namespace Go.Proofs.YtdogacgpfnolfaaGreatDoor
open Go.RowKit Go.Maps
set_option linter.unusedSimpArgs false
set_option linter.unusedVariables false
theorem down_any {w : World} {sd : Nat} {k : Int} (h : w.cell? ⟨sd, 2, none⟩ = some (.int .i64 k)) :
    Calls Tryz.prog 21 #[.pointer (some ⟨sd, 0, none⟩)] w fun e w' => e = .returned (.bool (decide (k = 0))) ∧ w' = w := by
  have hq : (k == 0) = decide (k = 0) := by
    by_cases h0 : k = 0
    · rw [h0]; rfl
    · rw [decide_eq_false h0]; exact beq_eq_false_iff_ne.2 h0
  go_enter Tryz.func21, Tryz.ntmps21
  go_wp2
  go_returns
  exact ⟨rfl, rfl⟩
set_option maxHeartbeats 1000000 in
set_option maxRecDepth 100000 in
theorem may_any {w : World} {sd : Nat} {s : Disk.S} (h : w.cell? ⟨sd, 2, none⟩ = some (.int .i64 s.left)) (hE : Env w) (p : List UInt8) (hp : p.length ≤ 4398046511104) :
    Calls Tryz.prog 53 #[.pointer (some ⟨sd, 0, none⟩), .string (bs p)] w fun e w' => e = .returned (.int .i64 (Disk.mayE s p)) ∧ Below w.heap.size w w' := by
  have HD := Lib.hid (down_any h)
  have HB := Lib.hid (below_any (bs p) (by show p.toArray.size ≤ _; simp; omega) w hE)
  rw [bs_list] at HB
  by_cases h0 : s.left = 0
  · have HR : Hid (Disk.mayE s p = 15) := Lib.hid (by unfold Disk.mayE; rw [if_pos h0])
    rw [decide_eq_true h0] at HD
    clear h h0
    go_enter Tryz.func53, Tryz.ntmps53
    go_wp2_with fail
    refine HD.out.mono ?_
    rintro e w1 ⟨rfl, rfl⟩
    go_wp2
    go_returns
    exact ⟨by rw [HR.out] <;> rfl, Below.refl _ _⟩
  · rw [decide_eq_false h0] at HD
    cases hpo : Disk.pathOk p
    · have HR : Hid (Disk.mayE s p = 10) := Lib.hid (by unfold Disk.mayE; rw [if_neg h0, hpo]; rfl)
      rw [hpo] at HB
      clear h h0 hpo
      go_enter Tryz.func53, Tryz.ntmps53
      go_wp2_with fail
      refine HD.out.mono ?_
      rintro e w1 ⟨rfl, rfl⟩
      go_wp2_with fail
      refine HB.out.mono ?_
      rintro e w2 ⟨rfl, hb⟩
      go_wp2
      go_returns
      exact ⟨by rw [HR.out] <;> rfl, hb⟩
    · have HR : Hid (Disk.mayE s p = 0) := Lib.hid (by unfold Disk.mayE; rw [if_neg h0, hpo]; rfl)
      rw [hpo] at HB
      clear h h0 hpo
      go_enter Tryz.func53, Tryz.ntmps53
      go_wp2_with fail
      refine HD.out.mono ?_
      rintro e w1 ⟨rfl, rfl⟩
      go_wp2_with fail
      refine HB.out.mono ?_
      rintro e w2 ⟨rfl, hb⟩
      go_wp2
      go_returns
      exact ⟨by rw [HR.out] <;> rfl, hb⟩
theorem parent_length (p : List UInt8) : (Disk.parent p).length ≤ p.length + 1 := by
  have : ∀ k, (Disk.parTo p k).length ≤ p.length + 1 := fun k => by
    induction k with
    | zero => simp [Disk.parTo]
    | succ k ih =>
      unfold Disk.parTo
      split
      · rw [List.length_take]; omega
      · exact ih
  exact this _
set_option maxHeartbeats 1000000 in
set_option maxRecDepth 100000 in
theorem home_any {w : World} {sd bm n : Nat} {l : Disk.M} (hT : w.cell? ⟨sd, 0, none⟩ = some (.map (some bm))) (hM : Things w bm n l) (p : List UInt8) (hp : p.length ≤ 4398046511104) :
    Calls Tryz.prog 54 #[.pointer (some ⟨sd, 0, none⟩), .string (bs p)] w fun e w' => e = .returned (.int .i64 (Disk.homeE l p)) ∧ Below w.heap.size w w' := by
  have hps : (bs p).size = p.length := by show p.toArray.size = _; simp
  have HP := Lib.hid (parent_any (bs p) (by omega) w)
  have hl := parent_length p
  have HK := Lib.hid (kind_any hT hM (bs (Disk.parent p)) (by show (Disk.parent p).toArray.size ≤ maxLen; simp [maxLen]; omega))
  rw [bs_list] at HP HK
  have HH : Hid (Disk.homeE l p = if Disk.kind l (Disk.parent p) = 0 then 12 else if Disk.kind l (Disk.parent p) = 1 then 13 else 0) := Lib.hid rfl
  obtain ⟨k, hk⟩ : ∃ k, k = Disk.kind l (Disk.parent p) := ⟨_, rfl⟩
  rw [← hk] at HK HH
  clear hT hM hk hps hl
  by_cases h0 : k = 0
  · have HR := Lib.hid (show Disk.homeE l p = 12 by rw [HH.out, if_pos h0])
    subst h0
    go_enter Tryz.func54, Tryz.ntmps54
    go_wp2_with fail
    refine HP.out.mono ?_
    rintro e w1 ⟨rfl, rfl⟩
    go_wp2_with fail
    refine HK.out.mono ?_
    rintro e w2 ⟨rfl, hb⟩
    go_wp2
    go_returns
    exact ⟨by rw [HR.out] <;> rfl, hb⟩
  by_cases h1 : k = 1
  · have HR := Lib.hid (show Disk.homeE l p = 13 by rw [HH.out, if_neg h0, if_pos h1])
    subst h1
    clear h0
    go_enter Tryz.func54, Tryz.ntmps54
    go_wp2_with fail
    refine HP.out.mono ?_
    rintro e w1 ⟨rfl, rfl⟩
    go_wp2_with fail
    refine HK.out.mono ?_
    rintro e w2 ⟨rfl, hb⟩
    go_wp2
    go_returns
    exact ⟨by rw [HR.out] <;> rfl, hb⟩
  · have HR := Lib.hid (show Disk.homeE l p = 0 by rw [HH.out, if_neg h0, if_neg h1])
    have q0 : (k == 0) = false := beq_eq_false_iff_ne.2 h0
    have q1 : (k == 1) = false := beq_eq_false_iff_ne.2 h1
    clear h0 h1
    go_enter Tryz.func54, Tryz.ntmps54
    go_wp2_with fail
    refine HP.out.mono ?_
    rintro e w1 ⟨rfl, rfl⟩
    go_wp2_with fail
    refine HK.out.mono ?_
    rintro e w2 ⟨rfl, hb⟩
    go_wp2
    go_returns
    exact ⟨by rw [HR.out] <;> rfl, hb⟩
end Go.Proofs.YtdogacgpfnolfaaGreatDoor

namespace Go.Proofs.YtdogacgpfnolfaaGreatDoor
open Go.RowKit Go.Maps
set_option linter.unusedSimpArgs false
set_option linter.unusedVariables false
/-- What done leaves. -/
structure DonePost (w w' : World) (B : Nat) (O : Nat → Prop) (sd bm m : Nat) (s : Disk.S) : Prop where
  now : ∃ O' rv', DskAt w' B O' sd bm m rv' s ∧ ∀ j, O' j → O j ∨ w.heap.size ≤ j
  keeps : Keeps O w w'
/-- The row that grew is written back, and one fewer is left. -/
theorem DonePost.make {w wr : World} {B : Nat} {O : Nat → Prop} {sd bm m : Nat} {rv v : Value} {s : Disk.S} {r : Disk.Rw} {o : Obj} (h : DskAt w B O sd bm m rv s) (hg : (w.alloc o).grownBy wr rv.ownBlock)
    (hv : wr.ownsRow B 37 3 v (s.raws.length + 1) (s.raws.flatMap rwCells ++ rwCells r)) (hloc : v.ownBlock = rv.ownBlock ∨ v.ownBlock = some (w.alloc o).heap.size) :
    (∃ O', DskAt (wr.setCell ⟨sd, 1, none⟩ v) B O' sd bm m v ⟨s.l, s.raws ++ [r], s.left⟩ ∧ ∀ j, O' j → O j ∨ w.heap.size ≤ j) ∧ Keeps O w (wr.setCell ⟨sd, 1, none⟩ v) ∧
    wr.cell? ⟨sd, 1, none⟩ = some rv ∧ wr.frozen? ⟨sd, 1, none⟩ = false ∧ (wr.setCell ⟨sd, 1, none⟩ v).cell? ⟨sd, 2, none⟩ = some (.int .i64 s.left) ∧ (wr.setCell ⟨sd, 1, none⟩ v).frozen? ⟨sd, 2, none⟩ = false := by
  have hb : Below w.heap.size w (w.alloc o) := (Below.refl _ w).alloc (Nat.le_refl _) o
  have h2 := h.below hb
  have hs := (h2.setRaws hg (RwRow.snoc hv rfl) (fun g e => by
    rcases hloc with e2 | e2
    · exact Or.inl (e2 ▸ e)
    · rw [e2] at e; injection e with e; exact Or.inr (by omega)))
  have hz : w.heap.size ≤ (w.alloc o).heap.size := hb.size
  have d2 := h2.d.kept hg (fun e => h2.ns e.symm) (fun e => h2.nb e.symm)
  refine ⟨⟨_, hs.1, fun j hj => hj.imp id (fun hj => by omega)⟩, (Keeps.of_below hb).trans hs.2 (fun k hk => Or.inl hk), d2.c1, d2.fr 1, hs.1.d.c2, hs.1.d.fr 2⟩
set_option maxHeartbeats 2000000 in
set_option maxRecDepth 100000 in
theorem done_any {w : World} {B : Nat} {O : Nat → Prop} {sd bm m : Nat} {rv : Value} {s : Disk.S} (h : DskAt w B O sd bm m rv s) (hr : s.raws.length ≤ 1099511627776) (hl : s.left ≤ 9223372036854775807) (k : Int) (p q : List UInt8) :
    Calls Tryz.prog 55 #[.pointer (some ⟨sd, 0, none⟩), .int .i64 k, .string (bs p), .string (bs q)] w fun e w' => e = .returned (.int .i64 0) ∧ DonePost w w' B O sd bm m (s.did s.l ⟨k, p, q⟩) := by
  obtain ⟨i0, hi, hz0, hz1, hz2⟩ := info_parts infoRw
  have d1 := h.d.c1
  have hsdl := h.d.sdl
  have H := Lib.hid h
  have HROW : Hid (World.ownsRow w B 37 3 rv s.raws.length (s.raws.flatMap rwCells)) := Lib.hid h.row
  have hBs : B ≤ w.heap.size := by have := h.lim sd h.os; omega
  obtain ⟨a1, c1, rfl⟩ := own_form h.row
  have hd1 : w.cell? ⟨sd, 1, none⟩ = some (.slice a1 s.raws.length c1) := d1
  obtain ⟨N, hN⟩ : ∃ N, N = s.raws.length := ⟨_, rfl⟩
  rw [← hN] at hr hd1 HROW
  have HN := Lib.hid hN
  have hdid : Hid (s.did s.l ⟨k, p, q⟩ = ⟨s.l, s.raws ++ [⟨k, p, q⟩], Disk.off s.left⟩) := Lib.hid rfl
  obtain ⟨lf, hlf⟩ : ∃ x, x = s.left := ⟨_, rfl⟩
  have HLF := Lib.hid hlf
  rw [← hlf] at hl
  have HMK : Hid (∀ wr v, (w.alloc (.cells #[.int .i64 k, .string (bs p), .string (bs q)] 37)).grownBy wr (Value.slice a1 N c1).ownBlock → wr.ownsRow B 37 3 v (N + 1) (s.raws.flatMap rwCells ++ [.int .i64 k, .string (bs p), .string (bs q)]) →
      (v.ownBlock = (Value.slice a1 N c1).ownBlock ∨ v.ownBlock = some (w.alloc (.cells #[.int .i64 k, .string (bs p), .string (bs q)] 37)).heap.size) →
      (∃ O', DskAt (wr.setCell ⟨sd, 1, none⟩ v) B O' sd bm m v ⟨s.l, s.raws ++ [⟨k, p, q⟩], lf⟩ ∧ ∀ j, O' j → O j ∨ w.heap.size ≤ j) ∧ Keeps O w (wr.setCell ⟨sd, 1, none⟩ v) ∧
      wr.cell? ⟨sd, 1, none⟩ = some (.slice a1 N c1) ∧ wr.frozen? ⟨sd, 1, none⟩ = false ∧ (wr.setCell ⟨sd, 1, none⟩ v).cell? ⟨sd, 2, none⟩ = some (.int .i64 lf) ∧ (wr.setCell ⟨sd, 1, none⟩ v).frozen? ⟨sd, 2, none⟩ = false) := Lib.hid (by
    rw [hN, hlf]
    exact fun wr v h1 h2 h3 => DonePost.make (r := ⟨k, p, q⟩) H.out h1 h2 h3)
  clear h d1 hN hlf
  by_cases h0 : 0 < lf
  · have hw : IntKind.i64.wrap (lf - 1) = lf - 1 := IntWalk.i64_in _ (by omega)
    have HOFF : Hid (Disk.off s.left = lf - 1) := Lib.hid (by rw [← HLF.out]; unfold Disk.off; rw [if_pos h0])
    go_enter Tryz.func55, Tryz.ntmps55
    go_wp2_with (first | (at_builtin; refine wpList_append_own_at _ rfl _ _ 32 rfl B 37 i0 (.agg #[.int .i64 0, .string ByteArray.empty, .string ByteArray.empty]) 3 40 Tryz.underlying32 hi hz0 hz1 hz2 rfl (by decide) _ _ _ rfl (World.ownsRow.alloc HROW.out _) ⟨w.heap.size, 0, none⟩ 1 1 [.int .i64 k, .string (bs p), .string (bs q)] rfl rfl (new_cells2 _ _ (by first | rfl | simp) _ _) (fun x hx => by simp at hx; rcases hx with rfl | rfl | rfl <;> rfl) (by unfold maxLen; omega) (by omega) (by simp; omega) ?_; intro v7 w7 hown7 hgrow7 _ hloc7; obtain ⟨hnow, hkeep, k1, k2, k3, k4⟩ := HMK.out w7 v7 hgrow7 hown7 hloc7; have HNOW := Lib.hid hnow; have HKEEP := Lib.hid hkeep; obtain ⟨a7, c7, rfl⟩ := own_form hown7; clear hnow hkeep hown7 hgrow7 hloc7))
    go_returns
    obtain ⟨O', h1, h2⟩ := HNOW.out
    have h3 := h1.setLeft (lf - 1)
    exact ⟨rfl, ⟨O', _, by rw [hdid.out, HOFF.out]; exact h3.1, h2⟩, HKEEP.out.then_grown h3.2 (fun j e => by
      have e := Option.some.inj e
      rw [← e]
      exact h2 _ h1.os)⟩
  · have HOFF : Hid (Disk.off s.left = lf) := Lib.hid (by rw [← HLF.out]; unfold Disk.off; rw [if_neg h0])
    go_enter Tryz.func55, Tryz.ntmps55
    go_wp2_with (first | (at_builtin; refine wpList_append_own_at _ rfl _ _ 32 rfl B 37 i0 (.agg #[.int .i64 0, .string ByteArray.empty, .string ByteArray.empty]) 3 40 Tryz.underlying32 hi hz0 hz1 hz2 rfl (by decide) _ _ _ rfl (World.ownsRow.alloc HROW.out _) ⟨w.heap.size, 0, none⟩ 1 1 [.int .i64 k, .string (bs p), .string (bs q)] rfl rfl (new_cells2 _ _ (by first | rfl | simp) _ _) (fun x hx => by simp at hx; rcases hx with rfl | rfl | rfl <;> rfl) (by unfold maxLen; omega) (by omega) (by simp; omega) ?_; intro v7 w7 hown7 hgrow7 _ hloc7; obtain ⟨hnow, hkeep, k1, k2, k3, k4⟩ := HMK.out w7 v7 hgrow7 hown7 hloc7; have HNOW := Lib.hid hnow; have HKEEP := Lib.hid hkeep; obtain ⟨a7, c7, rfl⟩ := own_form hown7; clear hnow hkeep hown7 hgrow7 hloc7))
    go_returns
    obtain ⟨O', h1, h2⟩ := HNOW.out
    exact ⟨rfl, ⟨O', _, by rw [hdid.out, HOFF.out]; exact h1, h2⟩, HKEEP.out⟩
/-- Behind done. -/
theorem DskNow.done {w w1 w2 : World} {B : Nat} {O : Nat → Prop} {sd bm m n : Nat} {s' : Disk.S} (hk : Keeps O w w1) (h : DonePost w1 w2 B O sd bm m s') (hm : m ≤ n) (hr : s'.raws.length ≤ n) (hl : s'.left ≤ 9223372036854775807) (hok : ∀ x ∈ s'.l, Disk.pathOk x.1 = true) : DskNow w w2 B O sd n s' := by
  obtain ⟨⟨O', rv', h1, h2⟩, h3⟩ := h
  exact ⟨⟨O', ⟨bm, m, rv', ⟨hm, hr, hl, hok⟩, h1⟩, fun k hk2 => (h2 k hk2).imp id (Nat.le_trans hk.size)⟩, hk.trans h3 (fun k h => Or.inl h)⟩
theorem off_le (k : Int) (h : k ≤ 9223372036854775807) : Disk.off k ≤ 9223372036854775807 := by unfold Disk.off; split <;> omega
theorem bs_small {p : List UInt8} (h : p.length ≤ 4398046511104) : (bs p).size ≤ maxLen := by show p.toArray.size ≤ maxLen; simp [maxLen]; omega
set_option maxHeartbeats 4000000 in
set_option maxRecDepth 100000 in
theorem mkdir_any {w : World} {B : Nat} {O : Nat → Prop} {sd n : Nat} {s : Disk.S} (h : Dsk w B O sd n s) (hE : Env w) (hn : n ≤ 1099511627776) (p : List UInt8) (hp : p.length ≤ 4398046511104) :
    Calls Tryz.prog 24 #[.pointer (some ⟨sd, 0, none⟩), .string (bs p)] w (AskPost w B O sd n (s.mkdir p)) := by
  have H0 := Lib.hid h
  obtain ⟨bm, m, rv, ⟨hm, hr, hl, hok⟩, h⟩ := h
  have HOK := Lib.hid hok
  have H := Lib.hid h
  have HMAY := Lib.hid (may_any h.d.c2 hE p hp)
  have hbml := h.d.bml
  have hsdl := h.d.sdl
  have hps := bs_small hp
  clear h hok
  go_enter Tryz.func24, Tryz.ntmps24
  go_wp2_with fail
  refine HMAY.out.mono ?_
  rintro e w1 ⟨rfl, hb1⟩
  have HB1 := Lib.hid hb1
  have HC1 : Hid (s.mkdir p = s.ask (Disk.mkdirC s.l p) ⟨1, p, []⟩) := Lib.hid rfl
  by_cases hmay : Disk.mayE s p = 0
  rotate_left 1
  · have HF := Lib.hid (Disk.ask_may (c := Disk.mkdirC s.l p) (r := ⟨1, p, []⟩) hmay (fun h => by unfold Disk.mkdirC; rw [h]; rfl))
    have q1 : (Disk.mayE s p != 0) = true := bne_iff_ne.2 hmay
    obtain ⟨k, hk⟩ : ∃ k, k = Disk.mayE s p := ⟨_, rfl⟩
    rw [← hk] at q1 HF ⊢
    clear hmay hk
    go_wp2
    go_returns
    exact ⟨by rw [HC1.out, HF.out] <;> rfl, by rw [HC1.out, HF.out]; exact (DskNow.of_below H0.out HB1.out).more (Nat.le_succ _)⟩
  have hlp := Disk.may_ok hmay
  have HCC : Hid (Disk.mkdirC s.l p = if Disk.homeE s.l p ≠ 0 then (Disk.homeE s.l p, s.l) else if Disk.kind s.l p ≠ 0 then (11, s.l) else (0, SM.put s.l p ⟨true, []⟩)) := Lib.hid (by unfold Disk.mkdirC; rw [hlp.2]; rfl)
  have HLF := Lib.hid hlp.1
  have HPO := Lib.hid hlp.2
  rw [hmay]
  clear hmay hlp
  have H1 := Lib.hid (H.out.below HB1.out)
  have HHOME := Lib.hid (home_any H1.out.d.c0 H1.out.d.things p hp)
  go_wp2_with fail
  refine HHOME.out.mono ?_
  rintro e w2 ⟨rfl, hb2⟩
  have HB2 := Lib.hid (hb1.trans (hb2.mono hb1.size))
  by_cases hho : Disk.homeE s.l p = 0
  rotate_left 1
  · have HF := Lib.hid (Disk.ask_no (c := Disk.mkdirC s.l p) (r := ⟨1, p, []⟩) HLF.out (by rw [HCC.out, if_pos hho]; exact hho))
    have HF2 : Hid ((Disk.mkdirC s.l p).1 = Disk.homeE s.l p) := Lib.hid (by rw [HCC.out, if_pos hho])
    have q1 : (Disk.homeE s.l p != 0) = true := bne_iff_ne.2 hho
    obtain ⟨k, hk⟩ : ∃ k, k = Disk.homeE s.l p := ⟨_, rfl⟩
    rw [← hk] at q1 HF2 ⊢
    clear hho hk
    go_wp2
    go_returns
    exact ⟨by rw [HC1.out, HF.out, HF2.out] <;> rfl, by rw [HC1.out, HF.out]; exact (DskNow.of_below H0.out HB2.out).more (Nat.le_succ _)⟩
  have HCC2 : Hid (Disk.mkdirC s.l p = if Disk.kind s.l p ≠ 0 then (11, s.l) else (0, SM.put s.l p ⟨true, []⟩)) := Lib.hid (by rw [HCC.out, if_neg (by simpa using hho)])
  rw [hho]
  clear hho
  have H2 := Lib.hid (H.out.below HB2.out)
  have HKIND := Lib.hid (kind_any H2.out.d.c0 H2.out.d.things (bs p) hps)
  rw [bs_list] at HKIND
  go_wp2_with fail
  refine HKIND.out.mono ?_
  rintro e w3 ⟨rfl, hb3⟩
  have HB3 := Lib.hid (HB2.out.trans (hb3.mono HB2.out.size))
  by_cases hki : Disk.kind s.l p = 0
  rotate_left 1
  · have HF := Lib.hid (Disk.ask_no (c := Disk.mkdirC s.l p) (r := ⟨1, p, []⟩) HLF.out (by rw [HCC2.out, if_pos hki]; simp))
    have HF2 : Hid ((Disk.mkdirC s.l p).1 = 11) := Lib.hid (by rw [HCC2.out, if_pos hki])
    have q1 : (Disk.kind s.l p != 0) = true := bne_iff_ne.2 hki
    obtain ⟨k, hk⟩ : ∃ k, k = Disk.kind s.l p := ⟨_, rfl⟩
    rw [← hk] at q1 ⊢
    clear hki hk
    go_wp2
    go_returns
    exact ⟨by rw [HC1.out, HF.out, HF2.out] <;> rfl, by rw [HC1.out, HF.out]; exact (DskNow.of_below H0.out HB3.out).more (Nat.le_succ _)⟩
  have HCC3 : Hid (Disk.mkdirC s.l p = (0, SM.put s.l p ⟨true, []⟩)) := Lib.hid (by rw [HCC2.out, if_neg (by simpa using hki)])
  have HF := Lib.hid (Disk.ask_yes (c := Disk.mkdirC s.l p) (r := ⟨1, p, []⟩) HLF.out (by rw [HCC3.out]))
  rw [HCC3.out] at HF
  rw [hki]
  clear hki
  have H3 := Lib.hid (H.out.below HB3.out)
  have d0 := H3.out.d.c0
  obtain ⟨w3, rfl⟩ : ∃ x, x = w3 := ⟨w3, rfl⟩
  clear hb1 hb2 hb3
  go_wp2_with (first | (at_mapUpdate; refine wpList_put elT rfl _ _ _ 55 rfl 63 Tryz.underlying9 Tryz.underlying55 rfl H3.out.d.things (by unfold maxLen; omega) (bs p) hps rfl (⟨true, []⟩ : Disk.T) _ rfl rfl ?_; intro w6 hm6 hg6; rw [bs_list] at hm6))
  have HP6 := Lib.hid (H3.out.put hg6 hm6)
  have HK6 := Lib.hid ((Keeps.of_below (O := O) HB3.out).then_grown hg6 (fun k e => Or.inl (by rw [← Option.some.inj e]; exact H.out.ob)))
  have HDONE := Lib.hid (done_any HP6.out (by show s.raws.length ≤ _; omega) hl 1 p [])
  clear hg6 hm6
  go_wp2_with fail
  refine HDONE.out.mono ?_
  rintro e w7 ⟨rfl, hd7⟩
  have HD7 := Lib.hid hd7
  clear hd7
  go_wp2
  go_returns
  refine ⟨by rw [HC1.out, HCC3.out, HF.out] <;> rfl, ?_⟩
  rw [HC1.out, HCC3.out, HF.out]
  exact DskNow.done HK6.out HD7.out (by omega) (by show (s.raws ++ [_]).length ≤ _; rw [List.length_append, List.length_singleton]; omega) (off_le _ hl) (Disk.ok_put HOK.out HPO.out _)
end Go.Proofs.YtdogacgpfnolfaaGreatDoor

namespace Go.Proofs.YtdogacgpfnolfaaGreatDoor
open Go.RowKit Go.Maps
set_option linter.unusedSimpArgs false
set_option linter.unusedVariables false
set_option maxHeartbeats 4000000 in
set_option maxRecDepth 100000 in
theorem write_any {w : World} {B : Nat} {O : Nat → Prop} {sd n : Nat} {s : Disk.S} (h : Dsk w B O sd n s) (hE : Env w) (hn : n ≤ 1099511627776) (p t : List UInt8) (hp : p.length ≤ 4398046511104) :
    Calls Tryz.prog 25 #[.pointer (some ⟨sd, 0, none⟩), .string (bs p), .string (bs t)] w (AskPost w B O sd n (s.write p t)) := by
  have H0 := Lib.hid h
  obtain ⟨bm, m, rv, ⟨hm, hr, hl, hok⟩, h⟩ := h
  have HOK := Lib.hid hok
  have H := Lib.hid h
  have HMAY := Lib.hid (may_any h.d.c2 hE p hp)
  have hbml := h.d.bml
  have hsdl := h.d.sdl
  have hps := bs_small hp
  clear h hok
  go_enter Tryz.func25, Tryz.ntmps25
  go_wp2_with fail
  refine HMAY.out.mono ?_
  rintro e w1 ⟨rfl, hb1⟩
  have HB1 := Lib.hid hb1
  have HC1 : Hid (s.write p t = s.ask (Disk.writeC s.l p t) ⟨2, p, []⟩) := Lib.hid rfl
  by_cases hmay : Disk.mayE s p = 0
  rotate_left 1
  · have HF := Lib.hid (Disk.ask_may (c := Disk.writeC s.l p t) (r := ⟨2, p, []⟩) hmay (fun h => by unfold Disk.writeC; rw [h]; rfl))
    have q1 : (Disk.mayE s p != 0) = true := bne_iff_ne.2 hmay
    obtain ⟨k, hk⟩ : ∃ k, k = Disk.mayE s p := ⟨_, rfl⟩
    rw [← hk] at q1 HF ⊢
    clear hmay hk
    go_wp2
    go_returns
    exact ⟨by rw [HC1.out, HF.out] <;> rfl, by rw [HC1.out, HF.out]; exact (DskNow.of_below H0.out HB1.out).more (Nat.le_succ _)⟩
  have hlp := Disk.may_ok hmay
  have HCC : Hid (Disk.writeC s.l p t = if Disk.homeE s.l p ≠ 0 then (Disk.homeE s.l p, s.l) else if Disk.kind s.l p = 2 then (13, s.l) else (0, SM.put s.l p ⟨false, t⟩)) := Lib.hid (by unfold Disk.writeC; rw [hlp.2]; rfl)
  have HLF := Lib.hid hlp.1
  have HPO := Lib.hid hlp.2
  rw [hmay]
  clear hmay hlp
  have H1 := Lib.hid (H.out.below HB1.out)
  have HHOME := Lib.hid (home_any H1.out.d.c0 H1.out.d.things p hp)
  go_wp2_with fail
  refine HHOME.out.mono ?_
  rintro e w2 ⟨rfl, hb2⟩
  have HB2 := Lib.hid (hb1.trans (hb2.mono hb1.size))
  by_cases hho : Disk.homeE s.l p = 0
  rotate_left 1
  · have HF := Lib.hid (Disk.ask_no (c := Disk.writeC s.l p t) (r := ⟨2, p, []⟩) HLF.out (by rw [HCC.out, if_pos hho]; exact hho))
    have HF2 : Hid ((Disk.writeC s.l p t).1 = Disk.homeE s.l p) := Lib.hid (by rw [HCC.out, if_pos hho])
    have q1 : (Disk.homeE s.l p != 0) = true := bne_iff_ne.2 hho
    obtain ⟨k, hk⟩ : ∃ k, k = Disk.homeE s.l p := ⟨_, rfl⟩
    rw [← hk] at q1 HF2 ⊢
    clear hho hk
    go_wp2
    go_returns
    exact ⟨by rw [HC1.out, HF.out, HF2.out] <;> rfl, by rw [HC1.out, HF.out]; exact (DskNow.of_below H0.out HB2.out).more (Nat.le_succ _)⟩
  have HCC2 : Hid (Disk.writeC s.l p t = if Disk.kind s.l p = 2 then (13, s.l) else (0, SM.put s.l p ⟨false, t⟩)) := Lib.hid (by rw [HCC.out, if_neg (by simpa using hho)])
  rw [hho]
  clear hho
  have H2 := Lib.hid (H.out.below HB2.out)
  have HKIND := Lib.hid (kind_any H2.out.d.c0 H2.out.d.things (bs p) hps)
  rw [bs_list] at HKIND
  go_wp2_with fail
  refine HKIND.out.mono ?_
  rintro e w3 ⟨rfl, hb3⟩
  have HB3 := Lib.hid (HB2.out.trans (hb3.mono HB2.out.size))
  by_cases hki : Disk.kind s.l p = 2
  · have HF := Lib.hid (Disk.ask_no (c := Disk.writeC s.l p t) (r := ⟨2, p, []⟩) HLF.out (by rw [HCC2.out, if_pos hki]; simp))
    have HF2 : Hid ((Disk.writeC s.l p t).1 = 13) := Lib.hid (by rw [HCC2.out, if_pos hki])
    have q1 : (Disk.kind s.l p == 2) = true := beq_iff_eq.2 hki
    obtain ⟨k, hk⟩ : ∃ k, k = Disk.kind s.l p := ⟨_, rfl⟩
    rw [← hk] at q1 ⊢
    clear hki hk
    go_wp2
    go_returns
    exact ⟨by rw [HC1.out, HF.out, HF2.out] <;> rfl, by rw [HC1.out, HF.out]; exact (DskNow.of_below H0.out HB3.out).more (Nat.le_succ _)⟩
  have HCC3 : Hid (Disk.writeC s.l p t = (0, SM.put s.l p ⟨false, t⟩)) := Lib.hid (by rw [HCC2.out, if_neg hki])
  have HF := Lib.hid (Disk.ask_yes (c := Disk.writeC s.l p t) (r := ⟨2, p, []⟩) HLF.out (by rw [HCC3.out]))
  rw [HCC3.out] at HF
  have q2 : (Disk.kind s.l p == 2) = false := beq_eq_false_iff_ne.2 hki
  obtain ⟨kk, hkk⟩ : ∃ k, k = Disk.kind s.l p := ⟨_, rfl⟩
  rw [← hkk] at q2 ⊢
  clear hki hkk
  have H3 := Lib.hid (H.out.below HB3.out)
  have d0 := H3.out.d.c0
  obtain ⟨w3, rfl⟩ : ∃ x, x = w3 := ⟨w3, rfl⟩
  clear hb1 hb2 hb3
  go_wp2_with (first | (at_mapUpdate; refine wpList_put elT rfl _ _ _ 55 rfl 63 Tryz.underlying9 Tryz.underlying55 rfl H3.out.d.things (by unfold maxLen; omega) (bs p) hps rfl (⟨false, t⟩ : Disk.T) _ rfl rfl ?_; intro w6 hm6 hg6; rw [bs_list] at hm6))
  have HP6 := Lib.hid (H3.out.put hg6 hm6)
  have HK6 := Lib.hid ((Keeps.of_below (O := O) HB3.out).then_grown hg6 (fun k e => Or.inl (by rw [← Option.some.inj e]; exact H.out.ob)))
  have HDONE := Lib.hid (done_any HP6.out (by show s.raws.length ≤ _; omega) hl 2 p [])
  clear hg6 hm6
  go_wp2_with fail
  refine HDONE.out.mono ?_
  rintro e w7 ⟨rfl, hd7⟩
  have HD7 := Lib.hid hd7
  clear hd7
  go_wp2
  go_returns
  refine ⟨by rw [HC1.out, HCC3.out, HF.out] <;> rfl, ?_⟩
  rw [HC1.out, HCC3.out, HF.out]
  exact DskNow.done HK6.out HD7.out (by omega) (by show (s.raws ++ [_]).length ≤ _; rw [List.length_append, List.length_singleton]; omega) (off_le _ hl) (Disk.ok_put HOK.out HPO.out _)
set_option maxHeartbeats 4000000 in
set_option maxRecDepth 100000 in
theorem remove_any {w : World} {B : Nat} {O : Nat → Prop} {sd n : Nat} {s : Disk.S} (h : Dsk w B O sd n s) (hE : Env w) (hn : n ≤ 1099511627776) (p : List UInt8) (hp : p.length ≤ 4398046511104) :
    Calls Tryz.prog 56 #[.pointer (some ⟨sd, 0, none⟩), .string (bs p)] w (AskPost w B O sd n (s.remove p)) := by
  have H0 := Lib.hid h
  obtain ⟨bm, m, rv, ⟨hm, hr, hl, hok⟩, h⟩ := h
  have HOK := Lib.hid hok
  have H := Lib.hid h
  have HMAY := Lib.hid (may_any h.d.c2 hE p hp)
  have hbml := h.d.bml
  have hsdl := h.d.sdl
  have hps := bs_small hp
  clear h hok
  go_enter Tryz.func56, Tryz.ntmps56
  go_wp2_with fail
  refine HMAY.out.mono ?_
  rintro e w1 ⟨rfl, hb1⟩
  have HB1 := Lib.hid hb1
  have HC1 : Hid (s.remove p = s.ask (Disk.removeC s.l p) ⟨4, p, []⟩) := Lib.hid rfl
  by_cases hmay : Disk.mayE s p = 0
  rotate_left 1
  · have HF := Lib.hid (Disk.ask_may (c := Disk.removeC s.l p) (r := ⟨4, p, []⟩) hmay (fun h => by unfold Disk.removeC; rw [h]; rfl))
    have q1 : (Disk.mayE s p != 0) = true := bne_iff_ne.2 hmay
    obtain ⟨k, hk⟩ : ∃ k, k = Disk.mayE s p := ⟨_, rfl⟩
    rw [← hk] at q1 HF ⊢
    clear hmay hk
    go_wp2
    go_returns
    exact ⟨by rw [HC1.out, HF.out] <;> rfl, by rw [HC1.out, HF.out]; exact (DskNow.of_below H0.out HB1.out).more (Nat.le_succ _)⟩
  have hlp := Disk.may_ok hmay
  have HCC : Hid (Disk.removeC s.l p = if Disk.kind s.l p = 0 then (12, s.l) else if s.l.any fun x => Disk.parent x.1 == p then (14, s.l) else (0, SM.del s.l p)) := Lib.hid (by unfold Disk.removeC; rw [hlp.2]; rfl)
  have HLF := Lib.hid hlp.1
  have HPO := Lib.hid hlp.2
  rw [hmay]
  clear hmay hlp
  have H1 := Lib.hid (H.out.below HB1.out)
  have HKIND := Lib.hid (kind_any H1.out.d.c0 H1.out.d.things (bs p) hps)
  rw [bs_list] at HKIND
  go_wp2_with fail
  refine HKIND.out.mono ?_
  rintro e w3 ⟨rfl, hb3⟩
  have HB3 := Lib.hid (HB1.out.trans (hb3.mono HB1.out.size))
  by_cases hki : Disk.kind s.l p = 0
  · have HF := Lib.hid (Disk.ask_no (c := Disk.removeC s.l p) (r := ⟨4, p, []⟩) HLF.out (by rw [HCC.out, if_pos hki]; simp))
    have HF2 : Hid ((Disk.removeC s.l p).1 = 12) := Lib.hid (by rw [HCC.out, if_pos hki])
    have q1 : (Disk.kind s.l p == 0) = true := beq_iff_eq.2 hki
    obtain ⟨k, hk⟩ : ∃ k, k = Disk.kind s.l p := ⟨_, rfl⟩
    rw [← hk] at q1 ⊢
    clear hki hk
    go_wp2
    go_returns
    exact ⟨by rw [HC1.out, HF.out, HF2.out] <;> rfl, by rw [HC1.out, HF.out]; exact (DskNow.of_below H0.out HB3.out).more (Nat.le_succ _)⟩
  have HCC2 : Hid (Disk.removeC s.l p = if s.l.any fun x => Disk.parent x.1 == p then (14, s.l) else (0, SM.del s.l p)) := Lib.hid (by rw [HCC.out, if_neg hki])
  have q2 : (Disk.kind s.l p == 0) = false := beq_eq_false_iff_ne.2 hki
  obtain ⟨kk, hkk⟩ : ∃ k, k = Disk.kind s.l p := ⟨_, rfl⟩
  rw [← hkk] at q2 ⊢
  clear hki hkk hb1 hb3
  have H3 := Lib.hid (H.out.below HB3.out)
  have d0 := H3.out.d.c0
  have hz3 := HB3.out.size
  have hbm3 := H3.out.d.bml
  have hsd3 := H3.out.d.sdl
  obtain ⟨w3, rfl⟩ : ∃ x, x = w3 := ⟨w3, rfl⟩
  go_wp2_with (first | (at_range; refine wpList_range elT rfl _ 55 rfl 63 Tryz.underlying9 Tryz.underlying55 rfl H3.out.d.things ?_; intro w4 cnt0 hrg hg4 hs4))
  try go_frame
  have HB4 : Hid (Below w3.heap.size w3 w4) := Lib.hid ((Below.refl _ _).grown hg4 (Nat.le_refl _) (fun j hj => by cases hj))
  go_loopw [6] (fun _ wr => ∃ left cnt, SRange Tryz.prog 9 elT wr bm w3.heap.size m s.l left cnt ∧ (∀ x ∈ s.l, left x.1 = false → (Disk.parent x.1 == p) = false) ∧ Below w3.heap.size w3 wr) (fun _ wr => wr.rangeLeft bm w3.heap.size)
  case atStart =>
    refine ⟨_, _, hrg, fun x hx h => ?_, HB4.out⟩
    rw [SM.look_mem H3.out.d.things.rises hx] at h
    exact absurd h (by simp)
  case round =>
    obtain ⟨left, cnt, hrg5, hall, hB5⟩ := hrel
    obtain ⟨w5, rfl⟩ : ∃ x, x = wr := ⟨wr, rfl⟩
    have HRG := Lib.hid hrg5
    have HALL := Lib.hid hall
    have HB5 := Lib.hid hB5
    have H5 := Lib.hid (H3.out.below hB5)
    have d5 := H5.out.d.c0
    have hz5 := hB5.size
    clear hrg5 hall hB5 hrg hg4 hs4 d0
    go_wp2_with (first | (at_next; refine wpList_next elT rfl _ rfl Tryz.underlying9 (fun c => .agg #[.bool c.dir, .string (bs c.data)]) (fun c => rfl) rfl HRG.out ?_ ?_))
    · intro hno
      have HANY : Hid ((s.l.any fun x => Disk.parent x.1 == p) = false) := Lib.hid (by
        rw [List.any_eq_false]
        intro x hx
        rw [HALL.out x hx (hno _)]
        simp)
      clear hno
      have HCC3 : Hid (Disk.removeC s.l p = (0, SM.del s.l p)) := Lib.hid (by rw [HCC2.out, HANY.out]; rfl)
      have HF := Lib.hid (Disk.ask_yes (c := Disk.removeC s.l p) (r := ⟨4, p, []⟩) HLF.out (by rw [HCC3.out]))
      rw [HCC3.out] at HF
      have HKP : Hid (Keeps O w w5) := Lib.hid (Keeps.of_below (HB3.out.trans (HB5.out.mono HB3.out.size)))
      go_wp2_with (first | (at_delete; refine wpList_del elT rfl _ _ 55 rfl 63 Tryz.underlying9 Tryz.underlying55 rfl H5.out.d.things (bs p) hps rfl ?_; intro w6 hm6 hg6; rw [bs_list] at hm6))
      have HP6 := Lib.hid (H5.out.put hg6 hm6)
      have HK6 := Lib.hid (HKP.out.then_grown hg6 (fun k e => Or.inl (by rw [← Option.some.inj e]; exact H.out.ob)))
      have HDONE := Lib.hid (done_any HP6.out (by show s.raws.length ≤ _; omega) hl 4 p [])
      clear hg6 hm6
      go_wp2_with fail
      refine HDONE.out.mono ?_
      rintro e w7 ⟨rfl, hd7⟩
      have HD7 := Lib.hid hd7
      clear hd7
      go_wp2
      go_returns
      refine ⟨by rw [HC1.out, HCC3.out, HF.out] <;> rfl, ?_⟩
      rw [HC1.out, HCC3.out, HF.out]
      exact DskNow.done HK6.out HD7.out (by omega) (by show (s.raws ++ [_]).length ≤ _; rw [List.length_append, List.length_singleton]; omega) (off_le _ hl) (Disk.ok_del HOK.out _)
    · intro x c w6 cnt1 hls hlk hss hrg6 hlt hg6 hs6 hen
      have HB6 := Lib.hid (HB5.out.grown hg6 hz5 (fun j hj => by cases hj; exact Nat.le_refl _))
      have HRG6 := Lib.hid hrg6
      have hmem := SM.look_some hlk
      have hxl : x.size ≤ 4096 := by
        have := Disk.pathOk_length (HOK.out _ hmem)
        simpa using this
      have HPAR := Lib.hid (parent_any x (by omega))
      obtain ⟨q, hq⟩ : ∃ q, q = Disk.parent x.data.toList := ⟨_, rfl⟩
      rw [← hq] at HPAR
      have HNX : Hid (q ≠ p → ∀ y ∈ s.l, (left y.1 && !(y.1 == x.data.toList)) = false → (Disk.parent y.1 == p) = false) := Lib.hid (fun h y hy h2 => by
        by_cases he : y.1 = x.data.toList
        · rw [he, ← hq]; exact beq_eq_false_iff_ne.2 h
        · rw [beq_eq_false_iff_ne.2 he] at h2
          exact HALL.out y hy (by simpa using h2))
      have HNO : Hid (q = p → (s.l.any fun x => Disk.parent x.1 == p) = true) := Lib.hid (fun h => by
        rw [List.any_eq_true]
        exact ⟨_, hmem, by rw [← h, hq]; exact beq_self_eq_true _⟩)
      have HLT := Lib.hid hlt
      have hqe := sv_inj (a := q) (b := p)
      clear hls hlk hrg6 hmem hq hlt hg6
      by_cases he : q = p
      · have HANY := Lib.hid (HNO.out he)
        have HCC3 : Hid (Disk.removeC s.l p = (14, s.l)) := Lib.hid (by rw [HCC2.out, HANY.out]; rfl)
        have HF := Lib.hid (Disk.ask_no (c := Disk.removeC s.l p) (r := ⟨4, p, []⟩) HLF.out (by rw [HCC3.out]; simp))
        rw [HCC3.out] at HF
        rw [decide_eq_true he] at hqe
        clear he
        go_wp2_with fail
        refine (HPAR.out _).mono ?_
        rintro e w7 ⟨rfl, rfl⟩
        go_wp2
        go_returns
        exact ⟨by rw [HC1.out, HCC3.out, HF.out] <;> rfl, by rw [HC1.out, HCC3.out, HF.out]; exact (DskNow.of_below H0.out (HB3.out.trans (HB6.out.mono HB3.out.size))).more (Nat.le_succ _)⟩
      · have HK := Lib.hid (HNX.out he)
        rw [decide_eq_false he] at hqe
        clear he
        go_wp2_with fail
        refine (HPAR.out _).mono ?_
        rintro e w7 ⟨rfl, rfl⟩
        go_wp2
        go_roundw
        case rel => exact ⟨_, cnt1, HRG6.out, HK.out, HB6.out⟩
        case measure => rw [HRG6.out.left_eq, HRG.out.left_eq]; exact HLT.out
end Go.Proofs.YtdogacgpfnolfaaGreatDoor

namespace Go.Proofs.YtdogacgpfnolfaaGreatDoor
open Go.RowKit Go.Maps
set_option linter.unusedSimpArgs false
set_option linter.unusedVariables false
set_option maxHeartbeats 8000000 in
set_option maxRecDepth 100000 in
theorem rename_any {w : World} {B : Nat} {O : Nat → Prop} {sd n : Nat} {s : Disk.S} (h : Dsk w B O sd n s) (hE : Env w) (hEB : w.heap.size ≥ B) (hn : n ≤ 1099511627776) (p q : List UInt8) (hp : p.length ≤ 4398046511104) (hq : q.length ≤ 4398046511104) :
    Calls Tryz.prog 26 #[.pointer (some ⟨sd, 0, none⟩), .string (bs p), .string (bs q)] w (AskPost w B O sd n (s.rename p q)) := by
  have H0 := Lib.hid h
  obtain ⟨bm, m, rv, ⟨hm, hr, hl, hok⟩, h⟩ := h
  have HOK := Lib.hid hok
  have H := Lib.hid h
  have HMAY := Lib.hid (may_any h.d.c2 hE p hp)
  have HMAY2 := Lib.hid (fun (W : World) (hb : Below w.heap.size w W) => may_any (h.below hb).d.c2 (hE.below hb (Nat.le_refl _)) q hq)
  have hbml := h.d.bml
  have hsdl := h.d.sdl
  have hps := bs_small hp
  have hqs := bs_small hq
  clear h hok hE
  have HNO : Hid (∀ w' k, Below w.heap.size w w' → s.rename p q = (k, s) → AskPost w B O sd n (s.rename p q) (.returned (.int .i64 k)) w') := Lib.hid (fun w' k h1 h2 => by
    rw [h2]
    exact ⟨rfl, (DskNow.of_below H0.out h1).more (Nat.le_succ _)⟩)
  have HC1 : Hid (s.rename p q = s.ask (Disk.renameC s.l p q) ⟨3, p, q⟩) := Lib.hid rfl
  have HCC0 : Hid (Disk.renameC s.l p q = if !Disk.pathOk p then (10, s.l) else if !Disk.pathOk q then (10, s.l) else if Disk.kind s.l p = 0 then (12, s.l) else if Disk.kind s.l p = 2 then (13, s.l) else
    if Disk.homeE s.l q ≠ 0 then (Disk.homeE s.l q, s.l) else if Disk.kind s.l q = 2 then (13, s.l) else (0, SM.put (SM.del s.l p) q ((SM.look s.l p).getD ⟨false, []⟩))) := Lib.hid rfl
  obtain ⟨c, hc⟩ : ∃ c, c = Disk.renameC s.l p q := ⟨_, rfl⟩
  rw [← hc] at HC1 HCC0
  have HOKC : Hid (∀ x ∈ c.2, Disk.pathOk x.1 = true) := Lib.hid (by rw [hc]; exact Disk.renameC_ok HOK.out p q)
  clear hc
  obtain ⟨R, hR⟩ : ∃ R, R = s.rename p q := ⟨_, rfl⟩
  rw [← hR] at HC1 HNO ⊢
  clear hR
  go_enter Tryz.func26, Tryz.ntmps26
  go_wp2_with fail
  refine HMAY.out.mono ?_
  rintro e w1 ⟨rfl, hb1⟩
  have HB1 := Lib.hid hb1
  clear hb1
  obtain ⟨k1, hk1⟩ : ∃ k, k = Disk.mayE s p := ⟨_, rfl⟩
  have HK1 := Lib.hid hk1
  rw [← hk1]
  clear hk1
  by_cases h1 : k1 = 0
  rotate_left 1
  · have q1 : (k1 != 0) = true := bne_iff_ne.2 h1
    have HF := Lib.hid (HNO.out _ k1 HB1.out (by
      rw [HC1.out, Disk.ask_may (p := p) (by rw [← HK1.out]; exact h1) (fun h => by rw [HCC0.out, h]; rfl), ← HK1.out]))
    clear h1
    go_wp2
    go_returns
    exact HF.out
  subst h1
  have hlp := Disk.may_ok HK1.out.symm
  have HLF := Lib.hid hlp.1
  have HCC1 : Hid (c = if !Disk.pathOk q then (10, s.l) else if Disk.kind s.l p = 0 then (12, s.l) else if Disk.kind s.l p = 2 then (13, s.l) else
    if Disk.homeE s.l q ≠ 0 then (Disk.homeE s.l q, s.l) else if Disk.kind s.l q = 2 then (13, s.l) else (0, SM.put (SM.del s.l p) q ((SM.look s.l p).getD ⟨false, []⟩))) := Lib.hid (by rw [HCC0.out, hlp.2]; rfl)
  clear hlp
  go_wp2_with fail
  refine (HMAY2.out _ HB1.out).mono ?_
  rintro e w2 ⟨rfl, hb2⟩
  have HB2 := Lib.hid (HB1.out.trans (hb2.mono HB1.out.size))
  clear hb2
  obtain ⟨k2, hk2⟩ : ∃ k, k = Disk.mayE s q := ⟨_, rfl⟩
  have HK2 := Lib.hid hk2
  rw [← hk2]
  clear hk2
  by_cases h1 : k2 = 0
  rotate_left 1
  · have q1 : (k2 != 0) = true := bne_iff_ne.2 h1
    have HF := Lib.hid (HNO.out _ k2 HB2.out (by
      rw [HC1.out, Disk.ask_may (p := q) (by rw [← HK2.out]; exact h1) (fun h => by rw [HCC1.out, h]; rfl), ← HK2.out]))
    clear h1
    go_wp2
    go_returns
    exact HF.out
  subst h1
  have hlp := Disk.may_ok HK2.out.symm
  have HCC2 : Hid (c = if Disk.kind s.l p = 0 then (12, s.l) else if Disk.kind s.l p = 2 then (13, s.l) else
    if Disk.homeE s.l q ≠ 0 then (Disk.homeE s.l q, s.l) else if Disk.kind s.l q = 2 then (13, s.l) else (0, SM.put (SM.del s.l p) q ((SM.look s.l p).getD ⟨false, []⟩))) := Lib.hid (by rw [HCC1.out, hlp.2]; rfl)
  clear hlp
  have H2 := Lib.hid (H.out.below HB2.out)
  have HKIND := Lib.hid (kind_any H2.out.d.c0 H2.out.d.things (bs p) hps)
  rw [bs_list] at HKIND
  have HNC : Hid (∀ w' k, Below w.heap.size w w' → c = (k, s.l) → k ≠ 0 → AskPost w B O sd n R (.returned (.int .i64 k)) w') := Lib.hid (fun w' k h1 h2 h3 => HNO.out _ k h1 (by
    rw [HC1.out, Disk.ask_no HLF.out (by rw [h2]; exact h3), h2]))
  go_wp2_with fail
  refine HKIND.out.mono ?_
  rintro e w3 ⟨rfl, hb3⟩
  have HB3 := Lib.hid (HB2.out.trans (hb3.mono HB2.out.size))
  clear hb3
  obtain ⟨k3, hk3⟩ : ∃ k, k = Disk.kind s.l p := ⟨_, rfl⟩
  rw [← hk3] at HCC2 ⊢
  clear hk3
  by_cases h1 : k3 = 0
  · have HF := Lib.hid (HNC.out _ 12 HB3.out (by rw [HCC2.out, if_pos h1]) (by decide))
    have q1 : (k3 == 0) = true := beq_iff_eq.2 h1
    clear h1
    go_wp2
    go_returns
    exact HF.out
  by_cases h2 : k3 = 2
  · have HF := Lib.hid (HNC.out _ 13 HB3.out (by rw [HCC2.out, if_neg h1, if_pos h2]) (by decide))
    have q1 : (k3 == 0) = false := beq_eq_false_iff_ne.2 h1
    have q2 : (k3 == 2) = true := beq_iff_eq.2 h2
    clear h1 h2
    go_wp2
    go_returns
    exact HF.out
  have HCC3 : Hid (c = if Disk.homeE s.l q ≠ 0 then (Disk.homeE s.l q, s.l) else if Disk.kind s.l q = 2 then (13, s.l) else (0, SM.put (SM.del s.l p) q ((SM.look s.l p).getD ⟨false, []⟩))) := Lib.hid (by rw [HCC2.out, if_neg h1, if_neg h2])
  have q1 : (k3 == 0) = false := beq_eq_false_iff_ne.2 h1
  have q2 : (k3 == 2) = false := beq_eq_false_iff_ne.2 h2
  clear h1 h2
  have H3 := Lib.hid (H.out.below HB3.out)
  have HHOME := Lib.hid (home_any H3.out.d.c0 H3.out.d.things q hq)
  go_wp2_with fail
  refine HHOME.out.mono ?_
  rintro e w4 ⟨rfl, hb4⟩
  have HB4 := Lib.hid (HB3.out.trans (hb4.mono HB3.out.size))
  clear hb4 q1 q2
  obtain ⟨k4, hk4⟩ : ∃ k, k = Disk.homeE s.l q := ⟨_, rfl⟩
  rw [← hk4] at HCC3 ⊢
  clear hk4
  by_cases h1 : k4 = 0
  rotate_left 1
  · have HF := Lib.hid (HNC.out _ k4 HB4.out (by rw [HCC3.out, if_pos h1]) h1)
    have q1 : (k4 != 0) = true := bne_iff_ne.2 h1
    clear h1
    go_wp2
    go_returns
    exact HF.out
  subst h1
  have HCC4 : Hid (c = if Disk.kind s.l q = 2 then (13, s.l) else (0, SM.put (SM.del s.l p) q ((SM.look s.l p).getD ⟨false, []⟩))) := Lib.hid (by rw [HCC3.out, if_neg (by simp)])
  have H4 := Lib.hid (H.out.below HB4.out)
  have HKIND2 := Lib.hid (kind_any H4.out.d.c0 H4.out.d.things (bs q) hqs)
  rw [bs_list] at HKIND2
  go_wp2_with fail
  refine HKIND2.out.mono ?_
  rintro e w5 ⟨rfl, hb5⟩
  have HB5 := Lib.hid (HB4.out.trans (hb5.mono HB4.out.size))
  clear hb5
  obtain ⟨k5, hk5⟩ : ∃ k, k = Disk.kind s.l q := ⟨_, rfl⟩
  rw [← hk5] at HCC4 ⊢
  clear hk5
  by_cases h1 : k5 = 2
  · have HF := Lib.hid (HNC.out _ 13 HB5.out (by rw [HCC4.out, if_pos h1]) (by decide))
    have q1 : (k5 == 2) = true := beq_iff_eq.2 h1
    clear h1
    go_wp2
    go_returns
    exact HF.out
  have q1 : (k5 == 2) = false := beq_eq_false_iff_ne.2 h1
  obtain ⟨z, hz⟩ : ∃ z, z = (SM.look s.l p).getD zeroT := ⟨_, rfl⟩
  have HCC5 : Hid (c = (0, SM.put (SM.del s.l p) q z)) := Lib.hid (by rw [HCC4.out, if_neg h1, hz]; rfl)
  have HV : Hid (elT.val ((SM.look s.l (bs p).data.toList).getD zeroT) = .agg #[.bool z.dir, .string (bs z.data)]) := Lib.hid (by rw [bs_list, ← hz]; rfl)
  have HF := Lib.hid (Disk.ask_yes (c := c) (r := ⟨3, p, q⟩) HLF.out (by rw [HCC5.out]))
  clear h1 hz
  have H5 := Lib.hid (H.out.below HB5.out)
  obtain ⟨w5, rfl⟩ : ∃ x, x = w5 := ⟨w5, rfl⟩
  have d0 := H5.out.d.c0
  have hsd5 := H5.out.d.sdl
  have hbm5 := H5.out.d.bml
  obtain ⟨W2, hW2⟩ : ∃ x, x = w5.alloc (.cells #[.bool z.dir, .string (bs z.data)] 63) := ⟨_, rfl⟩
  have hB2 : Below w5.heap.size w5 W2 := by rw [hW2]; exact (Below.refl _ _).alloc (Nat.le_refl _) _
  have g1 : W2.cell? ⟨w5.heap.size, 0, none⟩ = some (.bool z.dir) := by rw [hW2]; simp
  have g2 : W2.cell? ⟨w5.heap.size, 1, none⟩ = some (.string (bs z.data)) := by rw [hW2]; simp
  have gs : W2.heap.size = w5.heap.size + 1 := by rw [hW2]; simp
  have HW2 := Lib.hid hB2
  have H6 := Lib.hid (H5.out.below hB2)
  have e0 := H6.out.d.c0
  rw [hW2] at e0
  clear hB2
  go_wp2_with (first | (at_lookup; refine wpList_look elT rfl _ _ 55 rfl 63 Tryz.underlying9 Tryz.underlying55 zeroT (zT _) rfl H5.out.d.things (bs p) hps rfl _ HV.out ?_) | (at_delete; rw [← hW2]; refine wpList_del elT rfl _ _ 55 rfl 63 Tryz.underlying9 Tryz.underlying55 rfl H6.out.d.things (bs p) hps rfl ?_; intro w6 hm6 hg6; rw [bs_list] at hm6; have HP6 := Lib.hid (H6.out.put hg6 hm6); have e6 := HP6.out.d.c0; have HG6 := Lib.hid hg6; have k1 := (World.cell?_of_block (a := ⟨w5.heap.size, 0, none⟩) (hg6.block w5.heap.size (by omega) (fun e => by have := Option.some.inj e; omega))).trans g1; have k2 := (World.cell?_of_block (a := ⟨w5.heap.size, 1, none⟩) (hg6.block w5.heap.size (by omega) (fun e => by have := Option.some.inj e; omega))).trans g2; clear hm6 hg6 hW2 e0 d0))
  refine still_tail 6 (by kernel_rfl) (by kernel_rfl) (fun w7 hw7 => ?_)
  have HP7 : Hid (DskAt w7 B O sd bm m rv ⟨SM.del s.l p, s.raws, s.left⟩) := Lib.hid (by rw [hw7]; exact HP6.out.below (Below.refl _ _).drew)
  have HB67 : Hid (Below w6.heap.size w6 w7) := Lib.hid (by rw [hw7]; exact (Below.refl _ _).drew)
  have d7 := HP7.out.d.c0
  rw [show w6.cell? ⟨w5.heap.size, 0, none⟩ = w7.cell? ⟨w5.heap.size, 0, none⟩ by rw [hw7]; rfl] at k1
  rw [show w6.cell? ⟨w5.heap.size, 1, none⟩ = w7.cell? ⟨w5.heap.size, 1, none⟩ by rw [hw7]; rfl] at k2
  clear hw7 e6
  simp only [List.take_succ_cons, List.take_zero, List.drop_succ_cons, List.drop_zero]
  iterate 6 still_step
  refine wpStill_nil ?_
  go_wp2_with (first | (at_mapUpdate; refine wpList_put elT rfl _ _ _ 55 rfl 63 Tryz.underlying9 Tryz.underlying55 rfl HP7.out.d.things (by unfold maxLen; omega) (bs q) hqs rfl (⟨z.dir, z.data⟩ : Disk.T) _ rfl rfl ?_; intro w8 hm8 hg8; rw [bs_list] at hm8))
  have HP8 := Lib.hid (HP7.out.put hg8 hm8)
  have HK8 : Hid (Keeps O w w8) := Lib.hid (by
    have k0 : Keeps O w W2 := Keeps.of_below (HB5.out.trans (HW2.out.mono HB5.out.size))
    have k1 := k0.then_grown HG6.out (fun k e => Or.inl (by rw [← Option.some.inj e]; exact H.out.ob))
    have k2 := k1.then_below HB67.out
    exact k2.then_grown hg8 (fun k e => Or.inl (by rw [← Option.some.inj e]; exact H.out.ob)))
  have HDONE := Lib.hid (done_any HP8.out (by show s.raws.length ≤ _; omega) hl 3 p q)
  clear hg8 hm8 k1 k2 g1 g2
  go_wp2_with fail
  refine HDONE.out.mono ?_
  rintro e w9 ⟨rfl, hd9⟩
  have HD9 := Lib.hid hd9
  clear hd9
  go_wp2
  go_returns
  have HR : R = (0, s.did (SM.put (SM.del s.l p) q ⟨z.dir, z.data⟩) ⟨3, p, q⟩) := by rw [HC1.out, HF.out, HCC5.out]
  refine ⟨by rw [HR] <;> rfl, ?_⟩
  rw [HR]
  exact DskNow.done HK8.out HD9.out (by omega) (by show (s.raws ++ [_]).length ≤ _; rw [List.length_append, List.length_singleton]; omega) (off_le _ hl) (by have := HOKC.out; rw [HCC5.out] at this; exact this)
end Go.Proofs.YtdogacgpfnolfaaGreatDoor
