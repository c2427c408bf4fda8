/- journal's do, gone and end: the walks. -/
import Derived.Test.YtdogacgpfnolfaaGreatDoorJrA
import Derived.Test.YtdogacgpfnolfaaGreatDoorPAgainL
import Derived.Test.YtdogacgpfnolfaaGreatDoorZList1
namespace Go.Proofs.YtdogacgpfnolfaaGreatDoor
open Go.RowKit Go.Maps
set_option linter.unusedSimpArgs false
set_option linter.unusedVariables false
/-- What a walk of the journal's leaves. -/
def JPost (w : World) (B : Nat) (O : Nat → Prop) (sd n : Nat) (r : Int × Disk.S) (e : Ending) (w' : World) : Prop := e = .returned (.int .i64 r.1) ∧ DskNow w w' B O sd n r.2
theorem DskNow.after {w w1 w2 : World} {B : Nat} {O O1 : Nat → Prop} {sd n : Nat} {s : Disk.S} (hk : Keeps O w w1) (hO : ∀ k, O1 k → O k ∨ w.heap.size ≤ k) (h : DskNow w1 w2 B O1 sd n s) : DskNow w w2 B O sd n s := by
  obtain ⟨⟨O2, h1, h2⟩, h3⟩ := h
  exact ⟨⟨O2, h1, fun k hk2 => by
    rcases h2 k hk2 with h | h
    · exact hO k h
    · exact Or.inr (Nat.le_trans hk.size h)⟩, hk.trans h3 hO⟩
theorem env_keeps {w w' : World} {O : Nat → Prop} {B : Nat} (h : Env w) (hk : Keeps O w w') (hO : ∀ k, O k → B ≤ k) (hg : 0 < B) : Env w' := by
  obtain ⟨m, hm⟩ := h
  exact ⟨m, (World.cell?_of_block (hk.block _ (size_of_cell hm) (fun hh => by have h2 : B ≤ 0 := hO _ hh; omega))).trans hm⟩
/-- The slice v has the deeds ds, in a block that is none of O. -/
def DeedsOff (w : World) (O : Nat → Prop) (v : Value) (ds : List PL.Plan.D) : Prop := ∃ a cap, v = .slice a ds.length cap ∧ ∀ (i : Nat) d, ds[i]? = some d → ∃ bk o, a = some ⟨bk, o, none⟩ ∧ (bk < w.heap.size ∧ ¬ O bk) ∧
    w.cell? ⟨bk, o + i * 3, none⟩ = some (.int .i64 d.kind) ∧ w.cell? ⟨bk, o + i * 3 + 1, none⟩ = some (.string (bs d.path)) ∧ w.cell? ⟨bk, o + i * 3 + 2, none⟩ = some (.string (bs d.data))
theorem DeedsOff.deeds {w : World} {O : Nat → Prop} {v : Value} {ds : List PL.Plan.D} (h : DeedsOff w O v ds) : PL.Deeds w w.heap.size v ds := by
  obtain ⟨a, cap, hv, hc⟩ := h
  refine ⟨a, cap, hv, fun i d hd => ?_⟩
  obtain ⟨bk, o, h1, h2, h3⟩ := hc i d hd
  exact ⟨bk, o, h1, h2.1, h3⟩
theorem DeedsOff.of_deeds {w : World} {O : Nat → Prop} {B : Nat} {v : Value} {ds : List PL.Plan.D} (h : PL.Deeds w B v ds) (hB : B ≤ w.heap.size) (hO : ∀ k, O k → B ≤ k) : DeedsOff w O v ds := by
  obtain ⟨a, cap, hv, hc⟩ := h.is
  refine ⟨a, cap, hv, fun i d hd => ?_⟩
  obtain ⟨bk, o, h1, h2, h3⟩ := hc i d hd
  exact ⟨bk, o, h1, ⟨by omega, fun hh => by have := hO _ hh; omega⟩, h3⟩
theorem DeedsOff.keeps {w w' : World} {O O1 : Nat → Prop} {v : Value} {ds : List PL.Plan.D} (h : DeedsOff w O v ds) (hk : Keeps O w w') (hO : ∀ k, O1 k → O k ∨ w.heap.size ≤ k) : DeedsOff w' O1 v ds := by
  obtain ⟨a, cap, hv, hc⟩ := h
  refine ⟨a, cap, hv, fun i d hd => ?_⟩
  obtain ⟨bk, o, h1, ⟨h2, h3⟩, c1, c2, c3⟩ := hc i d hd
  have hs := hk.block bk h2 h3
  exact ⟨bk, o, h1, ⟨Nat.lt_of_lt_of_le h2 hk.size, fun hh => by
    rcases hO bk hh with h | h
    · exact h3 h
    · omega⟩, (World.cell?_of_block hs).trans c1, (World.cell?_of_block hs).trans c2, (World.cell?_of_block hs).trans c3⟩
theorem Dsk.kind {w : World} {B : Nat} {O : Nat → Prop} {sd n : Nat} {s : Disk.S} (h : Dsk w B O sd n s) (p : List UInt8) (hp : p.length ≤ 4398046511104) :
    Calls Tryz.prog 11 #[.pointer (some ⟨sd, 0, none⟩), .string (bs p)] w fun e w' => e = .returned (.int .i64 (Disk.kind s.l p)) ∧ Below w.heap.size w w' := by
  obtain ⟨bm, m, rv, hm, h1⟩ := h
  have := kind_any h1.d.c0 h1.d.things (bs p) (bs_small hp)
  rw [bs_list] at this
  exact this
theorem Dsk.list {w : World} {B : Nat} {O : Nat → Prop} {sd n : Nat} {s : Disk.S} (h : Dsk w B O sd n s) (hE : Env w) (hn : s.l.length ≤ 1099511627776) (p : List UInt8) (hp : p.length ≤ 4398046511104) :
    Calls Tryz.prog 28 #[.pointer (some ⟨sd, 0, none⟩), .string (bs p)] w (ListPost s.l p w) := by
  obtain ⟨bm, m, rv, hm, h1⟩ := h
  exact list_any h1.d.c0 h1.d.things hE hm.2.2.2 hn p hp
theorem Dsk.read {w : World} {B : Nat} {O : Nat → Prop} {sd n : Nat} {s : Disk.S} (h : Dsk w B O sd n s) (hE : Env w) (p : List UInt8) (hp : p.length ≤ 4398046511104) :
    Calls Tryz.prog 20 #[.pointer (some ⟨sd, 0, none⟩), .string (bs p)] w fun e w' => e = .returned (.tuple #[.string (bs (Disk.readR s.l p).1), .int .i64 (Disk.readR s.l p).2]) ∧ Below w.heap.size w w' := by
  obtain ⟨bm, m, rv, hm, h1⟩ := h
  exact read_disk h1.d.c0 h1.d.things hE p hp
theorem Dsk.all {w : World} {B : Nat} {O : Nat → Prop} {sd n : Nat} {s : Disk.S} (h : Dsk w B O sd n s) (hn : s.l.length ≤ 1099511627776) :
    Calls Tryz.prog 15 #[.pointer (some ⟨sd, 0, none⟩)] w fun e w' => ∃ v, e = .returned v ∧ FRow w' w.heap.size v (fls s.l) ∧ Below w.heap.size w w' := by
  obtain ⟨bm, m, rv, hm, h1⟩ := h
  exact all_any h1.d.c0 h1.d.things hn
theorem Dsk.raws {w : World} {B : Nat} {O : Nat → Prop} {sd n : Nat} {s : Disk.S} (h : Dsk w B O sd n s) (hn : n ≤ 1099511627776) :
    Calls Tryz.prog 10 #[.pointer (some ⟨sd, 0, none⟩)] w fun e w' => ∃ v, e = .returned v ∧ RwRow w' w.heap.size v s.raws ∧ Below w.heap.size w w' := by
  obtain ⟨bm, m, rv, hm, h1⟩ := h
  exact told_raws h1 (by have := hm.2.1; omega)
theorem Dsk.down {w : World} {B : Nat} {O : Nat → Prop} {sd n : Nat} {s : Disk.S} (h : Dsk w B O sd n s) :
    Calls Tryz.prog 21 #[.pointer (some ⟨sd, 0, none⟩)] w fun e w' => e = .returned (.bool (decide (s.left = 0))) ∧ w = w' := (down_any h.form).mono fun e w' h => ⟨h.1, h.2.symm⟩
theorem doJ_rem {s : Disk.S} {d : Disk.Dd} (h : (d.kind = 1 ∧ Disk.kind s.l d.path = 1) ∨ (d.kind = 2 ∧ Disk.kind s.l d.path = 2)) : s.doJ d = s.remove d.path := by
  unfold Disk.S.doJ Disk.coreJ
  rw [if_pos h]
  rfl
theorem doJ_mk {s : Disk.S} {d : Disk.Dd} (h : d.kind = 3 ∧ Disk.kind s.l d.path = 0) : s.doJ d = s.mkdir d.path := by
  unfold Disk.S.doJ Disk.coreJ
  rw [if_neg (by omega), if_pos h]
  rfl
theorem doJ_put {s : Disk.S} {d : Disk.Dd} (h : d.kind = 4 ∧ Disk.readR s.l d.path ≠ (d.data, 0)) : s.doJ d = s.write d.path d.data := by
  unfold Disk.S.doJ Disk.coreJ
  rw [if_neg (by omega), if_neg (by omega), if_pos h]
  rfl
theorem doJ_no {s : Disk.S} {d : Disk.Dd} (h1 : ¬ ((d.kind = 1 ∧ Disk.kind s.l d.path = 1) ∨ (d.kind = 2 ∧ Disk.kind s.l d.path = 2))) (h3 : ¬ (d.kind = 3 ∧ Disk.kind s.l d.path = 0)) (h4 : ¬ (d.kind = 4 ∧ Disk.readR s.l d.path ≠ (d.data, 0))) : s.doJ d = (0, s) := by
  unfold Disk.S.doJ Disk.coreJ
  rw [if_neg h1, if_neg h3, if_neg h4]
set_option maxHeartbeats 4000000 in
set_option maxRecDepth 100000 in
theorem do_any {w : World} {B : Nat} {O : Nat → Prop} {sd n : Nat} {s : Disk.S} (h : Dsk w B O sd n s) (hE : Env w) (hn : n ≤ 1099511627776) (k : Int) (p t : List UInt8) (hp : p.length ≤ 4398046511104) :
    Calls Tryz.prog 48 #[.pointer (some ⟨sd, 0, none⟩), .agg #[.int .i64 k, .string (bs p), .string (bs t)]] w (AskPost w B O sd n (s.doJ ⟨k, p, t⟩)) := by
  have hsz : (w.alloc (.cells #[.int .i64 k, .string (bs p), .string (bs t)] 39)).heap.size = w.heap.size + 1 := by simp
  obtain ⟨W, hW⟩ : ∃ W, W = w.alloc (.cells #[.int .i64 k, .string (bs p), .string (bs t)] 39) := ⟨_, rfl⟩
  have g0 : W.cell? ⟨w.heap.size, 0, none⟩ = some (.int .i64 k) := by rw [hW]; simp
  have g1 : W.cell? ⟨w.heap.size, 1, none⟩ = some (.string (bs p)) := by rw [hW]; simp
  have g2 : W.cell? ⟨w.heap.size, 2, none⟩ = some (.string (bs t)) := by rw [hW]; simp
  have hb : Below w.heap.size w W := by rw [hW]; exact (Below.refl _ w).alloc (Nat.le_refl _) _
  have hz : W.heap.size = w.heap.size + 1 := by rw [hW]; exact hsz
  have HB := Lib.hid hb
  have H := Lib.hid (h.below hb)
  have HE := Lib.hid (fun (V : World) (hv : Below w.heap.size w V) => hE.below hv (Nat.le_refl _))
  have HH := Lib.hid h
  have HK := Lib.hid (Dsk.kind H.out p hp)
  clear hsz hb h
  by_cases h1 : k = 1
  · subst h1
    by_cases hkw : Disk.kind s.l p = 1
    · have HS : Hid (s.doJ ⟨1, p, t⟩ = s.remove p) := Lib.hid (doJ_rem (d := ⟨1, p, t⟩) (Or.inl ⟨rfl, hkw⟩))
      rw [HS.out]
      rw [hkw] at HK
      clear hkw HS
      go_enter Tryz.func48, Tryz.ntmps48
      go_wp2_with fail
      rw [← hW]
      refine HK.out.mono ?_
      rintro e w1 ⟨rfl, hb1⟩
      have f0 := (hb1.cell (p := ⟨w.heap.size, 0, none⟩) (by show w.heap.size < _; omega)).trans g0
      have f1 := (hb1.cell (p := ⟨w.heap.size, 1, none⟩) (by show w.heap.size < _; omega)).trans g1
      have f2 := (hb1.cell (p := ⟨w.heap.size, 2, none⟩) (by show w.heap.size < _; omega)).trans g2
      have HB1 := Lib.hid (HB.out.trans (hb1.mono (by omega)))
      have HH1 := Lib.hid (H.out.below hb1)
      have hz1 := hb1.size
      clear hW g0 g1 g2 hb1
      have HC := Lib.hid (remove_any HH1.out (HE.out _ HB1.out) hn p hp)
      go_wp2_with fail
      refine HC.out.mono ?_
      rintro e w2 ⟨rfl, hd2⟩
      have HD := Lib.hid (DskNow.ahead (Keeps.of_below HB1.out) hd2)
      clear hd2
      go_wp2
      go_returns
      exact And.intro rfl HD.out
    · have HS : Hid (s.doJ ⟨1, p, t⟩ = (0, s)) := Lib.hid (doJ_no (d := ⟨1, p, t⟩) (by rintro (⟨e, e'⟩ | ⟨e, e'⟩); exact hkw e'; exact absurd (show (1 : Int) = 2 from e) (by decide)) (fun e => absurd (show (1 : Int) = 3 from e.1) (by decide)) (fun e => absurd (show (1 : Int) = 4 from e.1) (by decide)))
      rw [HS.out]
      have hq : (Disk.kind s.l p == 1) = false := beq_eq_false_iff_ne.2 hkw
      obtain ⟨kk, hkk⟩ : ∃ kk, kk = Disk.kind s.l p := ⟨_, rfl⟩
      rw [← hkk] at HK hq
      clear hkw hkk HS
      go_enter Tryz.func48, Tryz.ntmps48
      go_wp2_with fail
      rw [← hW]
      refine HK.out.mono ?_
      rintro e w1 ⟨rfl, hb1⟩
      have f0 := (hb1.cell (p := ⟨w.heap.size, 0, none⟩) (by show w.heap.size < _; omega)).trans g0
      have f1 := (hb1.cell (p := ⟨w.heap.size, 1, none⟩) (by show w.heap.size < _; omega)).trans g1
      have f2 := (hb1.cell (p := ⟨w.heap.size, 2, none⟩) (by show w.heap.size < _; omega)).trans g2
      have HB1 := Lib.hid (HB.out.trans (hb1.mono (by omega)))
      have HH1 := Lib.hid (H.out.below hb1)
      have hz1 := hb1.size
      clear hW g0 g1 g2 hb1
      go_wp2
      go_returns
      exact And.intro rfl ((DskNow.of_below HH.out HB1.out).more (Nat.le_succ _))
  have q1 : (k == 1) = false := beq_eq_false_iff_ne.2 h1
  by_cases h2 : k = 2
  · subst h2
    clear h1 q1
    by_cases hkw : Disk.kind s.l p = 2
    · have HS : Hid (s.doJ ⟨2, p, t⟩ = s.remove p) := Lib.hid (doJ_rem (d := ⟨2, p, t⟩) (Or.inr ⟨rfl, hkw⟩))
      rw [HS.out]
      rw [hkw] at HK
      clear hkw HS
      go_enter Tryz.func48, Tryz.ntmps48
      go_wp2_with fail
      rw [← hW]
      refine HK.out.mono ?_
      rintro e w1 ⟨rfl, hb1⟩
      have f0 := (hb1.cell (p := ⟨w.heap.size, 0, none⟩) (by show w.heap.size < _; omega)).trans g0
      have f1 := (hb1.cell (p := ⟨w.heap.size, 1, none⟩) (by show w.heap.size < _; omega)).trans g1
      have f2 := (hb1.cell (p := ⟨w.heap.size, 2, none⟩) (by show w.heap.size < _; omega)).trans g2
      have HB1 := Lib.hid (HB.out.trans (hb1.mono (by omega)))
      have HH1 := Lib.hid (H.out.below hb1)
      have hz1 := hb1.size
      clear hW g0 g1 g2 hb1
      have HC := Lib.hid (remove_any HH1.out (HE.out _ HB1.out) hn p hp)
      go_wp2_with fail
      refine HC.out.mono ?_
      rintro e w2 ⟨rfl, hd2⟩
      have HD := Lib.hid (DskNow.ahead (Keeps.of_below HB1.out) hd2)
      clear hd2
      go_wp2
      go_returns
      exact And.intro rfl HD.out
    · have HS : Hid (s.doJ ⟨2, p, t⟩ = (0, s)) := Lib.hid (doJ_no (d := ⟨2, p, t⟩) (by rintro (⟨e, e'⟩ | ⟨e, e'⟩); exact absurd (show (2 : Int) = 1 from e) (by decide); exact hkw e') (fun e => absurd (show (2 : Int) = 3 from e.1) (by decide)) (fun e => absurd (show (2 : Int) = 4 from e.1) (by decide)))
      rw [HS.out]
      have hq : (Disk.kind s.l p == 2) = false := beq_eq_false_iff_ne.2 hkw
      obtain ⟨kk, hkk⟩ : ∃ kk, kk = Disk.kind s.l p := ⟨_, rfl⟩
      rw [← hkk] at HK hq
      clear hkw hkk HS
      go_enter Tryz.func48, Tryz.ntmps48
      go_wp2_with fail
      rw [← hW]
      refine HK.out.mono ?_
      rintro e w1 ⟨rfl, hb1⟩
      have f0 := (hb1.cell (p := ⟨w.heap.size, 0, none⟩) (by show w.heap.size < _; omega)).trans g0
      have f1 := (hb1.cell (p := ⟨w.heap.size, 1, none⟩) (by show w.heap.size < _; omega)).trans g1
      have f2 := (hb1.cell (p := ⟨w.heap.size, 2, none⟩) (by show w.heap.size < _; omega)).trans g2
      have HB1 := Lib.hid (HB.out.trans (hb1.mono (by omega)))
      have HH1 := Lib.hid (H.out.below hb1)
      have hz1 := hb1.size
      clear hW g0 g1 g2 hb1
      go_wp2
      go_returns
      exact And.intro rfl ((DskNow.of_below HH.out HB1.out).more (Nat.le_succ _))
  have q2 : (k == 2) = false := beq_eq_false_iff_ne.2 h2
  by_cases h3 : k = 3
  · subst h3
    clear h1 q1 h2 q2
    by_cases hkw : Disk.kind s.l p = 0
    · have HS : Hid (s.doJ ⟨3, p, t⟩ = s.mkdir p) := Lib.hid (doJ_mk (d := ⟨3, p, t⟩) ⟨rfl, hkw⟩)
      rw [HS.out]
      rw [hkw] at HK
      clear hkw HS
      go_enter Tryz.func48, Tryz.ntmps48
      go_wp2_with fail
      rw [← hW]
      refine HK.out.mono ?_
      rintro e w1 ⟨rfl, hb1⟩
      have f0 := (hb1.cell (p := ⟨w.heap.size, 0, none⟩) (by show w.heap.size < _; omega)).trans g0
      have f1 := (hb1.cell (p := ⟨w.heap.size, 1, none⟩) (by show w.heap.size < _; omega)).trans g1
      have f2 := (hb1.cell (p := ⟨w.heap.size, 2, none⟩) (by show w.heap.size < _; omega)).trans g2
      have HB1 := Lib.hid (HB.out.trans (hb1.mono (by omega)))
      have HH1 := Lib.hid (H.out.below hb1)
      have hz1 := hb1.size
      clear hW g0 g1 g2 hb1
      have HC := Lib.hid (mkdir_any HH1.out (HE.out _ HB1.out) hn p hp)
      go_wp2_with fail
      refine HC.out.mono ?_
      rintro e w2 ⟨rfl, hd2⟩
      have HD := Lib.hid (DskNow.ahead (Keeps.of_below HB1.out) hd2)
      clear hd2
      go_wp2
      go_returns
      exact And.intro rfl HD.out
    · have HS : Hid (s.doJ ⟨3, p, t⟩ = (0, s)) := Lib.hid (doJ_no (d := ⟨3, p, t⟩) (by rintro (⟨e, e'⟩ | ⟨e, e'⟩); exact absurd (show (3 : Int) = 1 from e) (by decide); exact absurd (show (3 : Int) = 2 from e) (by decide)) (fun e => hkw e.2) (fun e => absurd (show (3 : Int) = 4 from e.1) (by decide)))
      rw [HS.out]
      have hq : (Disk.kind s.l p == 0) = false := beq_eq_false_iff_ne.2 hkw
      obtain ⟨kk, hkk⟩ : ∃ kk, kk = Disk.kind s.l p := ⟨_, rfl⟩
      rw [← hkk] at HK hq
      clear hkw hkk HS
      go_enter Tryz.func48, Tryz.ntmps48
      go_wp2_with fail
      rw [← hW]
      refine HK.out.mono ?_
      rintro e w1 ⟨rfl, hb1⟩
      have f0 := (hb1.cell (p := ⟨w.heap.size, 0, none⟩) (by show w.heap.size < _; omega)).trans g0
      have f1 := (hb1.cell (p := ⟨w.heap.size, 1, none⟩) (by show w.heap.size < _; omega)).trans g1
      have f2 := (hb1.cell (p := ⟨w.heap.size, 2, none⟩) (by show w.heap.size < _; omega)).trans g2
      have HB1 := Lib.hid (HB.out.trans (hb1.mono (by omega)))
      have HH1 := Lib.hid (H.out.below hb1)
      have hz1 := hb1.size
      clear hW g0 g1 g2 hb1
      go_wp2
      go_returns
      exact And.intro rfl ((DskNow.of_below HH.out HB1.out).more (Nat.le_succ _))
  have q3 : (k == 3) = false := beq_eq_false_iff_ne.2 h3
  by_cases h4 : k = 4
  · subst h4
    clear h1 h2 h3 q1 q2 q3
    have HRD := Lib.hid (fun (V : World) (hv : Dsk V B O sd n s) (hv2 : Env V) => Dsk.read hv hv2 p hp)
    obtain ⟨rd, hrd⟩ : ∃ rd, rd = Disk.readR s.l p := ⟨_, rfl⟩
    rw [← hrd] at HRD
    have HRR := Lib.hid hrd
    clear hrd
    obtain ⟨kk, hkk⟩ : ∃ kk, kk = Disk.kind s.l p := ⟨_, rfl⟩
    rw [← hkk] at HK
    clear hkk
    obtain ⟨data, er⟩ := rd
    by_cases he : er = 0
    · by_cases hdt : data = t
      · have HS : Hid (s.doJ ⟨4, p, t⟩ = (0, s)) := Lib.hid (doJ_no (d := ⟨4, p, t⟩) (by rintro (⟨e, e'⟩ | ⟨e, e'⟩); exact absurd (show (4 : Int) = 1 from e) (by decide); exact absurd (show (4 : Int) = 2 from e) (by decide)) (fun e => absurd (show (4 : Int) = 3 from e.1) (by decide)) (fun e => e.2 (by rw [← HRR.out, he, hdt])))
        rw [HS.out]
        subst he
        subst hdt
        have hq : ((bs data).toList == (bs data).toList) = true := beq_self_eq_true _
        clear HS HRR
        go_enter Tryz.func48, Tryz.ntmps48
        go_wp2_with fail
        rw [← hW]
        refine HK.out.mono ?_
        rintro e w1 ⟨rfl, hb1⟩
        have f0 := (hb1.cell (p := ⟨w.heap.size, 0, none⟩) (by show w.heap.size < _; omega)).trans g0
        have f1 := (hb1.cell (p := ⟨w.heap.size, 1, none⟩) (by show w.heap.size < _; omega)).trans g1
        have f2 := (hb1.cell (p := ⟨w.heap.size, 2, none⟩) (by show w.heap.size < _; omega)).trans g2
        have HB1 := Lib.hid (HB.out.trans (hb1.mono (by omega)))
        have HH1 := Lib.hid (H.out.below hb1)
        have hz1 := hb1.size
        clear hW g0 g1 g2 hb1
        have HRD1 := Lib.hid (HRD.out w1 HH1.out (HE.out _ HB1.out))
        go_wp2_with fail
        refine HRD1.out.mono ?_
        rintro e w2 ⟨rfl, hb2⟩
        have k1 := (hb2.cell (p := ⟨w.heap.size, 1, none⟩) (by show w.heap.size < _; omega)).trans f1
        have k2 := (hb2.cell (p := ⟨w.heap.size, 2, none⟩) (by show w.heap.size < _; omega)).trans f2
        have HB2 := Lib.hid (HB1.out.trans (hb2.mono (by omega)))
        clear f0 f1 f2 hb2
        go_wp2
        go_returns
        exact And.intro rfl ((DskNow.of_below HH.out HB2.out).more (Nat.le_succ _))
      · have HS : Hid (s.doJ ⟨4, p, t⟩ = s.write p t) := Lib.hid (doJ_put (d := ⟨4, p, t⟩) ⟨rfl, fun e => hdt (by rw [← HRR.out] at e; exact congrArg (·.1) e)⟩)
        rw [HS.out]
        subst he
        have hq : ((bs data).toList == (bs t).toList) = false := by rw [bs_toList, bs_toList]; exact beq_eq_false_iff_ne.2 hdt
        clear HS HRR hdt
        go_enter Tryz.func48, Tryz.ntmps48
        go_wp2_with fail
        rw [← hW]
        refine HK.out.mono ?_
        rintro e w1 ⟨rfl, hb1⟩
        have f0 := (hb1.cell (p := ⟨w.heap.size, 0, none⟩) (by show w.heap.size < _; omega)).trans g0
        have f1 := (hb1.cell (p := ⟨w.heap.size, 1, none⟩) (by show w.heap.size < _; omega)).trans g1
        have f2 := (hb1.cell (p := ⟨w.heap.size, 2, none⟩) (by show w.heap.size < _; omega)).trans g2
        have HB1 := Lib.hid (HB.out.trans (hb1.mono (by omega)))
        have HH1 := Lib.hid (H.out.below hb1)
        have hz1 := hb1.size
        clear hW g0 g1 g2 hb1
        have HRD1 := Lib.hid (HRD.out w1 HH1.out (HE.out _ HB1.out))
        go_wp2_with fail
        refine HRD1.out.mono ?_
        rintro e w2 ⟨rfl, hb2⟩
        have k1 := (hb2.cell (p := ⟨w.heap.size, 1, none⟩) (by show w.heap.size < _; omega)).trans f1
        have k2 := (hb2.cell (p := ⟨w.heap.size, 2, none⟩) (by show w.heap.size < _; omega)).trans f2
        have HB2 := Lib.hid (HB1.out.trans (hb2.mono (by omega)))
        have HC := Lib.hid (write_any (HH1.out.below hb2) (HE.out _ HB2.out) hn p t hp)
        clear f0 f1 f2 hb2
        go_wp2_with fail
        refine HC.out.mono ?_
        rintro e w3 ⟨rfl, hd3⟩
        have HD := Lib.hid (DskNow.ahead (Keeps.of_below HB2.out) hd3)
        clear hd3
        go_wp2
        go_returns
        exact And.intro rfl HD.out
    · have HS : Hid (s.doJ ⟨4, p, t⟩ = s.write p t) := Lib.hid (doJ_put (d := ⟨4, p, t⟩) ⟨rfl, fun e => he (by rw [← HRR.out] at e; exact congrArg (·.2) e)⟩)
      rw [HS.out]
      have hq : (er == 0) = false := beq_eq_false_iff_ne.2 he
      have hq2 : (er != 0) = true := by rw [bne, hq]; rfl
      clear HS HRR he
      go_enter Tryz.func48, Tryz.ntmps48
      go_wp2_with fail
      rw [← hW]
      refine HK.out.mono ?_
      rintro e w1 ⟨rfl, hb1⟩
      have f0 := (hb1.cell (p := ⟨w.heap.size, 0, none⟩) (by show w.heap.size < _; omega)).trans g0
      have f1 := (hb1.cell (p := ⟨w.heap.size, 1, none⟩) (by show w.heap.size < _; omega)).trans g1
      have f2 := (hb1.cell (p := ⟨w.heap.size, 2, none⟩) (by show w.heap.size < _; omega)).trans g2
      have HB1 := Lib.hid (HB.out.trans (hb1.mono (by omega)))
      have HH1 := Lib.hid (H.out.below hb1)
      have hz1 := hb1.size
      clear hW g0 g1 g2 hb1
      have HRD1 := Lib.hid (HRD.out w1 HH1.out (HE.out _ HB1.out))
      go_wp2_with fail
      refine HRD1.out.mono ?_
      rintro e w2 ⟨rfl, hb2⟩
      have k1 := (hb2.cell (p := ⟨w.heap.size, 1, none⟩) (by show w.heap.size < _; omega)).trans f1
      have k2 := (hb2.cell (p := ⟨w.heap.size, 2, none⟩) (by show w.heap.size < _; omega)).trans f2
      have HB2 := Lib.hid (HB1.out.trans (hb2.mono (by omega)))
      have HC := Lib.hid (write_any (HH1.out.below hb2) (HE.out _ HB2.out) hn p t hp)
      clear f0 f1 f2 hb2
      go_wp2_with fail
      refine HC.out.mono ?_
      rintro e w3 ⟨rfl, hd3⟩
      have HD := Lib.hid (DskNow.ahead (Keeps.of_below HB2.out) hd3)
      clear hd3
      go_wp2
      go_returns
      exact And.intro rfl HD.out
  have q4 : (k == 4) = false := beq_eq_false_iff_ne.2 h4
  have HS : Hid (s.doJ ⟨k, p, t⟩ = (0, s)) := Lib.hid (doJ_no (d := ⟨k, p, t⟩) (by rintro (⟨e, e'⟩ | ⟨e, e'⟩); exact h1 e; exact h2 e) (fun e => h3 e.1) (fun e => h4 e.1))
  rw [HS.out]
  obtain ⟨kk, hkk⟩ : ∃ kk, kk = Disk.kind s.l p := ⟨_, rfl⟩
  rw [← hkk] at HK
  clear h1 h2 h3 h4 hkk HS
  go_enter Tryz.func48, Tryz.ntmps48
  go_wp2_with fail
  rw [← hW]
  refine HK.out.mono ?_
  rintro e w1 ⟨rfl, hb1⟩
  have f0 := (hb1.cell (p := ⟨w.heap.size, 0, none⟩) (by show w.heap.size < _; omega)).trans g0
  have f1 := (hb1.cell (p := ⟨w.heap.size, 1, none⟩) (by show w.heap.size < _; omega)).trans g1
  have f2 := (hb1.cell (p := ⟨w.heap.size, 2, none⟩) (by show w.heap.size < _; omega)).trans g2
  have HB1 := Lib.hid (HB.out.trans (hb1.mono (by omega)))
  have HH1 := Lib.hid (H.out.below hb1)
  have hz1 := hb1.size
  clear hW g0 g1 g2 hb1
  go_wp2
  go_returns
  exact And.intro rfl ((DskNow.of_below HH.out HB1.out).more (Nat.le_succ _))
set_option maxHeartbeats 4000000 in
set_option maxRecDepth 100000 in
theorem gone_any {w : World} {B : Nat} {O : Nat → Prop} {sd n : Nat} {s : Disk.S} (h : Dsk w B O sd n s) (hE : Env w) (hn : n + 2 ≤ 1099511627776) (hg : 0 < B) :
    Calls Tryz.prog 29 #[.pointer (some ⟨sd, 0, none⟩)] w (JPost w B O sd (n + 2) s.gone) := by
  have H := Lib.hid h
  have HE := Lib.hid hE
  have HK : Hid (Calls Tryz.prog 11 #[.pointer (some ⟨sd, 0, none⟩), .string ⟨#[47, 106, 111, 117, 114, 110, 97, 108, 47, 112, 108, 97, 110, 46, 110, 101, 119]⟩] w fun e w' => e = .returned (.int .i64 (Disk.kind s.l Disk.jN)) ∧ Below w.heap.size w w') := Lib.hid (Dsk.kind h Disk.jN (by decide))
  clear h hE
  by_cases hk : Disk.kind s.l Disk.jN = 1
  · have HRM : Hid (∀ (V : World), Below w.heap.size w V → Calls Tryz.prog 56 #[.pointer (some ⟨sd, 0, none⟩), .string ⟨#[47, 106, 111, 117, 114, 110, 97, 108, 47, 112, 108, 97, 110, 46, 110, 101, 119]⟩] V (AskPost V B O sd n (s.remove Disk.jN))) := Lib.hid (fun V hV => remove_any (H.out.below hV) (HE.out.below hV (Nat.le_refl _)) (by omega) Disk.jN (by decide))
    have HS : Hid (s.gone = Disk.S.bind (s.remove Disk.jN) fun s' => s'.remove Disk.jA) := Lib.hid (by unfold Disk.S.gone; rw [if_pos hk])
    obtain ⟨r, hr⟩ : ∃ r, r = s.remove Disk.jN := ⟨_, rfl⟩
    rw [← hr] at HRM HS
    rw [HS.out]
    rw [hk] at HK
    obtain ⟨c, s1⟩ := r
    clear hr hk HS
    by_cases hc : c = 0
    · subst hc
      rw [show Disk.S.bind (0, s1) (fun s' => s'.remove Disk.jA) = s1.remove Disk.jA from if_pos rfl]
      go_enter Tryz.func29, Tryz.ntmps29
      go_wp2_with fail
      refine HK.out.mono ?_
      rintro e w1 ⟨rfl, hb1⟩
      have HB1 := Lib.hid hb1
      have HRM1 := Lib.hid (HRM.out w1 hb1)
      clear hb1
      go_wp2_with fail
      refine HRM1.out.mono ?_
      rintro e w2 ⟨rfl, ⟨O2, hd2, hO2⟩, hk2⟩
      have HK2 := Lib.hid hk2
      have HO2 := Lib.hid hO2
      have HLIM := Lib.hid (fun k hk => (H.out.lim k hk).1)
      have HE2 := Lib.hid (env_keeps (HE.out.below HB1.out (Nat.le_refl _)) hk2 HLIM.out hg)
      have HRA : Hid (Calls Tryz.prog 56 #[.pointer (some ⟨sd, 0, none⟩), .string ⟨#[47, 106, 111, 117, 114, 110, 97, 108]⟩] w2 (AskPost w2 B O2 sd (n + 1) (s1.remove Disk.jA))) := Lib.hid (remove_any hd2 HE2.out (by omega) Disk.jA (by decide))
      clear hd2 hO2 hk2
      go_wp2_with fail
      refine HRA.out.mono ?_
      rintro e w3 ⟨rfl, hd3⟩
      have HD := Lib.hid (DskNow.ahead (Keeps.of_below HB1.out) (DskNow.after HK2.out HO2.out hd3))
      clear hd3
      go_wp2
      go_returns
      exact And.intro rfl HD.out
    · rw [show Disk.S.bind (c, s1) (fun s' => s'.remove Disk.jA) = (c, s1) from if_neg hc]
      have hq : (c != 0) = true := by rw [bne, beq_eq_false_iff_ne.2 hc]; rfl
      clear hc
      go_enter Tryz.func29, Tryz.ntmps29
      go_wp2_with fail
      refine HK.out.mono ?_
      rintro e w1 ⟨rfl, hb1⟩
      have HB1 := Lib.hid hb1
      have HRM1 := Lib.hid (HRM.out w1 hb1)
      clear hb1
      go_wp2_with fail
      refine HRM1.out.mono ?_
      rintro e w2 ⟨rfl, hd2⟩
      have HD := Lib.hid ((DskNow.ahead (Keeps.of_below HB1.out) hd2).more (Nat.le_succ _))
      clear hd2
      go_wp2
      go_returns
      exact And.intro rfl HD.out
  · have HS : Hid (s.gone = s.remove Disk.jA) := Lib.hid (by unfold Disk.S.gone; rw [if_neg hk])
    rw [HS.out]
    have hq : (Disk.kind s.l Disk.jN == 1) = false := beq_eq_false_iff_ne.2 hk
    obtain ⟨kk, hkk⟩ : ∃ kk, kk = Disk.kind s.l Disk.jN := ⟨_, rfl⟩
    rw [← hkk] at HK hq
    have HRM : Hid (∀ (V : World), Below w.heap.size w V → Calls Tryz.prog 56 #[.pointer (some ⟨sd, 0, none⟩), .string ⟨#[47, 106, 111, 117, 114, 110, 97, 108]⟩] V (AskPost V B O sd n (s.remove Disk.jA))) := Lib.hid (fun V hV => remove_any (H.out.below hV) (HE.out.below hV (Nat.le_refl _)) (by omega) Disk.jA (by decide))
    clear hk hkk HS
    go_enter Tryz.func29, Tryz.ntmps29
    go_wp2_with fail
    refine HK.out.mono ?_
    rintro e w1 ⟨rfl, hb1⟩
    have HB1 := Lib.hid hb1
    have HRM1 := Lib.hid (HRM.out w1 hb1)
    clear hb1
    go_wp2_with fail
    refine HRM1.out.mono ?_
    rintro e w2 ⟨rfl, hd2⟩
    have HD := Lib.hid ((DskNow.ahead (Keeps.of_below HB1.out) hd2).more (Nat.le_succ _))
    clear hd2
    go_wp2
    go_returns
    exact And.intro rfl HD.out
theorem dos_append (s : Disk.S) : ∀ (a b : List Disk.Dd), s.dos (a ++ b) = Disk.S.bind (s.dos a) fun s' => s'.dos b := fun a => by
  induction a generalizing s with
  | nil => intro b; exact (if_pos rfl).symm
  | cons d r ih =>
    intro b
    show Disk.S.bind (s.doJ d) (fun s' => s'.dos (r ++ b)) = Disk.S.bind (Disk.S.bind (s.doJ d) fun s' => s'.dos r) fun s' => s'.dos b
    unfold Disk.S.bind
    by_cases h : (s.doJ d).1 = 0
    · rw [if_pos h, if_pos h]; exact ih _ b
    · rw [if_neg h, if_neg h, if_neg h]
theorem dos_next {s si : Disk.S} {D : List Disk.Dd} {i : Nat} {d : Disk.Dd} (h : s.dos (D.take i) = (0, si)) (hd : D[i]? = some d) : (si.doJ d).1 = 0 → s.dos (D.take (i + 1)) = (0, (si.doJ d).2) := fun e => by
  rw [List.take_add_one, hd, dos_append, h]
  show Disk.S.bind (0, si) (fun s' => s'.dos [d]) = _
  rw [show Disk.S.bind (0, si) (fun s' => s'.dos [d]) = si.dos [d] from if_pos rfl]
  show Disk.S.bind (si.doJ d) (fun s' => s'.dos []) = _
  rw [show Disk.S.bind (si.doJ d) (fun s' => s'.dos []) = (si.doJ d).2.dos [] from if_pos e]
  rfl
theorem dos_stop {s si : Disk.S} {D : List Disk.Dd} {i : Nat} {d : Disk.Dd} (h : s.dos (D.take i) = (0, si)) (hd : D[i]? = some d) (e : (si.doJ d).1 ≠ 0) : s.dos D = si.doJ d := by
  have hh := List.getElem?_eq_some_iff.1 hd
  have eD : D = D.take i ++ (d :: D.drop (i + 1)) := by
    have e1 : D = D.take i ++ D.drop i := (List.take_append_drop i D).symm
    rw [List.drop_eq_getElem_cons hh.1, hh.2] at e1
    exact e1
  rw [eD, dos_append, h]
  rw [show Disk.S.bind (0, si) (fun s' => s'.dos (d :: D.drop (i + 1))) = si.dos (d :: D.drop (i + 1)) from if_pos rfl]
  show Disk.S.bind (si.doJ d) _ = _
  exact if_neg e
set_option maxHeartbeats 8000000 in
set_option maxRecDepth 100000 in
theorem end_any {w : World} {B : Nat} {O : Nat → Prop} {sd n : Nat} {s : Disk.S} {v : Value} {ds : List PL.Plan.D} (h : Dsk w B O sd n s) (hE : Env w) (hg : 0 < B) (hd : DeedsOff w O v ds) (hn : n + ds.length + 3 ≤ 1099511627776) (hsz : ∀ d ∈ ds, d.path.length ≤ 4398046511104) :
    Calls Tryz.prog 27 #[.pointer (some ⟨sd, 0, none⟩), v] w (JPost w B O sd (n + ds.length + 3) (s.endJ (ds.map toDd))) := by
  obtain ⟨a1, c1, hv, hat⟩ := hd
  subst hv
  obtain ⟨N, hN⟩ : ∃ N, N = ds.length := ⟨_, rfl⟩
  obtain ⟨D, hD⟩ : ∃ D, D = ds.map toDd := ⟨_, rfl⟩
  have HAT := Lib.hid hat
  have H := Lib.hid h
  have HSZ := Lib.hid hsz
  have HLIM := Lib.hid (fun k hk => (H.out.lim k hk).1)
  have HE := Lib.hid (fun (V : World) (hv : Keeps O w V) => env_keeps hE hv HLIM.out hg)
  have HG := Lib.hid hg
  rw [← hN, ← hD]
  rw [← hN] at hn
  have HN := Lib.hid hN
  have HD := Lib.hid hD
  clear hat h hsz hE hg hN hD
  go_enter Tryz.func27, Tryz.ntmps27
  go_wp2
  go_loopw [11] (fun q wr => ∃ (i : Nat) (si : Disk.S), q = .int .i64 i ∧ i ≤ N ∧ s.dos (D.take i) = (0, si) ∧ DskNow w wr B O sd (n + i) si) (fun q _ => N - (intOf q).toNat)
  case atStart => exact ⟨0, s, rfl, by omega, rfl, DskNow.of_below H.out (Below.refl _ _)⟩
  case round =>
    obtain ⟨i, si, rfl, hi, hsi, hnow⟩ := hrel
    obtain ⟨wo, rfl⟩ : ∃ x, x = wr := ⟨wr, rfl⟩
    have HSI := Lib.hid hsi
    have HK := Lib.hid hnow.keeps
    have hzr := hnow.keeps.size
    obtain ⟨⟨O1, hd1, hO1⟩, _⟩ := hnow
    have H1 := Lib.hid hd1
    have HO1 := Lib.hid hO1
    clear hsi hd1 hO1
    by_cases hiN : i < N
    · obtain ⟨d, hd⟩ : ∃ d, ds[i]? = some d := ⟨_, List.getElem?_eq_getElem (by have := HN.out; omega)⟩
      obtain ⟨bk, o, ha, ⟨hbk, hbO⟩, e1, e2, e3⟩ := HAT.out i d hd
      subst ha
      have HDI : Hid (D[i]? = some ⟨d.kind, d.path, d.data⟩) := Lib.hid (by rw [HD.out, List.getElem?_map, hd]; rfl)
      have hdp := HSZ.out d (List.mem_of_getElem? hd)
      have hblk := HK.out.block bk hbk hbO
      have g1 := (World.cell?_of_block (a := ⟨bk, o + i * 3, none⟩) hblk).trans e1
      have g2 := (World.cell?_of_block (a := ⟨bk, o + i * 3 + 1, none⟩) hblk).trans e2
      have g3 := (World.cell?_of_block (a := ⟨bk, o + i * 3 + 2, none⟩) hblk).trans e3
      clear e1 e2 e3 hblk hd
      have hiI : (i : Int) < (N : Int) := by omega
      obtain ⟨dk, dp, dt⟩ := d
      dsimp only at g1 g2 g3 hdp
      have hsz2 : (wo.alloc (.cells #[.int .i64 dk, .string (bs dp), .string (bs dt)] 39)).heap.size = wo.heap.size + 1 := by simp
      obtain ⟨W, hW⟩ : ∃ W, W = wo.alloc (.cells #[.int .i64 dk, .string (bs dp), .string (bs dt)] 39) := ⟨_, rfl⟩
      have l0 : W.cell? ⟨wo.heap.size, 0, none⟩ = some (.int .i64 dk) := by rw [hW]; simp
      have l1 : W.cell? ⟨wo.heap.size, 1, none⟩ = some (.string (bs dp)) := by rw [hW]; simp
      have l2 : W.cell? ⟨wo.heap.size, 2, none⟩ = some (.string (bs dt)) := by rw [hW]; simp
      have HBW : Hid (Below wo.heap.size wo W) := Lib.hid (by rw [hW]; exact (Below.refl _ wo).alloc (Nat.le_refl _) _)
      have HKW := Lib.hid (HK.out.then_below HBW.out)
      have HDO := Lib.hid (do_any (H1.out.below HBW.out) (HE.out _ HKW.out) (by omega) dk dp dt hdp)
      obtain ⟨r, hr⟩ : ∃ r, r = si.doJ ⟨dk, dp, dt⟩ := ⟨_, rfl⟩
      have HR := Lib.hid hr
      rw [← hr] at HDO
      obtain ⟨c, s2⟩ := r
      clear hr hsz2
      by_cases hc : c = 0
      · subst hc
        have HNX : Hid (s.dos (D.take (i + 1)) = (0, s2)) := Lib.hid (by
          have := dos_next HSI.out HDI.out (by rw [← HR.out])
          rwa [← HR.out] at this)
        go_wp2_with fail
        rw [← hW]
        refine HDO.out.mono ?_
        rintro e w2 ⟨rfl, hd2⟩
        have HD2 := Lib.hid (DskNow.after HK.out HO1.out (DskNow.ahead (Keeps.of_below HBW.out) hd2))
        clear hd2 hW l0 l1 l2 g1 g2 g3
        go_wp2
        go_roundw
        case rel => exact ⟨i + 1, s2, by go_num, by omega, HNX.out, HD2.out⟩
        case measure => simp [intOf]; omega
      · have HST : Hid (s.endJ D = (c, s2)) := Lib.hid (by
          have := dos_stop HSI.out HDI.out (by rw [← HR.out]; exact hc)
          unfold Disk.S.endJ
          rw [this, ← HR.out]
          exact if_neg hc)
        have hq : (c != 0) = true := by rw [bne, beq_eq_false_iff_ne.2 hc]; rfl
        rw [HST.out]
        clear hc HST
        go_wp2_with fail
        rw [← hW]
        refine HDO.out.mono ?_
        rintro e w2 ⟨rfl, hd2⟩
        have HD2 := Lib.hid ((DskNow.after HK.out HO1.out (DskNow.ahead (Keeps.of_below HBW.out) hd2)).more (show n + i + 1 ≤ n + N + 3 by omega))
        clear hd2 hW l0 l1 l2 g1 g2 g3
        go_wp2
        go_returns
        exact And.intro rfl HD2.out
    · have hiI : ¬ (i : Int) < (N : Int) := by omega
      have HDS : Hid (s.dos D = (0, si)) := Lib.hid (by
        have := HSI.out
        rwa [List.take_of_length_le (by rw [HD.out, List.length_map, ← HN.out]; omega)] at this)
      have HS : Hid (s.endJ D = Disk.S.bind (si.remove Disk.jT) fun s2 => s2.gone) := Lib.hid (by unfold Disk.S.endJ; rw [HDS.out]; exact if_pos rfl)
      have HRM : Hid (Calls Tryz.prog 56 #[.pointer (some ⟨sd, 0, none⟩), .string ⟨#[47, 106, 111, 117, 114, 110, 97, 108, 47, 112, 108, 97, 110]⟩] wo (AskPost wo B O1 sd (n + i) (si.remove Disk.jT))) := Lib.hid (remove_any H1.out (HE.out _ HK.out) (by omega) Disk.jT (by decide))
      obtain ⟨r, hr⟩ : ∃ r, r = si.remove Disk.jT := ⟨_, rfl⟩
      have HR := Lib.hid hr
      rw [← hr] at HRM
      obtain ⟨c, s2⟩ := r
      clear hr
      by_cases hc : c = 0
      · subst hc
        have HSX : Hid (s.endJ D = s2.gone) := Lib.hid (HS.out.trans (by rw [← HR.out]; exact if_pos rfl))
        go_wp2_with fail
        refine HRM.out.mono ?_
        rintro e w2 ⟨rfl, hd2⟩
        have HK2 := Lib.hid hd2.keeps
        obtain ⟨⟨O2, hdd, hO2⟩, _⟩ := hd2
        have H2 := Lib.hid hdd
        have HO2 := Lib.hid hO2
        have HKK := Lib.hid (HK.out.trans HK2.out HO1.out)
        have HGN := Lib.hid (gone_any H2.out (HE.out _ HKK.out) (by omega) HG.out)
        clear hdd hO2
        go_wp2_with fail
        refine HGN.out.mono ?_
        rintro e w3 ⟨rfl, hd3⟩
        have HD3 := Lib.hid ((DskNow.after HK.out HO1.out (DskNow.after HK2.out HO2.out hd3)).more (show n + i + 1 + 2 ≤ n + N + 3 by omega))
        clear hd3
        go_wp2
        go_returns
        first | exact And.intro rfl HD3.out | (rw [HSX.out]; exact And.intro rfl HD3.out)
      · have HSX : Hid (s.endJ D = (c, s2)) := Lib.hid (HS.out.trans (by rw [← HR.out]; exact if_neg hc))
        have hq : (c != 0) = true := by rw [bne, beq_eq_false_iff_ne.2 hc]; rfl
        clear hc
        go_wp2_with fail
        refine HRM.out.mono ?_
        rintro e w2 ⟨rfl, hd2⟩
        have HD2 := Lib.hid ((DskNow.after HK.out HO1.out hd2).more (show n + i + 1 ≤ n + N + 3 by omega))
        clear hd2
        go_wp2
        go_returns
        first | exact And.intro rfl HD2.out | (rw [HSX.out]; exact And.intro rfl HD2.out)
end Go.Proofs.YtdogacgpfnolfaaGreatDoor
