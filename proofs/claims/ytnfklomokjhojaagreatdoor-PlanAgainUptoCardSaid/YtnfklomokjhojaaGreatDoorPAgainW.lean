/- What PlanAgain calls: can, does, files. -/
import Derived.Test.YtnfklomokjhojaaGreatDoorZTwo
import Derived.Test.YtnfklomokjhojaaGreatDoorPAgainP
namespace Go.Proofs.YtnfklomokjhojaaGreatDoor
open Go.RowKit Go.Maps
set_option linter.unusedSimpArgs false
set_option linter.unusedVariables false
set_option maxHeartbeats 2000000 in
set_option maxRecDepth 100000 in
theorem files17_any {w : World} {B : Nat} {v1 v2 : Value} {ds : List Disk.Fl} (h1 : Files w B v1 ds) (h2 : Files w B v2 ds) (hn : ds.length ≤ 4398046511104) :
    Calls Tryz.prog 35 #[v1, v2] w fun e w' => e = .returned (.bool true) ∧ ∃ m, w' = w.drewN m := by
  obtain ⟨a1, c1, rfl⟩ := h1.form
  obtain ⟨a2, c2, rfl⟩ := h2.form
  obtain ⟨N, hN⟩ : ∃ N, N = ds.length := ⟨_, rfl⟩
  have H1 := Lib.hid h1
  have H2 := Lib.hid h2
  rw [← hN] at hn ⊢
  have HN := Lib.hid hN
  clear h1 h2 hN
  go_enter Tryz.func35, Tryz.ntmps35
  go_wp2
  go_loopw [5] (fun q wr => ∃ i m : Nat, q = .int .i64 i ∧ i ≤ N ∧ wr = w.drewN m) (fun q _ => N - (intOf q).toNat)
  case atStart => exact ⟨0, 0, rfl, by omega, rfl⟩
  case round =>
    obtain ⟨i, m, rfl, hi, rfl⟩ := hrel
    by_cases hiN : i < N
    · obtain ⟨d, hd⟩ : ∃ d, ds[i]? = some d := ⟨_, List.getElem?_eq_getElem (by have := HN.out; omega)⟩
      obtain ⟨b1, o1, cap1, hv1, hb1, hc1⟩ := H1.out.at (by have := HN.out; omega)
      obtain ⟨b2, o2, cap2, hv2, hb2, hc2⟩ := H2.out.at (by have := HN.out; omega)
      rw [← HN.out] at hv1 hv2
      cases hv1
      cases hv2
      obtain ⟨x1, x2, x3⟩ := hc1 i d hd
      obtain ⟨y1, y2, y3⟩ := hc2 i d hd
      have hiI : (i : Int) < (N : Int) := by omega
      have hdn := fun w => fileNeq w d d
      have hsd : sameF d d = true := by unfold sameF; simp
      rw [hsd] at hdn
      clear hc1 hc2 hd hsd
      go_wp2
      go_big_quiet (fail)
      go_wp2
      go_roundw
      case rel => exact ⟨i + 1, _, by go_num, by omega, rfl⟩
      case measure => simp [intOf]; omega
    · go_wp2
      go_returns
      exact ⟨rfl, _, rfl⟩
/-- A deed, done once more or not, on any disk. -/
def Disk.S.does (s : Disk.S) (d : Disk.Dd) : Disk.S :=
  if d.kind = 1 then (if Disk.kind s.l d.path = 1 then (s.remove d.path).2 else s)
  else if d.kind = 2 then (if Disk.kind s.l d.path = 2 then (s.remove d.path).2 else s)
  else if d.kind = 3 then (if Disk.kind s.l d.path = 0 then (s.mkdir d.path).2 else s)
  else if d.kind = 4 then (s.write d.path d.data).2 else s
theorem Disk.ask_l (s : Disk.S) (c : Int × Disk.M) (r : Disk.Rw) (hs : s.left = -1) (hc : c.1 ≠ 0 → c.2 = s.l) : (s.ask c r).2.l = c.2 ∧ (s.ask c r).2.left = -1 := by
  unfold Disk.S.ask
  rw [if_neg (by omega)]
  by_cases h : c.1 = 0
  · rw [if_pos h]
    refine ⟨rfl, ?_⟩
    show Disk.off s.left = -1
    rw [hs]
    rfl
  · rw [if_neg h]
    exact ⟨(hc h).symm, hs⟩
theorem Disk.remove_l (s : Disk.S) (p : List UInt8) (hs : s.left = -1) : (s.remove p).2.l = (Disk.removeC s.l p).2 ∧ (s.remove p).2.left = -1 := by
  refine Disk.ask_l s _ _ hs ?_
  unfold Disk.removeC
  repeat' split
  all_goals first | exact fun _ => rfl | exact fun h => absurd rfl h
theorem Disk.mkdir_l (s : Disk.S) (p : List UInt8) (hs : s.left = -1) : (s.mkdir p).2.l = (Disk.mkdirC s.l p).2 ∧ (s.mkdir p).2.left = -1 := by
  refine Disk.ask_l s _ _ hs ?_
  unfold Disk.mkdirC
  repeat' split
  all_goals first | exact fun _ => rfl | exact fun h => absurd rfl h
theorem Disk.write_l (s : Disk.S) (p t : List UInt8) (hs : s.left = -1) : (s.write p t).2.l = (Disk.writeC s.l p t).2 ∧ (s.write p t).2.left = -1 := by
  refine Disk.ask_l s _ _ hs ?_
  unfold Disk.writeC
  repeat' split
  all_goals first | exact fun _ => rfl | exact fun h => absurd rfl h
theorem Disk.does_l (s : Disk.S) (d : Disk.Dd) (hs : s.left = -1) : (s.does d).l = Disk.doesC s.l d ∧ (s.does d).left = -1 := by
  unfold Disk.S.does Disk.doesC
  split
  · split
    · exact Disk.remove_l s _ hs
    · exact ⟨rfl, hs⟩
  split
  · split
    · exact Disk.remove_l s _ hs
    · exact ⟨rfl, hs⟩
  split
  · split
    · exact Disk.mkdir_l s _ hs
    · exact ⟨rfl, hs⟩
  split
  · exact Disk.write_l s _ _ hs
  · exact ⟨rfl, hs⟩
theorem Dsk.kind {w : World} {B : Nat} {O : Nat → Prop} {sd n : Nat} {s : Disk.S} (h : Dsk w B O sd n s) (p : List UInt8) (hp : p.length ≤ 4398046511104) :
    Calls Tryz.prog 25 #[.pointer (some ⟨sd, 0, none⟩), .string (bs p)] w fun e w' => e = .returned (.int .i64 (Disk.kind s.l p)) ∧ Below w.heap.size w w' := by
  obtain ⟨bm, m, rv, hm, h1⟩ := h
  have := kind_any h1.d.c0 h1.d.things (bs p) (bs_small hp)
  rw [bs_list] at this
  exact this
theorem Dsk.list {w : World} {B : Nat} {O : Nat → Prop} {sd n : Nat} {s : Disk.S} (h : Dsk w B O sd n s) (hE : Env w) (hn : s.l.length ≤ 1099511627776) (p : List UInt8) (hp : p.length ≤ 4398046511104) :
    Calls Tryz.prog 22 #[.pointer (some ⟨sd, 0, none⟩), .string (bs p)] w (ListPost s.l p w) := by
  obtain ⟨bm, m, rv, hm, h1⟩ := h
  exact list_any h1.d.c0 h1.d.things hE hm.2.2.2 hn p hp
set_option maxHeartbeats 4000000 in
set_option maxRecDepth 100000 in
theorem does_any {w : World} {B : Nat} {O : Nat → Prop} {sd n : Nat} {s : Disk.S} (h : Dsk w B O sd n s) (hE : Env w) (hn : n ≤ 1099511627776) (k : Int) (p t : List UInt8) (hp : p.length ≤ 4398046511104) :
    Calls Tryz.prog 34 #[.pointer (some ⟨sd, 0, none⟩), .agg #[.int .i64 k, .string (bs p), .string (bs t)]] w fun e w' => e = .returned (.tuple #[]) ∧ DskNow w w' B O sd (n + 1) (s.does ⟨k, p, t⟩) := by
  have hsz : (w.alloc (.cells #[.int .i64 k, .string (bs p), .string (bs t)] 65)).heap.size = w.heap.size + 1 := by simp
  obtain ⟨W, hW⟩ : ∃ W, W = w.alloc (.cells #[.int .i64 k, .string (bs p), .string (bs t)] 65) := ⟨_, rfl⟩
  have g0 : W.cell? ⟨w.heap.size, 0, none⟩ = some (.int .i64 k) := by rw [hW]; simp
  have g1 : W.cell? ⟨w.heap.size, 1, none⟩ = some (.string (bs p)) := by rw [hW]; simp
  have g2 : W.cell? ⟨w.heap.size, 2, none⟩ = some (.string (bs t)) := by rw [hW]; simp
  have hb : Below w.heap.size w W := by rw [hW]; exact (Below.refl _ w).alloc (Nat.le_refl _) _
  have hz : W.heap.size = w.heap.size + 1 := by rw [hW]; exact hsz
  have HB := Lib.hid hb
  have H := Lib.hid (h.below hb)
  have HE := Lib.hid (fun (V : World) (hv : Below w.heap.size w V) => hE.below hv (Nat.le_refl _))
  clear hsz hb
  by_cases h1 : k = 1
  · subst h1
    have HK := Lib.hid (Dsk.kind H.out p hp)
    by_cases hkw : Disk.kind s.l p = 1
    · have HS : Hid (s.does ⟨1, p, t⟩ = (s.remove p).2) := Lib.hid (by unfold Disk.S.does;  rw [if_pos rfl, if_pos hkw])
      rw [hkw] at HK
      rw [HS.out]
      clear hkw h
      go_enter Tryz.func34, Tryz.ntmps34
      go_wp2_with fail
      rw [← hW]
      refine HK.out.mono ?_
      rintro e w1 ⟨rfl, hb1⟩
      have f1 := (hb1.cell (p := ⟨w.heap.size, 1, none⟩) (by show w.heap.size < _; omega)).trans g1
      have HB1 := Lib.hid (HB.out.trans (hb1.mono (by omega)))
      have HC := Lib.hid (remove_any (H.out.below hb1) (HE.out _ HB1.out) hn p hp)
      clear hW g0 g1 g2 hb1
      go_wp2_with fail
      refine HC.out.mono ?_
      rintro e w2 ⟨rfl, hd2⟩
      have HD := Lib.hid (DskNow.ahead (Keeps.of_below HB1.out) hd2)
      clear hd2
      go_wp2
      go_returns
      exact ⟨rfl, HD.out⟩
    · have HS : Hid (s.does ⟨1, p, t⟩ = s) := Lib.hid (by unfold Disk.S.does;  rw [if_pos rfl, if_neg hkw])
      have HH := Lib.hid h
      have hq : (Disk.kind s.l p == 1) = false := beq_eq_false_iff_ne.2 hkw
      obtain ⟨kk, hkk⟩ : ∃ kk, kk = Disk.kind s.l p := ⟨_, rfl⟩
      rw [← hkk] at HK hq
      rw [HS.out]
      clear hkw hkk h
      go_enter Tryz.func34, Tryz.ntmps34
      go_wp2_with fail
      rw [← hW]
      refine HK.out.mono ?_
      rintro e w1 ⟨rfl, hb1⟩
      have HB1 := Lib.hid (HB.out.trans (hb1.mono (by omega)))
      clear hW hb1
      go_wp2
      go_returns
      exact ⟨rfl, (DskNow.of_below HH.out HB1.out).more (Nat.le_succ _)⟩
  have q1 : (k == 1) = false := beq_eq_false_iff_ne.2 h1
  by_cases h2 : k = 2
  · subst h2
    clear h1 q1
    have HK := Lib.hid (Dsk.kind H.out p hp)
    by_cases hkw : Disk.kind s.l p = 2
    · have HS : Hid (s.does ⟨2, p, t⟩ = (s.remove p).2) := Lib.hid (by unfold Disk.S.does; rw [if_neg (by show (2 : Int) ≠ 1; decide)]; rw [if_pos rfl, if_pos hkw])
      rw [hkw] at HK
      rw [HS.out]
      clear hkw h
      go_enter Tryz.func34, Tryz.ntmps34
      go_wp2_with fail
      rw [← hW]
      refine HK.out.mono ?_
      rintro e w1 ⟨rfl, hb1⟩
      have f1 := (hb1.cell (p := ⟨w.heap.size, 1, none⟩) (by show w.heap.size < _; omega)).trans g1
      have HB1 := Lib.hid (HB.out.trans (hb1.mono (by omega)))
      have HC := Lib.hid (remove_any (H.out.below hb1) (HE.out _ HB1.out) hn p hp)
      clear hW g0 g1 g2 hb1
      go_wp2_with fail
      refine HC.out.mono ?_
      rintro e w2 ⟨rfl, hd2⟩
      have HD := Lib.hid (DskNow.ahead (Keeps.of_below HB1.out) hd2)
      clear hd2
      go_wp2
      go_returns
      exact ⟨rfl, HD.out⟩
    · have HS : Hid (s.does ⟨2, p, t⟩ = s) := Lib.hid (by unfold Disk.S.does; rw [if_neg (by show (2 : Int) ≠ 1; decide)]; rw [if_pos rfl, if_neg hkw])
      have HH := Lib.hid h
      have hq : (Disk.kind s.l p == 2) = false := beq_eq_false_iff_ne.2 hkw
      obtain ⟨kk, hkk⟩ : ∃ kk, kk = Disk.kind s.l p := ⟨_, rfl⟩
      rw [← hkk] at HK hq
      rw [HS.out]
      clear hkw hkk h
      go_enter Tryz.func34, Tryz.ntmps34
      go_wp2_with fail
      rw [← hW]
      refine HK.out.mono ?_
      rintro e w1 ⟨rfl, hb1⟩
      have HB1 := Lib.hid (HB.out.trans (hb1.mono (by omega)))
      clear hW hb1
      go_wp2
      go_returns
      exact ⟨rfl, (DskNow.of_below HH.out HB1.out).more (Nat.le_succ _)⟩
  have q2 : (k == 2) = false := beq_eq_false_iff_ne.2 h2
  by_cases h3 : k = 3
  · subst h3
    clear h1 q1 h2 q2
    have HK := Lib.hid (Dsk.kind H.out p hp)
    by_cases hkw : Disk.kind s.l p = 0
    · have HS : Hid (s.does ⟨3, p, t⟩ = (s.mkdir p).2) := Lib.hid (by unfold Disk.S.does; rw [if_neg (by show (3 : Int) ≠ 1; decide)]; rw [if_neg (by show (3 : Int) ≠ 2; decide)]; rw [if_pos rfl, if_pos hkw])
      rw [hkw] at HK
      rw [HS.out]
      clear hkw h
      go_enter Tryz.func34, Tryz.ntmps34
      go_wp2_with fail
      rw [← hW]
      refine HK.out.mono ?_
      rintro e w1 ⟨rfl, hb1⟩
      have f1 := (hb1.cell (p := ⟨w.heap.size, 1, none⟩) (by show w.heap.size < _; omega)).trans g1
      have HB1 := Lib.hid (HB.out.trans (hb1.mono (by omega)))
      have HC := Lib.hid (mkdir_any (H.out.below hb1) (HE.out _ HB1.out) hn p hp)
      clear hW g0 g1 g2 hb1
      go_wp2_with fail
      refine HC.out.mono ?_
      rintro e w2 ⟨rfl, hd2⟩
      have HD := Lib.hid (DskNow.ahead (Keeps.of_below HB1.out) hd2)
      clear hd2
      go_wp2
      go_returns
      exact ⟨rfl, HD.out⟩
    · have HS : Hid (s.does ⟨3, p, t⟩ = s) := Lib.hid (by unfold Disk.S.does; rw [if_neg (by show (3 : Int) ≠ 1; decide)]; rw [if_neg (by show (3 : Int) ≠ 2; decide)]; rw [if_pos rfl, if_neg hkw])
      have HH := Lib.hid h
      have hq : (Disk.kind s.l p == 0) = false := beq_eq_false_iff_ne.2 hkw
      obtain ⟨kk, hkk⟩ : ∃ kk, kk = Disk.kind s.l p := ⟨_, rfl⟩
      rw [← hkk] at HK hq
      rw [HS.out]
      clear hkw hkk h
      go_enter Tryz.func34, Tryz.ntmps34
      go_wp2_with fail
      rw [← hW]
      refine HK.out.mono ?_
      rintro e w1 ⟨rfl, hb1⟩
      have HB1 := Lib.hid (HB.out.trans (hb1.mono (by omega)))
      clear hW hb1
      go_wp2
      go_returns
      exact ⟨rfl, (DskNow.of_below HH.out HB1.out).more (Nat.le_succ _)⟩
  have q3 : (k == 3) = false := beq_eq_false_iff_ne.2 h3
  by_cases h4 : k = 4
  · subst h4
    have HS : Hid (s.does ⟨4, p, t⟩ = (s.write p t).2) := Lib.hid rfl
    rw [HS.out]
    have HC := Lib.hid (write_any H.out (HE.out _ HB.out) hn p t hp)
    clear h1 h2 h3 q1 q2 q3 h
    go_enter Tryz.func34, Tryz.ntmps34
    go_wp2_with fail
    rw [← hW]
    refine HC.out.mono ?_
    rintro e w2 ⟨rfl, hd2⟩
    have HD := Lib.hid (DskNow.ahead (Keeps.of_below HB.out) hd2)
    clear hd2 hW g0 g1 g2
    go_wp2
    go_returns
    exact ⟨rfl, HD.out⟩
  have q4 : (k == 4) = false := beq_eq_false_iff_ne.2 h4
  have HS : Hid (s.does ⟨k, p, t⟩ = s) := Lib.hid (by unfold Disk.S.does; rw [if_neg h1, if_neg h2, if_neg h3, if_neg h4])
  rw [HS.out]
  have HH := Lib.hid h
  clear h1 h2 h3 h4 h
  go_enter Tryz.func34, Tryz.ntmps34
  go_wp2
  rw [← hW]
  go_returns
  exact ⟨rfl, (DskNow.of_below HH.out HB.out).more (Nat.le_succ _)⟩
set_option maxHeartbeats 4000000 in
set_option maxRecDepth 100000 in
theorem can_any {w : World} {B : Nat} {O : Nat → Prop} {sd n : Nat} {s : Disk.S} (h : Dsk w B O sd n s) (hE : Env w) (hn : s.l.length ≤ 1099511627776) (k : Int) (p t : List UInt8) (hp : p.length ≤ 4398046511104) (hok : Disk.pathOk p = true) :
    Calls Tryz.prog 33 #[.pointer (some ⟨sd, 0, none⟩), .agg #[.int .i64 k, .string (bs p), .string (bs t)]] w fun e w' => e = .returned (.bool (Disk.canC s.l ⟨k, p, t⟩)) ∧ Below w.heap.size w w' := by
  have hsz : (w.alloc (.cells #[.int .i64 k, .string (bs p), .string (bs t)] 65)).heap.size = w.heap.size + 1 := by simp
  obtain ⟨W, hW⟩ : ∃ W, W = w.alloc (.cells #[.int .i64 k, .string (bs p), .string (bs t)] 65) := ⟨_, rfl⟩
  have g0 : W.cell? ⟨w.heap.size, 0, none⟩ = some (.int .i64 k) := by rw [hW]; simp
  have g1 : W.cell? ⟨w.heap.size, 1, none⟩ = some (.string (bs p)) := by rw [hW]; simp
  have g2 : W.cell? ⟨w.heap.size, 2, none⟩ = some (.string (bs t)) := by rw [hW]; simp
  have hb : Below w.heap.size w W := by rw [hW]; exact (Below.refl _ w).alloc (Nat.le_refl _) _
  have hz : W.heap.size = w.heap.size + 1 := by rw [hW]; exact hsz
  have HB := Lib.hid hb
  have H := Lib.hid (h.below hb)
  have HE := Lib.hid (fun (V : World) (hv : Below w.heap.size w V) => hE.below hv (Nat.le_refl _))
  clear hsz hb
  have HK := Lib.hid (Dsk.kind H.out p hp)
  by_cases h1 : k = 1
  · subst h1
    have HS : Hid (Disk.canC s.l ⟨1, p, t⟩ = decide (Disk.kind s.l p = 1)) := Lib.hid (by unfold Disk.canC; rw [if_pos rfl])
    rw [HS.out]
    go_enter Tryz.func33, Tryz.ntmps33
    go_wp2_with fail
    rw [← hW]
    refine HK.out.mono ?_
    rintro e w1 ⟨rfl, hb1⟩
    have f0 := (hb1.cell (p := ⟨w.heap.size, 0, none⟩) (by show w.heap.size < _; omega)).trans g0
    have HB1 := Lib.hid (HB.out.trans (hb1.mono (by omega)))
    clear hW g0 g1 g2 hb1
    go_wp2
    go_returns
    exact ⟨rfl, HB1.out⟩
  have q1 : (k == 1) = false := beq_eq_false_iff_ne.2 h1
  by_cases h2 : k = 2
  · subst h2
    clear h1 q1
    by_cases hk2 : Disk.kind s.l p = 2
    · have HL2 : Hid (Disk.listR s.l p = (Disk.names s.l p, 0)) := Lib.hid (by unfold Disk.listR; rw [if_neg (by rw [hok]; simp), if_neg (by rw [hk2]; decide), if_neg (by rw [hk2]; decide)])
      have HS : Hid (Disk.canC s.l ⟨2, p, t⟩ = decide ((Disk.names s.l p).length = 0)) := Lib.hid (by
        unfold Disk.canC
        rw [if_neg (by show (2 : Int) ≠ 1; decide), if_pos rfl, hk2]
        cases Disk.names s.l p <;> simp)
      rw [HS.out]
      rw [hk2] at HK
      clear hk2
      go_enter Tryz.func33, Tryz.ntmps33
      go_wp2_with fail
      rw [← hW]
      refine HK.out.mono ?_
      rintro e w1 ⟨rfl, hb1⟩
      have f0 := (hb1.cell (p := ⟨w.heap.size, 0, none⟩) (by show w.heap.size < _; omega)).trans g0
      have f1 := (hb1.cell (p := ⟨w.heap.size, 1, none⟩) (by show w.heap.size < _; omega)).trans g1
      have HB1 := Lib.hid (HB.out.trans (hb1.mono (by omega)))
      have HLS := Lib.hid (Dsk.list (H.out.below hb1) (HE.out _ HB1.out) hn p hp)
      have hz1 := hb1.size
      clear hW g0 g1 g2 hb1
      go_wp2_with fail
      refine HLS.out.mono ?_
      rintro e w2 ⟨v2, rfl, hr2, hb2⟩
      rw [HL2.out] at hr2 ⊢
      obtain ⟨a2, c2, rfl⟩ := own_form hr2
      have HB2 := Lib.hid (HB1.out.trans (hb2.mono (by omega)))
      obtain ⟨M, hM⟩ : ∃ M, M = (Disk.names s.l p).length := ⟨_, rfl⟩
      clear hr2 hb2 HS
      dsimp only
      rw [← hM]
      have hqm : ((M : Int) == 0) = decide (M = 0) := by
        by_cases hm : M = 0
        · rw [hm]; rfl
        · rw [decide_eq_false hm]; exact beq_eq_false_iff_ne.2 (by omega)
      obtain ⟨b, hbb⟩ : ∃ b, b = decide (M = 0) := ⟨_, rfl⟩
      rw [← hbb] at hqm
      have HBB : Hid (b = decide ((Disk.names s.l p).length = 0)) := Lib.hid (by rw [hbb, hM])
      clear hM hbb
      go_wp2
      go_returns
      exact ⟨by rw [HBB.out]; rfl, HB2.out⟩
    · have HS : Hid (Disk.canC s.l ⟨2, p, t⟩ = false) := Lib.hid (by
        unfold Disk.canC
        rw [if_neg (by show (2 : Int) ≠ 1; decide), if_pos rfl]
        show (decide (Disk.kind s.l p = 2) && _) = false
        rw [decide_eq_false hk2]
        rfl)
      rw [HS.out]
      have hq : (Disk.kind s.l p == 2) = false := beq_eq_false_iff_ne.2 hk2
      obtain ⟨kk, hkk⟩ : ∃ kk, kk = Disk.kind s.l p := ⟨_, rfl⟩
      rw [← hkk] at HK hq
      clear hk2 hkk
      go_enter Tryz.func33, Tryz.ntmps33
      go_wp2_with fail
      rw [← hW]
      refine HK.out.mono ?_
      rintro e w1 ⟨rfl, hb1⟩
      have f0 := (hb1.cell (p := ⟨w.heap.size, 0, none⟩) (by show w.heap.size < _; omega)).trans g0
      have f1 := (hb1.cell (p := ⟨w.heap.size, 1, none⟩) (by show w.heap.size < _; omega)).trans g1
      have HB1 := Lib.hid (HB.out.trans (hb1.mono (by omega)))
      have HLS := Lib.hid (Dsk.list (H.out.below hb1) (HE.out _ HB1.out) hn p hp)
      have hz1 := hb1.size
      clear hW g0 g1 g2 hb1 HS
      go_wp2_with fail
      refine HLS.out.mono ?_
      rintro e w2 ⟨v2, rfl, hr2, hb2⟩
      have HB2 := Lib.hid (HB1.out.trans (hb2.mono (by omega)))
      clear hr2 hb2
      obtain ⟨ek, hek⟩ : ∃ ek, ek = (Disk.listR s.l p).2 := ⟨_, rfl⟩
      rw [← hek]
      clear hek
      go_wp2
      go_returns
      exact ⟨rfl, HB2.out⟩
  have q2 : (k == 2) = false := beq_eq_false_iff_ne.2 h2
  by_cases h3 : k = 3
  · subst h3
    clear h1 q1 h2 q2
    have HS : Hid (Disk.canC s.l ⟨3, p, t⟩ = decide (Disk.kind s.l p = 0)) := Lib.hid (by unfold Disk.canC; rw [if_neg (by show (3 : Int) ≠ 1; decide), if_neg (by show (3 : Int) ≠ 2; decide), if_pos rfl])
    rw [HS.out]
    go_enter Tryz.func33, Tryz.ntmps33
    go_wp2_with fail
    rw [← hW]
    refine HK.out.mono ?_
    rintro e w1 ⟨rfl, hb1⟩
    have f0 := (hb1.cell (p := ⟨w.heap.size, 0, none⟩) (by show w.heap.size < _; omega)).trans g0
    have HB1 := Lib.hid (HB.out.trans (hb1.mono (by omega)))
    clear hW g0 g1 g2 hb1
    go_wp2
    go_returns
    exact ⟨rfl, HB1.out⟩
  have q3 : (k == 3) = false := beq_eq_false_iff_ne.2 h3
  have HS : Hid (Disk.canC s.l ⟨k, p, t⟩ = decide (Disk.kind s.l p ≠ 2)) := Lib.hid (by unfold Disk.canC; rw [if_neg h1, if_neg h2, if_neg h3])
  rw [HS.out]
  go_enter Tryz.func33, Tryz.ntmps33
  go_wp2_with fail
  rw [← hW]
  refine HK.out.mono ?_
  rintro e w1 ⟨rfl, hb1⟩
  have f0 := (hb1.cell (p := ⟨w.heap.size, 0, none⟩) (by show w.heap.size < _; omega)).trans g0
  have HB1 := Lib.hid (HB.out.trans (hb1.mono (by omega)))
  clear hW g0 g1 g2 hb1
  go_wp2
  go_returns
  exact ⟨by (first | rfl | (simp [bne]; done) | (simp [bne]; by_cases hkk : Disk.kind s.l p = 2 <;> simp [hkk])), HB1.out⟩
end Go.Proofs.YtnfklomokjhojaaGreatDoor
