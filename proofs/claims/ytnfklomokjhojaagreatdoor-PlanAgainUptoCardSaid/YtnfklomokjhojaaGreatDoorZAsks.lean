/- Any deed, asked of both disks: asks: the walk. -/
import Derived.Test.YtnfklomokjhojaaGreatDoorZAsk
namespace Go.Proofs.YtnfklomokjhojaaGreatDoor
open Go.RowKit Go.Maps
set_option linter.unusedSimpArgs false
set_option linter.unusedVariables false
/-- What becomes of a disk that is asked. -/
def Disk.S.asks (s : Disk.S) (x : Disk.Dq) : Disk.S :=
  let k := Disk.pickI x.kind 11
  if k = 4 then s else if k = 5 then s else if k = 6 then s else if k = 7 then (s.cut x.n).2 else if k = 8 then ⟨s.l, s.raws, -1⟩ else if k = 9 then ⟨s.l, [], s.left⟩ else if k = 10 then s else (s.asked k x).2
theorem Duo.clearR {w : World} {B : Nat} {Z : Nat → Prop} {sd rd n : Nat} {a b : Disk.S} (h : Duo w B Z sd rd n a b) : DuoNow w (w.setCell ⟨rd, 1, none⟩ (.slice none 0 0)) B Z sd rd n a ⟨b.l, [], b.left⟩ ∧ (∃ a1 n1 c1, w.cell? ⟨rd, 1, none⟩ = some (.slice a1 n1 c1)) ∧ w.frozen? ⟨rd, 1, none⟩ = false := by
  obtain ⟨OA, OB, h1, ⟨lv, rv, ⟨f1, f2, f3, f4⟩, hat⟩, h3, h4⟩ := h
  obtain ⟨k1, k2⟩ := hat.clear
  have hk : Keeps OB w (w.setCell ⟨rd, 1, none⟩ (.slice none 0 0)) := Keeps.of_grown k2 (fun k e => by rw [← Option.some.inj e]; exact hat.os)
  obtain ⟨a1, c1, e⟩ := own_form hat.row
  exact ⟨⟨⟨OA, OB, h1.keeps hk (fun k ha hb => h3 k ha hb), ⟨lv, _, ⟨f1, by simp, f3, f4⟩, k1⟩, h3, fun k hk2 => ⟨(h4 k hk2).1, (h4 k hk2).2.1, Nat.lt_of_lt_of_le (h4 k hk2).2.2 hk.size⟩⟩, hk.to_below (fun k hk2 => (hat.lim k hk2).1) (by have := hat.lim rd hat.os; omega), fun k hk2 => hk.block k (h4 k hk2).2.2 (h4 k hk2).2.1⟩, ⟨a1, _, c1, by rw [← e]; exact hat.r.c1⟩, hat.r.fr 1⟩
theorem Duo.fit {w : World} {B : Nat} {Z : Nat → Prop} {sd rd n : Nat} {a b : Disk.S} (h : Duo w B Z sd rd n a b) : RskFit n b := by
  obtain ⟨OA, OB, h1, ⟨lv, rv, hf, hat⟩, _⟩ := h
  exact hf
set_option maxHeartbeats 16000000 in
set_option maxRecDepth 100000 in
theorem asks_any {w : World} {B : Nat} {Z : Nat → Prop} {sd rd n : Nat} {s : Disk.S} (h : Duo w B Z sd rd n s s) (hE : ∀ W, Below B w W → Env W) (hn : n ≤ 137438953472) (x : Disk.Dq) (hfit : x.Fits) (hp : x.path.length ≤ 4398046511104) (hq : x.to.length ≤ 4398046511104) :
    Calls Tryz.prog 12 #[.pointer (some ⟨sd, 0, none⟩), .pointer (some ⟨rd, 0, none⟩), .agg #[.int .i64 x.kind, .string (bs x.path), .string (bs x.to), .string (bs x.data), .int .i64 x.n]] w fun e w' => e = .returned (.bool true) ∧ DuoNow w w' B Z sd rd (n + 1 + 1) (s.asks x) (s.asks x) := by
  have HE := Lib.hid hE
  have HPK := Lib.hid (fun W => pick01_any x.kind 11 hfit.1 (by decide) (by decide) W)
  have hbase := h.base
  obtain ⟨k, hk⟩ : ∃ k, k = Disk.pickI x.kind 11 := ⟨_, rfl⟩
  have HQ : Hid (s.asks x = if k = 4 then s else if k = 5 then s else if k = 6 then s else if k = 7 then (s.cut x.n).2 else if k = 8 then ⟨s.l, s.raws, -1⟩ else if k = 9 then ⟨s.l, [], s.left⟩ else if k = 10 then s else (s.asked k x).2) := Lib.hid (by rw [hk]; rfl)
  have HKK := Lib.hid hk
  rw [← hk] at HPK
  obtain ⟨W0, hW0⟩ : ∃ W, W = w.alloc (.cells #[.int .i64 x.kind, .string (bs x.path), .string (bs x.to), .string (bs x.data), .int .i64 x.n] 29) := ⟨_, rfl⟩
  have g0 : W0.cell? ⟨w.heap.size, 0, none⟩ = some (.int .i64 x.kind) ∧ W0.cell? ⟨w.heap.size, 1, none⟩ = some (.string (bs x.path)) ∧ W0.cell? ⟨w.heap.size, 2, none⟩ = some (.string (bs x.to)) ∧ W0.cell? ⟨w.heap.size, 3, none⟩ = some (.string (bs x.data)) ∧ W0.cell? ⟨w.heap.size, 4, none⟩ = some (.int .i64 x.n) := by rw [hW0]; exact ⟨by simp, by simp, by simp, by simp, by simp⟩
  have gs : W0.heap.size = w.heap.size + 1 := by rw [hW0]; simp
  have hB0 : Below w.heap.size w W0 := by rw [hW0]; exact (Below.refl _ _).alloc (Nat.le_refl _) _
  obtain ⟨Z1, hZ1⟩ : ∃ Z1 : Nat → Prop, Z1 = fun k => Z k ∨ w.heap.size ≤ k ∧ k < W0.heap.size := ⟨_, rfl⟩
  have HDUO : Hid (Duo W0 B Z1 sd rd n s s) := Lib.hid (by rw [hZ1]; exact h.fresh hB0)
  have HB0 : Hid (Below B w W0) := Lib.hid (hB0.mono hbase)
  have HSS : Hid (∀ W : World, W.heap[w.heap.size]? = W0.heap[w.heap.size]? → W.cell? ⟨w.heap.size, 0, none⟩ = some (.int .i64 x.kind) ∧ W.cell? ⟨w.heap.size, 1, none⟩ = some (.string (bs x.path)) ∧ W.cell? ⟨w.heap.size, 2, none⟩ = some (.string (bs x.to)) ∧ W.cell? ⟨w.heap.size, 3, none⟩ = some (.string (bs x.data)) ∧ W.cell? ⟨w.heap.size, 4, none⟩ = some (.int .i64 x.n)) := Lib.hid (fun W hW => by
    have hc : ∀ j, W.cell? ⟨w.heap.size, j, none⟩ = W0.cell? ⟨w.heap.size, j, none⟩ := fun j => World.cell?_of_block (a := ⟨w.heap.size, j, none⟩) hW
    rw [hc, hc, hc, hc, hc]
    exact g0)
  have HBLK : Hid (∀ (w1 w' : World) (m : Nat) (a b : Disk.S), w1.heap[w.heap.size]? = W0.heap[w.heap.size]? → DuoNow w1 w' B Z1 sd rd m a b → w'.heap[w.heap.size]? = W0.heap[w.heap.size]?) := Lib.hid (fun w1 w' m a b h1 hn => by
    rw [hn.keep w.heap.size (by rw [hZ1]; exact Or.inr ⟨Nat.le_refl _, by omega⟩), h1])
  have HAHEAD : Hid (∀ (w' : World) (m : Nat) (a b : Disk.S), DuoNow W0 w' B Z1 sd rd m a b → DuoNow w w' B Z sd rd m a b) := Lib.hid (fun w' m a b hn => DuoNow.ahead hB0 hbase hn (fun k hk => by rw [hZ1]; exact Or.inl hk) (fun k hk => by
    obtain ⟨OA, OB, _, _, _, h4⟩ := h
    exact (h4 k hk).2.2))
  have HFT := Lib.hid h.fit
  have HXN : Hid (x.n ≤ 9223372036854775807) := Lib.hid hfit.2.2
  have HFX := Lib.hid hfit
  have HDR : Hid (Below W0.heap.size W0 W0.drew) := Lib.hid (Below.refl _ _).drew
  obtain ⟨c0, c1, c2, c3, c4⟩ := g0
  clear h hE hfit hk hB0 hZ1
  by_cases h4 : k = 4
  · have q4 : (k == 4) = true := beq_iff_eq.2 h4
    have hstep : s.asks x = s := by rw [HQ.out, if_pos h4]
    rw [hstep]
    clear hstep h4
    obtain ⟨t, ht⟩ : ∃ t, t = (Disk.readR s.l x.path).1 := ⟨_, rfl⟩
    obtain ⟨ec, hec⟩ : ∃ t, t = (Disk.readR s.l x.path).2 := ⟨_, rfl⟩
    have HDD : Hid (∀ (W : World) (m : Nat) (b : Disk.S), Duo W B Z1 sd rd m s b → Below B w W → m ≤ 549755813888 → Calls Tryz.prog 30 #[.pointer (some ⟨sd, 0, none⟩), .string (bs x.path)] W fun e w' => e = .returned (.tuple #[.string (bs t), .int .i64 ec]) ∧ DuoNow W w' B Z1 sd rd (m + 1) (s) b) := Lib.hid (fun W m b hd hb hm => hd.actD (Nat.le_succ m) (fun O hO => by
      obtain ⟨bm, mm, rv, hm1, hat⟩ := hO
      have hO : Dsk W B O sd m s := ⟨bm, mm, rv, hm1, hat⟩
      have := read_disk hat.d.c0 hat.d.things (HE.out W hb) x.path hp
      rw [← ht, ← hec] at this
      exact this.mono fun e w' h => ⟨h.1, (DskNow.of_below hO h.2).more (Nat.le_succ _)⟩))
    have HRR : Hid (∀ (W : World) (m : Nat) (a : Disk.S), Duo W B Z1 sd rd m a s → m ≤ 549755813888 → Calls Tryz.prog 36 #[.pointer (some ⟨rd, 0, none⟩), .string (bs x.path)] W fun e w' => e = .returned (.tuple #[.string (bs t), .int .i64 ec]) ∧ DuoNow W w' B Z1 sd rd (m + 1) a (s)) := Lib.hid (fun W m a hd hm => hd.actR (Nat.le_succ m) (fun O hO => by
      obtain ⟨lv, rv, hf, hat⟩ := hO
      have hO : Rsk W B O rd m s := ⟨lv, rv, hf, hat⟩
      have := rread_any hat (by have := hf.1; omega) x.path hp
      rw [← ht, ← hec] at this
      exact this.mono fun e w' h => ⟨h.1, (RskNow.of_below hO (by obtain ⟨q, hq⟩ := h.2; rw [hq]; exact bdrew (Below.refl _ _) q)).more (Nat.le_succ _)⟩))
    have HD1 := Lib.hid (HDD.out W0 n s HDUO.out HB0.out (by omega))
    have hq1 := sv_inj (a := t) (b := t)
    rw [decide_eq_true rfl] at hq1
    clear ht hec
    go_enter Tryz.func12, Tryz.ntmps12
    go_wp2_with fail
    rw [← hW0]
    refine (HPK.out _).mono ?_
    rintro e w1 ⟨rfl, rfl⟩
    clear hW0
    obtain ⟨W0, rfl⟩ : ∃ x, x = w1 := ⟨w1, rfl⟩
    go_wp2_with fail
    refine HD1.out.mono ?_
    rintro e w2 ⟨rfl, hn2⟩
    have HN2 := Lib.hid hn2
    have HR2 := Lib.hid (HRR.out w2 (n + 1) s hn2.duo (by omega))
    obtain ⟨d0, d1, d2, d3, d4⟩ := HSS.out w2 (HBLK.out _ _ _ _ _ rfl hn2)
    clear hn2 c0 c1 c2 c3 c4
    go_wp2_with fail
    refine HR2.out.mono ?_
    rintro e w3 ⟨rfl, hn3⟩
    have HOUT := Lib.hid (HAHEAD.out _ _ _ _ (HN2.out.then hn3))
    clear hn3
    go_wp2
    go_returns
    exact ⟨rfl, HOUT.out⟩
  have q4 : (k == 4) = false := beq_eq_false_iff_ne.2 h4
  by_cases h5 : k = 5
  · have q5 : (k == 5) = true := beq_iff_eq.2 h5
    have hstep : s.asks x = s := by rw [HQ.out, if_neg h4, if_pos h5]
    rw [hstep]
    clear hstep h4 h5
    obtain ⟨kk, hkk⟩ : ∃ t, t = Disk.kind s.l x.path := ⟨_, rfl⟩
    have HDD : Hid (∀ (W : World) (m : Nat) (b : Disk.S), Duo W B Z1 sd rd m s b → Below B w W → m ≤ 549755813888 → Calls Tryz.prog 25 #[.pointer (some ⟨sd, 0, none⟩), .string (bs x.path)] W fun e w' => e = .returned (.int .i64 kk) ∧ DuoNow W w' B Z1 sd rd (m + 1) (s) b) := Lib.hid (fun W m b hd hb hm => hd.actD (Nat.le_succ m) (fun O hO => by
      obtain ⟨bm, mm, rv, hm1, hat⟩ := hO
      have hO : Dsk W B O sd m s := ⟨bm, mm, rv, hm1, hat⟩
      have := kind_any hat.d.c0 hat.d.things (bs x.path) (bs_small hp)
      rw [bs_list, ← hkk] at this
      exact this.mono fun e w' h => ⟨h.1, (DskNow.of_below hO h.2).more (Nat.le_succ _)⟩))
    have HRR : Hid (∀ (W : World) (m : Nat) (a : Disk.S), Duo W B Z1 sd rd m a s → m ≤ 549755813888 → Calls Tryz.prog 37 #[.pointer (some ⟨rd, 0, none⟩), .string (bs x.path)] W fun e w' => e = .returned (.int .i64 kk) ∧ DuoNow W w' B Z1 sd rd (m + 1) a (s)) := Lib.hid (fun W m a hd hm => hd.actR (Nat.le_succ m) (fun O hO => by
      obtain ⟨lv, rv, hf, hat⟩ := hO
      have hO : Rsk W B O rd m s := ⟨lv, rv, hf, hat⟩
      have := hat.kind (by have := hf.1; omega) x.path
      rw [← hkk] at this
      exact this.mono fun e w' h => ⟨h.1, (RskNow.of_below hO (by rw [h.2]; exact Below.refl _ _)).more (Nat.le_succ _)⟩))
    clear hkk
    have HDUOD := Lib.hid (HDUO.out.below HDR.out)
    have HD1 := Lib.hid (HDD.out W0.drew n s HDUOD.out (HB0.out.trans (HDR.out.mono HDUO.out.base)) (by omega))
    have HR1 := Lib.hid (HRR.out W0.drew n s HDUOD.out (by omega))
    have hk0 : W0.drew.heap[w.heap.size]? = W0.heap[w.heap.size]? := rfl
    have HK0 := Lib.hid hk0
    clear hk0
    go_enter Tryz.func12, Tryz.ntmps12
    go_wp2_with fail
    rw [← hW0]
    refine (HPK.out _).mono ?_
    rintro e w1 ⟨rfl, rfl⟩
    clear hW0
    obtain ⟨W0, rfl⟩ : ∃ x, x = w1 := ⟨w1, rfl⟩
    go_wp2
    go_region_held3 (fun w' => w'.cell? ⟨w.heap.size, 0, none⟩ = some (.int .i64 x.kind) ∧ w'.cell? ⟨w.heap.size, 1, none⟩ = some (.string (bs x.path)) ∧ w'.cell? ⟨w.heap.size, 2, none⟩ = some (.string (bs x.to)) ∧ w'.cell? ⟨w.heap.size, 3, none⟩ = some (.string (bs x.data)) ∧ w'.cell? ⟨w.heap.size, 4, none⟩ = some (.int .i64 x.n)) (first | exact HSS.out _ HK0.out | exact HSS.out _ hk7 | exact HSS.out _ hk8) (first
      | (go_at_call 25; refine (HD2.out).mono ?_; rintro e w8 ⟨rfl, hn8⟩; have HFIN := Lib.hid (hn7.then hn8); have hk8 := HBLK.out _ w8 _ _ _ hk7 hn8)
      | (go_at_call 37; refine (HR2.out).mono ?_; rintro e w8 ⟨rfl, hn8⟩; have HFIN := Lib.hid (hn7.then hn8); have hk8 := HBLK.out _ w8 _ _ _ hk7 hn8)
      | (go_at_call 25; refine (HD1.out).mono ?_; rintro e w7 ⟨rfl, hn7⟩; have HR2 := Lib.hid (HRR.out w7 (n + 1) _ hn7.duo (by omega)); have hk7 := HBLK.out _ w7 _ _ _ HK0.out hn7)
      | (go_at_call 37; refine (HR1.out).mono ?_; rintro e w7 ⟨rfl, hn7⟩; have HD2 := Lib.hid (HDD.out w7 (n + 1) _ hn7.duo ((HB0.out.trans (HDR.out.mono HDUO.out.base)).trans hn7.below) (by omega)); have hk7 := HBLK.out _ w7 _ _ _ HK0.out hn7))
    all_goals
      have HOUT := Lib.hid (HAHEAD.out _ _ _ _ ((DuoNow.of_below HDUO.out HDR.out).then HFIN.out))
      go_wp2
      go_returns
      exact ⟨rfl, HOUT.out⟩
  have q5 : (k == 5) = false := beq_eq_false_iff_ne.2 h5
  by_cases h6 : k = 6
  · have q6 : (k == 6) = true := beq_iff_eq.2 h6
    have hstep : s.asks x = s := by rw [HQ.out, if_neg h4, if_neg h5, if_pos h6]
    rw [hstep]
    clear hstep h4 h5 h6
    obtain ⟨ns, hns⟩ : ∃ t, t = (Disk.listR s.l x.path).1 := ⟨_, rfl⟩
    obtain ⟨ec, hec⟩ : ∃ t, t = (Disk.listR s.l x.path).2 := ⟨_, rfl⟩
    have HLP : Hid (∀ W e w', ListPost s.l x.path W e w' → ∃ v, e = .returned (.tuple #[v, .int .i64 ec]) ∧ SRow w' W.heap.size v ns ∧ Below W.heap.size W w') := Lib.hid (fun W e w' h => by rw [hns, hec]; exact h)
    have hnl : ns.length ≤ 4398046511104 := by
      rw [hns]
      have h1 := Disk.names_length s.l x.path
      have h2 := HFT.out.1
      unfold Disk.listR
      repeat' split
      all_goals first | (exact Nat.zero_le _) | (show (Disk.names s.l x.path).length ≤ _; exact Nat.le_trans h1 (Nat.le_trans h2 (by omega)))
    have HNL := Lib.hid hnl
    have HDL : Hid (Calls Tryz.prog 22 #[.pointer (some ⟨sd, 0, none⟩), .string (bs x.path)] W0 (ListPost s.l x.path W0)) := Lib.hid (by
      obtain ⟨OA, OB, ⟨bm, mm, rv, hm1, hat⟩, _⟩ := HDUO.out
      exact list_any hat.d.c0 hat.d.things (HE.out W0 HB0.out) hm1.2.2.2 (by have := HFT.out.1; omega) x.path hp)
    have HRL : Hid (∀ (W : World), Duo W B Z1 sd rd n s s → Calls Tryz.prog 38 #[.pointer (some ⟨rd, 0, none⟩), .string (bs x.path)] W (ListPost s.l x.path W)) := Lib.hid (fun W hd => by
      obtain ⟨OA, OB, _, ⟨lv, rv, hf, hat⟩, _⟩ := hd
      exact rlist_any hat (by have := hf.1; omega) hf.2.2.2 x.path hp)
    clear hns hec hnl
    go_enter Tryz.func12, Tryz.ntmps12
    go_wp2_with fail
    rw [← hW0]
    refine (HPK.out _).mono ?_
    rintro e w1 ⟨rfl, rfl⟩
    clear hW0
    obtain ⟨W0, rfl⟩ : ∃ x, x = w1 := ⟨w1, rfl⟩
    go_wp2_with fail
    refine HDL.out.mono ?_
    intro e w2 hpost
    obtain ⟨v2, rfl, hr2, hb2⟩ := HLP.out _ _ _ hpost
    have HT2 := Lib.hid hr2.ts
    obtain ⟨a2, k2, rfl⟩ := own_form hr2
    have hn2 := DuoNow.of_below HDUO.out hb2
    have HN2 := Lib.hid hn2
    have HR2 := Lib.hid (HRL.out w2 hn2.duo)
    obtain ⟨d0, d1, d2, d3, d4⟩ := HSS.out w2 (HBLK.out _ _ _ _ _ rfl hn2)
    clear hpost hr2 hb2 hn2 c0 c1 c2 c3 c4
    go_wp2_with fail
    refine HR2.out.mono ?_
    intro e w3 hpost
    obtain ⟨v3, rfl, hr3, hb3⟩ := HLP.out _ _ _ hpost
    have HTX := Lib.hid (texts_any (HT2.out.below hb3 (Nat.le_refl _) |>.mono hb3.size) hr3.ts HNL.out)
    obtain ⟨a3, k3, rfl⟩ := own_form hr3
    have HN3 := Lib.hid (HN2.out.then (DuoNow.of_below HN2.out.duo hb3))
    clear hpost hr3 hb3
    go_wp2_with fail
    refine HTX.out.mono ?_
    rintro e w4 ⟨rfl, m4, rfl⟩
    have HOUT := Lib.hid ((HAHEAD.out _ _ _ _ (HN3.out.then (DuoNow.of_below HN3.out.duo (bdrew (Below.refl _ _) m4)))).more (show n ≤ n + 1 + 1 by omega))
    go_wp2
    go_returns
    exact ⟨rfl, HOUT.out⟩
  have q6 : (k == 6) = false := beq_eq_false_iff_ne.2 h6
  by_cases h7 : k = 7
  · have q7 : (k == 7) = true := beq_iff_eq.2 h7
    have hstep : s.asks x = (s.cut x.n).2 := by rw [HQ.out, if_neg h4, if_neg h5, if_neg h6, if_pos h7]
    rw [hstep]
    clear hstep h4 h5 h6 h7
    obtain ⟨ec, hec⟩ : ∃ t, t = (s.cut x.n).1 := ⟨_, rfl⟩
    obtain ⟨s2, hs2⟩ : ∃ t, t = (s.cut x.n).2 := ⟨_, rfl⟩
    have HDD : Hid (∀ (W : World) (m : Nat) (b : Disk.S), Duo W B Z1 sd rd m s b → Below B w W → m ≤ 549755813888 → Calls Tryz.prog 40 #[.pointer (some ⟨sd, 0, none⟩), .int .i64 x.n] W fun e w' => e = .returned (.int .i64 ec) ∧ DuoNow W w' B Z1 sd rd (m + 1) (s2) b) := Lib.hid (fun W m b hd hb hm => hd.actD (Nat.le_succ m) (fun O hO => by
      have := cut_any hO x.n HXN.out
      rw [← hec, ← hs2] at this
      exact this.mono fun e w' h => ⟨h.1, h.2.more (Nat.le_succ _)⟩))
    have HRR : Hid (∀ (W : World) (m : Nat) (a : Disk.S), Duo W B Z1 sd rd m a s → m ≤ 549755813888 → Calls Tryz.prog 41 #[.pointer (some ⟨rd, 0, none⟩), .int .i64 x.n] W fun e w' => e = .returned (.int .i64 ec) ∧ DuoNow W w' B Z1 sd rd (m + 1) a (s2)) := Lib.hid (fun W m a hd hm => hd.actR (Nat.le_succ m) (fun O hO => by
      have := rcut_any hO x.n HXN.out
      rw [← hec, ← hs2] at this
      exact this.mono fun e w' h => ⟨h.1, h.2.more (Nat.le_succ _)⟩))
    rw [← hs2]
    clear hec hs2
    have HDUOD := Lib.hid (HDUO.out.below HDR.out)
    have HD1 := Lib.hid (HDD.out W0.drew n s HDUOD.out (HB0.out.trans (HDR.out.mono HDUO.out.base)) (by omega))
    have HR1 := Lib.hid (HRR.out W0.drew n s HDUOD.out (by omega))
    have hk0 : W0.drew.heap[w.heap.size]? = W0.heap[w.heap.size]? := rfl
    have HK0 := Lib.hid hk0
    clear hk0
    go_enter Tryz.func12, Tryz.ntmps12
    go_wp2_with fail
    rw [← hW0]
    refine (HPK.out _).mono ?_
    rintro e w1 ⟨rfl, rfl⟩
    clear hW0
    obtain ⟨W0, rfl⟩ : ∃ x, x = w1 := ⟨w1, rfl⟩
    go_wp2
    go_region_held3 (fun w' => w'.cell? ⟨w.heap.size, 0, none⟩ = some (.int .i64 x.kind) ∧ w'.cell? ⟨w.heap.size, 1, none⟩ = some (.string (bs x.path)) ∧ w'.cell? ⟨w.heap.size, 2, none⟩ = some (.string (bs x.to)) ∧ w'.cell? ⟨w.heap.size, 3, none⟩ = some (.string (bs x.data)) ∧ w'.cell? ⟨w.heap.size, 4, none⟩ = some (.int .i64 x.n)) (first | exact HSS.out _ HK0.out | exact HSS.out _ hk7 | exact HSS.out _ hk8) (first
      | (go_at_call 40; refine (HD2.out).mono ?_; rintro e w8 ⟨rfl, hn8⟩; have HFIN := Lib.hid (hn7.then hn8); have hk8 := HBLK.out _ w8 _ _ _ hk7 hn8)
      | (go_at_call 41; refine (HR2.out).mono ?_; rintro e w8 ⟨rfl, hn8⟩; have HFIN := Lib.hid (hn7.then hn8); have hk8 := HBLK.out _ w8 _ _ _ hk7 hn8)
      | (go_at_call 40; refine (HD1.out).mono ?_; rintro e w7 ⟨rfl, hn7⟩; have HR2 := Lib.hid (HRR.out w7 (n + 1) _ hn7.duo (by omega)); have hk7 := HBLK.out _ w7 _ _ _ HK0.out hn7)
      | (go_at_call 41; refine (HR1.out).mono ?_; rintro e w7 ⟨rfl, hn7⟩; have HD2 := Lib.hid (HDD.out w7 (n + 1) _ hn7.duo ((HB0.out.trans (HDR.out.mono HDUO.out.base)).trans hn7.below) (by omega)); have hk7 := HBLK.out _ w7 _ _ _ HK0.out hn7))
    all_goals
      have HOUT := Lib.hid (HAHEAD.out _ _ _ _ ((DuoNow.of_below HDUO.out HDR.out).then HFIN.out))
      go_wp2
      go_returns
      exact ⟨rfl, HOUT.out⟩
  have q7 : (k == 7) = false := beq_eq_false_iff_ne.2 h7
  by_cases h8 : k = 8
  · have q8 : (k == 8) = true := beq_iff_eq.2 h8
    have hstep : s.asks x = ⟨s.l, s.raws, -1⟩ := by rw [HQ.out, if_neg h4, if_neg h5, if_neg h6, if_neg h7, if_pos h8]
    rw [hstep]
    clear hstep h4 h5 h6 h7 h8
    have HDD : Hid (∀ (W : World) (m : Nat) (b : Disk.S), Duo W B Z1 sd rd m s b → Below B w W → m ≤ 549755813888 → Calls Tryz.prog 27 #[.pointer (some ⟨sd, 0, none⟩)] W fun e w' => e = .returned (.tuple #[]) ∧ DuoNow W w' B Z1 sd rd (m + 1) (⟨s.l, s.raws, -1⟩) b) := Lib.hid (fun W m b hd hb hm => hd.actD (Nat.le_succ m) (fun O hO => by
      exact (up_any hO).mono fun e w' h => ⟨h.1, h.2.more (Nat.le_succ _)⟩))
    have HRR : Hid (∀ (W : World) (m : Nat) (a : Disk.S), Duo W B Z1 sd rd m a s → m ≤ 549755813888 → Calls Tryz.prog 42 #[.pointer (some ⟨rd, 0, none⟩)] W fun e w' => e = .returned (.tuple #[]) ∧ DuoNow W w' B Z1 sd rd (m + 1) a (⟨s.l, s.raws, -1⟩)) := Lib.hid (fun W m a hd hm => hd.actR (Nat.le_succ m) (fun O hO => by
      exact (rup_any hO).mono fun e w' h => ⟨h.1, h.2.more (Nat.le_succ _)⟩))
    have HD1 := Lib.hid (HDD.out W0 n s HDUO.out HB0.out (by omega))
    go_enter Tryz.func12, Tryz.ntmps12
    go_wp2_with fail
    rw [← hW0]
    refine (HPK.out _).mono ?_
    rintro e w1 ⟨rfl, rfl⟩
    clear hW0
    obtain ⟨W0, rfl⟩ : ∃ x, x = w1 := ⟨w1, rfl⟩
    go_wp2_with fail
    refine HD1.out.mono ?_
    rintro e w2 ⟨rfl, hn2⟩
    have HN2 := Lib.hid hn2
    have HR2 := Lib.hid (HRR.out w2 (n + 1) _ hn2.duo (by omega))
    clear hn2
    go_wp2_with fail
    refine HR2.out.mono ?_
    rintro e w3 ⟨rfl, hn3⟩
    have HOUT := Lib.hid (HAHEAD.out _ _ _ _ (HN2.out.then hn3))
    clear hn3
    go_wp2
    go_returns
    exact ⟨rfl, HOUT.out⟩
  have q8 : (k == 8) = false := beq_eq_false_iff_ne.2 h8
  by_cases h9 : k = 9
  · have q9 : (k == 9) = true := beq_iff_eq.2 h9
    have hstep : s.asks x = ⟨s.l, [], s.left⟩ := by rw [HQ.out, if_neg h4, if_neg h5, if_neg h6, if_neg h7, if_neg h8, if_pos h9]
    rw [hstep]
    clear hstep h4 h5 h6 h7 h8 h9
    have HD1 := Lib.hid (HDUO.out.actD (Nat.le_succ n) (fun O hO => (clear_disk hO).mono fun e w' h => (⟨h.1, h.2.more (Nat.le_succ _)⟩ : e = .returned (.tuple #[]) ∧ _)))
    go_enter Tryz.func12, Tryz.ntmps12
    go_wp2_with fail
    rw [← hW0]
    refine (HPK.out _).mono ?_
    rintro e w1 ⟨rfl, rfl⟩
    clear hW0
    obtain ⟨W0, rfl⟩ : ∃ x, x = w1 := ⟨w1, rfl⟩
    go_wp2_with fail
    refine HD1.out.mono ?_
    rintro e w2 ⟨rfl, hn2⟩
    obtain ⟨hcl, ⟨a1, n1, k1, hcell⟩, hfrz⟩ := hn2.duo.clearR
    have HOUT := Lib.hid ((HAHEAD.out _ _ _ _ (hn2.then hcl)).more (Nat.le_succ (n + 1)))
    clear hn2 hcl
    go_wp2
    go_returns
    exact ⟨rfl, HOUT.out⟩
  have q9 : (k == 9) = false := beq_eq_false_iff_ne.2 h9
  by_cases h10 : k = 10
  · have q10 : (k == 10) = true := beq_iff_eq.2 h10
    have hstep : s.asks x = s := by rw [HQ.out, if_neg h4, if_neg h5, if_neg h6, if_neg h7, if_neg h8, if_neg h9, if_pos h10]
    rw [hstep]
    clear hstep h4 h5 h6 h7 h8 h9 h10
    obtain ⟨lv, rv, hf, hat, hrd⟩ : ∃ lv rv, RskFit n s ∧ (∃ O, RskAt W0 B O rd lv rv s) ∧ True := by
      obtain ⟨OA, OB, _, ⟨lv, rv, hf, hat⟩, _⟩ := HDUO.out
      exact ⟨lv, rv, hf, ⟨OB, hat⟩, trivial⟩
    obtain ⟨O, hat⟩ := hat
    have HALL : Hid (Calls Tryz.prog 18 #[.pointer (some ⟨sd, 0, none⟩)] W0.drew fun e w' => ∃ v, e = .returned v ∧ FRow w' W0.heap.size v (fls s.l) ∧ Below W0.heap.size W0 w') := Lib.hid (by
      obtain ⟨OA, OB, ⟨bm, mm, rv, hm1, hat2⟩, _⟩ := HDUO.out.below HDR.out
      have := all_any hat2.d.c0 hat2.d.things (by have := HFT.out.1; omega)
      exact this.mono fun e w' ⟨v, h4, h5, h6⟩ => ⟨v, h4, h5, HDR.out.trans h6⟩)
    have hlf : (fls s.l).length ≤ 4398046511104 := by rw [fls_length]; have := HFT.out.1; omega
    have HLF := Lib.hid hlf
    have HLI := Lib.hid hat.r.row.files
    have hc0 := hat.r.c0
    have hrdl := hat.r.rdl
    obtain ⟨av, cv, rfl⟩ := own_form hat.r.row
    clear hlf hat hf hrd
    go_enter Tryz.func12, Tryz.ntmps12
    go_wp2_with fail
    rw [← hW0]
    refine (HPK.out _).mono ?_
    rintro e w1 ⟨rfl, rfl⟩
    clear hW0
    obtain ⟨W0, rfl⟩ : ∃ x, x = w1 := ⟨w1, rfl⟩
    go_wp2
    go_region_held3 (fun w' => w'.cell? ⟨rd, 0, none⟩ = some (.slice av (fls s.l).length cv)) (first | exact hc0 | exact hc1) (first
      | (go_at_call 18; refine (HALL.out).mono ?_; rintro e w7 ⟨v7, rfl, hr7, hb7⟩; have hc1 := (hb7.cell (p := ⟨rd, 0, none⟩) hrdl).trans hc0; have HC7 := Lib.hid (files_any hr7.files (HLI.out.below hb7 (Nat.le_refl _) |>.mono hb7.size) HLF.out); have HB7 := Lib.hid hb7; clear hr7 hb7)
      | (go_at_call 17; refine HC7.out.mono ?_; rintro e w8 ⟨rfl, m8, rfl⟩))
    all_goals
      have HOUT := Lib.hid ((HAHEAD.out _ _ _ _ (DuoNow.of_below HDUO.out (bdrew HB7.out m8))).more (show n ≤ n + 1 + 1 by omega))
      go_wp2
      go_returns
      exact ⟨rfl, HOUT.out⟩
  have q10 : (k == 10) = false := beq_eq_false_iff_ne.2 h10
  have hstep : s.asks x = (s.asked k x).2 := by rw [HQ.out, if_neg h4, if_neg h5, if_neg h6, if_neg h7, if_neg h8, if_neg h9, if_neg h10]
  rw [hstep]
  clear hstep h4 h5 h6 h7 h8 h9 h10
  have HWR := Lib.hid (writes_any HDUO.out (fun W hb => HE.out W (HB0.out.trans hb)) (by omega) x HFX.out hp hq k HKK.out)
  go_enter Tryz.func12, Tryz.ntmps12
  go_wp2_with fail
  rw [← hW0]
  refine (HPK.out _).mono ?_
  rintro e w1 ⟨rfl, rfl⟩
  clear hW0
  obtain ⟨W0, rfl⟩ : ∃ x, x = w1 := ⟨w1, rfl⟩
  go_wp2_with fail
  refine HWR.out.mono ?_
  rintro e w2 ⟨rfl, hn2⟩
  have HOUT := Lib.hid (HAHEAD.out _ _ _ _ hn2)
  clear hn2
  go_wp2
  go_returns
  exact ⟨rfl, HOUT.out⟩
end Go.Proofs.YtnfklomokjhojaaGreatDoor
