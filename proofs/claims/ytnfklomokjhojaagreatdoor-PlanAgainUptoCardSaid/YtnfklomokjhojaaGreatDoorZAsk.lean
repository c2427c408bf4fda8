/- What is asked of both disks: texts, writes, asks: the walks. -/
import Derived.Test.YtnfklomokjhojaaGreatDoorRList
import Derived.Test.YtnfklomokjhojaaGreatDoorDiskC1
namespace Go.Proofs.YtnfklomokjhojaaGreatDoor
open Go.RowKit Go.Maps
set_option linter.unusedSimpArgs false
set_option linter.unusedVariables false
/-- A slice of texts, in blocks below B. -/
structure Ts (w : World) (B : Nat) (v : Value) (ns : List (List UInt8)) : Prop where
  is : ∃ a cap, v = .slice a ns.length cap ∧ ∀ (i : Nat) x, ns[i]? = some x → ∃ bk o, a = some ⟨bk, o, none⟩ ∧ bk < B ∧ w.cell? ⟨bk, o + i, none⟩ = some (.string (bs x))
theorem Ts.form {w : World} {B : Nat} {v : Value} {ns : List (List UInt8)} (h : Ts w B v ns) : ∃ a cap, v = .slice a ns.length cap := by
  obtain ⟨a, cap, rfl, _⟩ := h.is
  exact ⟨a, cap, rfl⟩
theorem Ts.at {w : World} {B : Nat} {v : Value} {ns : List (List UInt8)} (h : Ts w B v ns) (hn : 0 < ns.length) : ∃ bk o cap, v = .slice (some ⟨bk, o, none⟩) ns.length cap ∧ bk < B ∧ ∀ (i : Nat) x, ns[i]? = some x → w.cell? ⟨bk, o + i, none⟩ = some (.string (bs x)) := by
  obtain ⟨a, cap, rfl, hc⟩ := h.is
  obtain ⟨bk, o, ha, hB, _⟩ := hc 0 ns[0] (List.getElem?_eq_getElem hn)
  subst ha
  refine ⟨bk, o, cap, rfl, hB, fun i d hd => ?_⟩
  obtain ⟨bk', o', ha', _, h1⟩ := hc i d hd
  cases ha'
  exact h1
theorem Ts.below {w w' : World} {n B : Nat} {v : Value} {ns : List (List UInt8)} (h : Ts w B v ns) (hb : Below n w w') (hB : B ≤ n) : Ts w' B v ns := by
  obtain ⟨a, cap, rfl, hc⟩ := h.is
  refine ⟨a, cap, rfl, fun i d hd => ?_⟩
  obtain ⟨bk, o, ha, hb', h1⟩ := hc i d hd
  exact ⟨bk, o, ha, hb', by rw [hb.cell (p := ⟨bk, o + i, none⟩) (by show bk < n; omega)]; exact h1⟩
theorem Ts.mono {w : World} {B B' : Nat} {v : Value} {ns : List (List UInt8)} (h : Ts w B v ns) (hB : B ≤ B') : Ts w B' v ns := by
  obtain ⟨a, cap, rfl, hc⟩ := h.is
  refine ⟨a, cap, rfl, fun i d hd => ?_⟩
  obtain ⟨bk, o, ha, hb', h1⟩ := hc i d hd
  exact ⟨bk, o, ha, by omega, h1⟩
theorem SRow.ts {w : World} {base : Nat} {v : Value} {ns : List (List UInt8)} (h : SRow w base v ns) : Ts w w.heap.size v ns := by
  rcases h.2 with ⟨rfl, h0⟩ | ⟨g, cap, cur, rfl, hb, hg, hnc, _⟩
  · have : ns = [] := List.length_eq_zero_iff.1 h0
    subst this
    exact ⟨none, 0, rfl, fun i d h => by simp at h⟩
  · have hgs : g < w.heap.size := (Array.getElem?_eq_some_iff.1 hg).1
    refine ⟨some ⟨g, 0, none⟩, cap, rfl, fun i d hd => ⟨g, 0, rfl, hgs, ?_⟩⟩
    have hi := (List.getElem?_eq_some_iff.1 hd).1
    rw [Nat.zero_add, World.ownsRow.cellAt h _ (by omega)]
    exact enc1_at ns i d hd
set_option maxHeartbeats 2000000 in
set_option maxRecDepth 100000 in
theorem texts_any {w : World} {B : Nat} {v1 v2 : Value} {ds : List (List UInt8)} (h1 : Ts w B v1 ds) (h2 : Ts w B v2 ds) (hn : ds.length ≤ 4398046511104) :
    Calls Tryz.prog 39 #[v1, v2] w fun e w' => e = .returned (.bool true) ∧ ∃ m, w' = w.drewN m := by
  obtain ⟨a1, c1, rfl⟩ := h1.form
  obtain ⟨a2, c2, rfl⟩ := h2.form
  obtain ⟨N, hN⟩ : ∃ N, N = ds.length := ⟨_, rfl⟩
  have H1 := Lib.hid h1
  have H2 := Lib.hid h2
  rw [← hN] at hn ⊢
  have HN := Lib.hid hN
  clear h1 h2 hN
  go_enter Tryz.func39, Tryz.ntmps39
  go_wp2
  go_loopw [5] (fun q wr => ∃ i m : Nat, q = .int .i64 i ∧ i ≤ N ∧ wr = w.drewN m) (fun q _ => N - (intOf q).toNat)
  case atStart => exact ⟨0, 0, rfl, by omega, rfl⟩
  case round =>
    obtain ⟨i, m, rfl, hi, rfl⟩ := hrel
    by_cases hiN : i < N
    · obtain ⟨d, hd⟩ : ∃ d, ds[i]? = some d := ⟨_, List.getElem?_eq_getElem (by have := HN.out; omega)⟩
      obtain ⟨b1, o1, cap1, hv1, hb1, hc1⟩ := H1.out.at (by have := HN.out; omega)
      obtain ⟨b2, o2, cap2, hv2, hb2, hc2⟩ := H2.out.at (by have := HN.out; omega)
      rw [← HN.out] at hv1 hv2
      cases hv1
      cases hv2
      have x1 := hc1 i d hd
      have y1 := hc2 i d hd
      have hiI : (i : Int) < (N : Int) := by omega
      have hq := sv_inj (a := d) (b := d)
      rw [decide_eq_true rfl] at hq
      clear hc1 hc2 hd
      go_wp2
      go_big_quiet (fail)
      go_wp2
      go_roundw
      case rel => exact ⟨i + 1, _, by go_num, by omega, rfl⟩
      case measure => simp [intOf]; omega
    · go_wp2
      go_returns
      exact ⟨rfl, _, rfl⟩
/-- The disk and the document's, side by side, and blocks Z that are neither's. -/
def Duo (w : World) (B : Nat) (Z : Nat → Prop) (sd rd n : Nat) (a b : Disk.S) : Prop := ∃ OA OB, Dsk w B OA sd n a ∧ Rsk w B OB rd n b ∧ (∀ k, OA k → ¬ OB k) ∧ ∀ k, Z k → ¬ OA k ∧ ¬ OB k ∧ k < w.heap.size
/-- What an act leaves. -/
structure DuoNow (w w' : World) (B : Nat) (Z : Nat → Prop) (sd rd n : Nat) (a b : Disk.S) : Prop where
  duo : Duo w' B Z sd rd n a b
  below : Below B w w'
  keep : ∀ k, Z k → w'.heap[k]? = w.heap[k]?
theorem Duo.actD {P : Program} {f : FuncId} {args : Array Value} {Q : Ending → Prop} {w : World} {B : Nat} {Z : Nat → Prop} {sd rd n n' : Nat} {a b a' : Disk.S} (h : Duo w B Z sd rd n a b) (hn : n ≤ n')
    (hc : ∀ O, Dsk w B O sd n a → Calls P f args w fun e w' => Q e ∧ DskNow w w' B O sd n' a') : Calls P f args w fun e w' => Q e ∧ DuoNow w w' B Z sd rd n' a' b := by
  obtain ⟨OA, OB, h1, h2, h3, h4⟩ := h
  refine (hc OA h1).mono ?_
  rintro e w' ⟨he, ⟨O', k1, k2⟩, k3⟩
  refine ⟨he, ⟨⟨O', OB, k1, (h2.keeps k3 (fun k hb ha => h3 k ha hb)).more hn, fun k hk hb => ?_, fun k hk => ⟨fun hk2 => ?_, (h4 k hk).2.1, Nat.lt_of_lt_of_le (h4 k hk).2.2 k3.size⟩⟩, k3.to_below (fun k hk => (h1.lim k hk).1) h1.base, fun k hk => k3.block k (h4 k hk).2.2 (h4 k hk).1⟩⟩
  · rcases k2 k hk with hh | hh
    · exact h3 k hh hb
    · have := (h2.lim k hb).2; omega
  · rcases k2 k hk2 with hh | hh
    · exact (h4 k hk).1 hh
    · have := (h4 k hk).2.2; omega
theorem Duo.actR {P : Program} {f : FuncId} {args : Array Value} {Q : Ending → Prop} {w : World} {B : Nat} {Z : Nat → Prop} {sd rd n n' : Nat} {a b b' : Disk.S} (h : Duo w B Z sd rd n a b) (hn : n ≤ n')
    (hc : ∀ O, Rsk w B O rd n b → Calls P f args w fun e w' => Q e ∧ RskNow w w' B O rd n' b') : Calls P f args w fun e w' => Q e ∧ DuoNow w w' B Z sd rd n' a b' := by
  obtain ⟨OA, OB, h1, h2, h3, h4⟩ := h
  refine (hc OB h2).mono ?_
  rintro e w' ⟨he, ⟨O', k1, k2⟩, k3⟩
  refine ⟨he, ⟨⟨OA, O', (h1.keeps k3 (fun k hb ha => h3 k hb ha)).more hn, k1, fun k ha hk => ?_, fun k hk => ⟨(h4 k hk).1, fun hk2 => ?_, Nat.lt_of_lt_of_le (h4 k hk).2.2 k3.size⟩⟩, k3.to_below (fun k hk => (h2.lim k hk).1) h2.base, fun k hk => k3.block k (h4 k hk).2.2 (h4 k hk).2.1⟩⟩
  · rcases k2 k hk with hh | hh
    · exact h3 k ha hh
    · have := (h1.lim k ha).2; omega
  · rcases k2 k hk2 with hh | hh
    · exact (h4 k hk).2.1 hh
    · have := (h4 k hk).2.2; omega
theorem Duo.below {w w' : World} {B : Nat} {Z : Nat → Prop} {sd rd n : Nat} {a b : Disk.S} (h : Duo w B Z sd rd n a b) (hb : Below w.heap.size w w') : Duo w' B Z sd rd n a b := by
  obtain ⟨OA, OB, h1, h2, h3, h4⟩ := h
  exact ⟨OA, OB, h1.below hb, h2.below hb, h3, fun k hk => ⟨(h4 k hk).1, (h4 k hk).2.1, Nat.lt_of_lt_of_le (h4 k hk).2.2 hb.size⟩⟩
theorem Duo.fresh {w w' : World} {B : Nat} {Z : Nat → Prop} {sd rd n : Nat} {a b : Disk.S} (h : Duo w B Z sd rd n a b) (hb : Below w.heap.size w w') : Duo w' B (fun k => Z k ∨ w.heap.size ≤ k ∧ k < w'.heap.size) sd rd n a b := by
  obtain ⟨OA, OB, h1, h2, h3, h4⟩ := h
  refine ⟨OA, OB, h1.below hb, h2.below hb, h3, fun k hk => ?_⟩
  rcases hk with hk | hk
  · exact ⟨(h4 k hk).1, (h4 k hk).2.1, Nat.lt_of_lt_of_le (h4 k hk).2.2 hb.size⟩
  · exact ⟨fun hk2 => by have := (h1.lim k hk2).2; omega, fun hk2 => by have := (h2.lim k hk2).2; omega, hk.2⟩
theorem Duo.more {w : World} {B : Nat} {Z : Nat → Prop} {sd rd n n' : Nat} {a b : Disk.S} (h : Duo w B Z sd rd n a b) (hn : n ≤ n') : Duo w B Z sd rd n' a b := by
  obtain ⟨OA, OB, h1, h2, h3, h4⟩ := h
  exact ⟨OA, OB, h1.more hn, h2.more hn, h3, h4⟩
theorem Duo.fewer {w : World} {B : Nat} {Z Z' : Nat → Prop} {sd rd n : Nat} {a b : Disk.S} (h : Duo w B Z sd rd n a b) (hz : ∀ k, Z' k → Z k) : Duo w B Z' sd rd n a b := by
  obtain ⟨OA, OB, h1, h2, h3, h4⟩ := h
  exact ⟨OA, OB, h1, h2, h3, fun k hk => h4 k (hz k hk)⟩
theorem Duo.base {w : World} {B : Nat} {Z : Nat → Prop} {sd rd n : Nat} {a b : Disk.S} (h : Duo w B Z sd rd n a b) : B ≤ w.heap.size := by
  obtain ⟨OA, OB, h1, _⟩ := h
  exact h1.base
theorem DuoNow.ahead {w w1 w' : World} {B : Nat} {Z Z1 : Nat → Prop} {sd rd n : Nat} {a b : Disk.S} (hb : Below w.heap.size w w1) (hB : B ≤ w.heap.size) (h : DuoNow w1 w' B Z1 sd rd n a b) (hz : ∀ k, Z k → Z1 k) (hl : ∀ k, Z k → k < w.heap.size) : DuoNow w w' B Z sd rd n a b :=
  ⟨h.duo.fewer hz, (hb.mono hB).trans h.below, fun k hk => (h.keep k (hz k hk)).trans (hb.block k (hl k hk))⟩
theorem DuoNow.then {w w1 w' : World} {B : Nat} {Z : Nat → Prop} {sd rd n n' : Nat} {a b a' b' : Disk.S} (h1 : DuoNow w w1 B Z sd rd n a b) (h2 : DuoNow w1 w' B Z sd rd n' a' b') : DuoNow w w' B Z sd rd n' a' b' :=
  ⟨h2.duo, h1.below.trans h2.below, fun k hk => (h2.keep k hk).trans (h1.keep k hk)⟩
theorem DuoNow.of_below {w w' : World} {B : Nat} {Z : Nat → Prop} {sd rd n : Nat} {a b : Disk.S} (h : Duo w B Z sd rd n a b) (hb : Below w.heap.size w w') : DuoNow w w' B Z sd rd n a b := by
  refine ⟨h.below hb, hb.mono h.base, fun k hk => hb.block k ?_⟩
  obtain ⟨OA, OB, h1, h2, h3, h4⟩ := h
  exact (h4 k hk).2.2
theorem DuoNow.more {w w' : World} {B : Nat} {Z : Nat → Prop} {sd rd n n' : Nat} {a b : Disk.S} (h : DuoNow w w' B Z sd rd n a b) (hn : n ≤ n') : DuoNow w w' B Z sd rd n' a b := ⟨h.duo.more hn, h.below, h.keep⟩
set_option maxHeartbeats 16000000 in
set_option maxRecDepth 100000 in
theorem writes_any {w : World} {B : Nat} {Z : Nat → Prop} {sd rd n : Nat} {s : Disk.S} (h : Duo w B Z sd rd n s s) (hE : ∀ W, Below B w W → Env W) (hn : n ≤ 274877906944) (x : Disk.Dq) (hfit : x.Fits) (hp : x.path.length ≤ 4398046511104) (hq : x.to.length ≤ 4398046511104) (k : Int) (hk : k = Disk.pickI x.kind 11) :
    Calls Tryz.prog 21 #[.pointer (some ⟨sd, 0, none⟩), .pointer (some ⟨rd, 0, none⟩), .agg #[.int .i64 x.kind, .string (bs x.path), .string (bs x.to), .string (bs x.data), .int .i64 x.n]] w fun e w' => e = .returned (.bool true) ∧ DuoNow w w' B Z sd rd (n + 1 + 1) (s.asked k x).2 (s.asked k x).2 := by
  have HE := Lib.hid hE
  have HPK := Lib.hid (fun W => pick01_any x.kind 11 hfit.1 (by decide) (by decide) W)
  rw [← hk] at HPK
  have HQ := Lib.hid (Disk.asked_eq s k x)
  obtain ⟨W0, hW0⟩ : ∃ W, W = w.alloc (.cells #[.int .i64 x.kind, .string (bs x.path), .string (bs x.to), .string (bs x.data), .int .i64 x.n] 29) := ⟨_, rfl⟩
  have g0 : W0.cell? ⟨w.heap.size, 0, none⟩ = some (.int .i64 x.kind) ∧ W0.cell? ⟨w.heap.size, 1, none⟩ = some (.string (bs x.path)) ∧ W0.cell? ⟨w.heap.size, 2, none⟩ = some (.string (bs x.to)) ∧ W0.cell? ⟨w.heap.size, 3, none⟩ = some (.string (bs x.data)) ∧ W0.cell? ⟨w.heap.size, 4, none⟩ = some (.int .i64 x.n) := by rw [hW0]; exact ⟨by simp, by simp, by simp, by simp, by simp⟩
  have gs : W0.heap.size = w.heap.size + 1 := by rw [hW0]; simp
  have hB0 : Below w.heap.size w W0 := by rw [hW0]; exact (Below.refl _ _).alloc (Nat.le_refl _) _
  obtain ⟨Z1, hZ1⟩ : ∃ Z1 : Nat → Prop, Z1 = fun k => Z k ∨ w.heap.size ≤ k ∧ k < W0.drew.heap.size := ⟨_, rfl⟩
  obtain ⟨WD, hWD⟩ : ∃ WD, WD = W0.drew := ⟨_, rfl⟩
  have hB1 : Below w.heap.size w WD := by rw [hWD]; exact hB0.drew
  have HDUO : Hid (Duo WD B Z1 sd rd n s s) := Lib.hid (by
    have := h.fresh hB1
    rw [hWD] at this ⊢
    rw [hZ1]; exact this)
  have HBWD : Hid (Below B w WD) := Lib.hid (hB1.mono h.base)
  have HSS : Hid (∀ W : World, W.heap[w.heap.size]? = W0.heap[w.heap.size]? → W.cell? ⟨w.heap.size, 0, none⟩ = some (.int .i64 x.kind) ∧ W.cell? ⟨w.heap.size, 1, none⟩ = some (.string (bs x.path)) ∧ W.cell? ⟨w.heap.size, 2, none⟩ = some (.string (bs x.to)) ∧ W.cell? ⟨w.heap.size, 3, none⟩ = some (.string (bs x.data)) ∧ W.cell? ⟨w.heap.size, 4, none⟩ = some (.int .i64 x.n)) := Lib.hid (fun W hW => by
    have hc : ∀ j, W.cell? ⟨w.heap.size, j, none⟩ = W0.cell? ⟨w.heap.size, j, none⟩ := fun j => World.cell?_of_block (a := ⟨w.heap.size, j, none⟩) hW
    rw [hc, hc, hc, hc, hc]
    exact g0)
  have HBLK : Hid (∀ (w' : World) (m : Nat) (a b : Disk.S), DuoNow WD w' B Z1 sd rd m a b → w'.heap[w.heap.size]? = W0.heap[w.heap.size]?) := Lib.hid (fun w' m a b hn => by
    rw [hn.keep w.heap.size (by rw [hZ1]; exact Or.inr ⟨Nat.le_refl _, by show w.heap.size < W0.heap.size; omega⟩), hWD]
    rfl)
  have HBK0 : Hid (WD.heap[w.heap.size]? = W0.heap[w.heap.size]?) := Lib.hid (by rw [hWD]; rfl)
  have HAHEAD : Hid (∀ (w' : World) (m : Nat) (a b : Disk.S), DuoNow WD w' B Z1 sd rd m a b → DuoNow w w' B Z sd rd m a b) := Lib.hid (fun w' m a b hn => DuoNow.ahead hB1 h.base hn (fun k hk => by rw [hZ1]; exact Or.inl hk) (fun k hk => by
    obtain ⟨OA, OB, _, _, _, h4⟩ := h
    exact (h4 k hk).2.2))
  obtain ⟨c0, c1, c2, c3, c4⟩ := g0
  clear h hE hfit hk hB0 hB1 hZ1
  by_cases h0 : k = 0
  · have q0 : (k == 0) = true := beq_iff_eq.2 h0
    have hcore : s.asked k x = s.mkdir x.path := by rw [HQ.out, if_pos h0]
    rw [hcore]
    clear hcore h0
    obtain ⟨R, hR⟩ : ∃ R, R = s.mkdir x.path := ⟨_, rfl⟩
    rw [← hR]
    obtain ⟨r1, hr1⟩ : ∃ r, r = R.1 := ⟨_, rfl⟩
    have HDD : Hid (∀ (W : World) (m : Nat) (b : Disk.S), Duo W B Z1 sd rd m s b → Below B w W → m ≤ 549755813888 → Calls Tryz.prog 46 #[.pointer (some ⟨sd, 0, none⟩), .string (bs x.path)] W fun e w' => e = .returned (.int .i64 r1) ∧ DuoNow W w' B Z1 sd rd (m + 1) R.2 b) := Lib.hid (fun W m b hd hb hm => hd.actD (Nat.le_succ m) (fun O hO => by
      have := mkdir_any hO (HE.out W hb) (by omega) x.path hp
      rw [← hR] at this
      exact this.mono fun e w' h => ⟨by rw [hr1]; exact h.1, h.2⟩))
    have HRR : Hid (∀ (W : World) (m : Nat) (a : Disk.S), Duo W B Z1 sd rd m a s → m ≤ 549755813888 → Calls Tryz.prog 48 #[.pointer (some ⟨rd, 0, none⟩), .string (bs x.path)] W fun e w' => e = .returned (.int .i64 r1) ∧ DuoNow W w' B Z1 sd rd (m + 1) a R.2) := Lib.hid (fun W m a hd hm => hd.actR (Nat.le_succ m) (fun O hO => by
      have := rmkdir_any hO (by omega) x.path hp
      rw [← hR] at this
      exact this.mono fun e w' h => ⟨by rw [hr1]; exact h.1, h.2⟩))
    have HD1 := Lib.hid (HDD.out WD n s HDUO.out HBWD.out (by omega))
    have HR1 := Lib.hid (HRR.out WD n s HDUO.out (by omega))
    clear hr1 hR
    go_enter Tryz.func21, Tryz.ntmps21
    go_wp2_with fail
    rw [← hW0]
    refine (HPK.out _).mono ?_
    rintro e w1 ⟨rfl, rfl⟩
    clear hW0
    obtain ⟨W0, rfl⟩ : ∃ x, x = w1 := ⟨w1, rfl⟩
    go_wp2
    subst hWD
    go_region_held3 (fun w' => w'.cell? ⟨w.heap.size, 0, none⟩ = some (.int .i64 x.kind) ∧ w'.cell? ⟨w.heap.size, 1, none⟩ = some (.string (bs x.path)) ∧ w'.cell? ⟨w.heap.size, 2, none⟩ = some (.string (bs x.to)) ∧ w'.cell? ⟨w.heap.size, 3, none⟩ = some (.string (bs x.data)) ∧ w'.cell? ⟨w.heap.size, 4, none⟩ = some (.int .i64 x.n)) (first | exact HSS.out _ HBK0.out | exact HSS.out _ hk7 | exact HSS.out _ hk8) (first
      | (go_at_call 46; refine (HD2.out).mono ?_; rintro e w8 ⟨rfl, hn8⟩; have HFIN := Lib.hid (hn7.then hn8); have hk8 := HBLK.out w8 _ _ _ (hn7.then hn8))
      | (go_at_call 48; refine (HR2.out).mono ?_; rintro e w8 ⟨rfl, hn8⟩; have HFIN := Lib.hid (hn7.then hn8); have hk8 := HBLK.out w8 _ _ _ (hn7.then hn8))
      | (go_at_call 46; refine (HD1.out).mono ?_; rintro e w7 ⟨rfl, hn7⟩; have HR2 := Lib.hid (HRR.out w7 (n + 1) _ hn7.duo (by omega)); have hk7 := HBLK.out w7 _ _ _ hn7)
      | (go_at_call 48; refine (HR1.out).mono ?_; rintro e w7 ⟨rfl, hn7⟩; have HD2 := Lib.hid (HDD.out w7 (n + 1) _ hn7.duo (HBWD.out.trans hn7.below) (by omega)); have hk7 := HBLK.out w7 _ _ _ hn7))
    all_goals
      have HOUT := Lib.hid (HAHEAD.out _ _ _ _ HFIN.out)
      go_wp2
      go_returns
      exact ⟨rfl, HOUT.out⟩
  have q0 : (k == 0) = false := beq_eq_false_iff_ne.2 h0
  by_cases h1 : k = 1
  · have q1 : (k == 1) = true := beq_iff_eq.2 h1
    have hcore : s.asked k x = s.write x.path x.data := by rw [HQ.out, if_neg h0, if_pos h1]
    rw [hcore]
    clear hcore h0 h1
    obtain ⟨R, hR⟩ : ∃ R, R = s.write x.path x.data := ⟨_, rfl⟩
    rw [← hR]
    obtain ⟨r1, hr1⟩ : ∃ r, r = R.1 := ⟨_, rfl⟩
    have HDD : Hid (∀ (W : World) (m : Nat) (b : Disk.S), Duo W B Z1 sd rd m s b → Below B w W → m ≤ 549755813888 → Calls Tryz.prog 47 #[.pointer (some ⟨sd, 0, none⟩), .string (bs x.path), .string (bs x.data)] W fun e w' => e = .returned (.int .i64 r1) ∧ DuoNow W w' B Z1 sd rd (m + 1) R.2 b) := Lib.hid (fun W m b hd hb hm => hd.actD (Nat.le_succ m) (fun O hO => by
      have := write_any hO (HE.out W hb) (by omega) x.path x.data hp
      rw [← hR] at this
      exact this.mono fun e w' h => ⟨by rw [hr1]; exact h.1, h.2⟩))
    have HRR : Hid (∀ (W : World) (m : Nat) (a : Disk.S), Duo W B Z1 sd rd m a s → m ≤ 549755813888 → Calls Tryz.prog 49 #[.pointer (some ⟨rd, 0, none⟩), .string (bs x.path), .string (bs x.data)] W fun e w' => e = .returned (.int .i64 r1) ∧ DuoNow W w' B Z1 sd rd (m + 1) a R.2) := Lib.hid (fun W m a hd hm => hd.actR (Nat.le_succ m) (fun O hO => by
      have := rwrite_any hO (by omega) x.path x.data hp
      rw [← hR] at this
      exact this.mono fun e w' h => ⟨by rw [hr1]; exact h.1, h.2⟩))
    have HD1 := Lib.hid (HDD.out WD n s HDUO.out HBWD.out (by omega))
    have HR1 := Lib.hid (HRR.out WD n s HDUO.out (by omega))
    clear hr1 hR
    go_enter Tryz.func21, Tryz.ntmps21
    go_wp2_with fail
    rw [← hW0]
    refine (HPK.out _).mono ?_
    rintro e w1 ⟨rfl, rfl⟩
    clear hW0
    obtain ⟨W0, rfl⟩ : ∃ x, x = w1 := ⟨w1, rfl⟩
    go_wp2
    subst hWD
    go_region_held3 (fun w' => w'.cell? ⟨w.heap.size, 0, none⟩ = some (.int .i64 x.kind) ∧ w'.cell? ⟨w.heap.size, 1, none⟩ = some (.string (bs x.path)) ∧ w'.cell? ⟨w.heap.size, 2, none⟩ = some (.string (bs x.to)) ∧ w'.cell? ⟨w.heap.size, 3, none⟩ = some (.string (bs x.data)) ∧ w'.cell? ⟨w.heap.size, 4, none⟩ = some (.int .i64 x.n)) (first | exact HSS.out _ HBK0.out | exact HSS.out _ hk7 | exact HSS.out _ hk8) (first
      | (go_at_call 47; refine (HD2.out).mono ?_; rintro e w8 ⟨rfl, hn8⟩; have HFIN := Lib.hid (hn7.then hn8); have hk8 := HBLK.out w8 _ _ _ (hn7.then hn8))
      | (go_at_call 49; refine (HR2.out).mono ?_; rintro e w8 ⟨rfl, hn8⟩; have HFIN := Lib.hid (hn7.then hn8); have hk8 := HBLK.out w8 _ _ _ (hn7.then hn8))
      | (go_at_call 47; refine (HD1.out).mono ?_; rintro e w7 ⟨rfl, hn7⟩; have HR2 := Lib.hid (HRR.out w7 (n + 1) _ hn7.duo (by omega)); have hk7 := HBLK.out w7 _ _ _ hn7)
      | (go_at_call 49; refine (HR1.out).mono ?_; rintro e w7 ⟨rfl, hn7⟩; have HD2 := Lib.hid (HDD.out w7 (n + 1) _ hn7.duo (HBWD.out.trans hn7.below) (by omega)); have hk7 := HBLK.out w7 _ _ _ hn7))
    all_goals
      have HOUT := Lib.hid (HAHEAD.out _ _ _ _ HFIN.out)
      go_wp2
      go_returns
      exact ⟨rfl, HOUT.out⟩
  have q1 : (k == 1) = false := beq_eq_false_iff_ne.2 h1
  by_cases h2 : k = 2
  · have q2 : (k == 2) = true := beq_iff_eq.2 h2
    have hcore : s.asked k x = s.rename x.path x.to := by rw [HQ.out, if_neg h0, if_neg h1, if_pos h2]
    rw [hcore]
    clear hcore h0 h1 h2
    obtain ⟨R, hR⟩ : ∃ R, R = s.rename x.path x.to := ⟨_, rfl⟩
    rw [← hR]
    obtain ⟨r1, hr1⟩ : ∃ r, r = R.1 := ⟨_, rfl⟩
    have HDD : Hid (∀ (W : World) (m : Nat) (b : Disk.S), Duo W B Z1 sd rd m s b → Below B w W → m ≤ 549755813888 → Calls Tryz.prog 50 #[.pointer (some ⟨sd, 0, none⟩), .string (bs x.path), .string (bs x.to)] W fun e w' => e = .returned (.int .i64 r1) ∧ DuoNow W w' B Z1 sd rd (m + 1) R.2 b) := Lib.hid (fun W m b hd hb hm => hd.actD (Nat.le_succ m) (fun O hO => by
      have := rename_any hO (HE.out W hb) hO.base (by omega) x.path x.to hp hq
      rw [← hR] at this
      exact this.mono fun e w' h => ⟨by rw [hr1]; exact h.1, h.2⟩))
    have HRR : Hid (∀ (W : World) (m : Nat) (a : Disk.S), Duo W B Z1 sd rd m a s → m ≤ 549755813888 → Calls Tryz.prog 51 #[.pointer (some ⟨rd, 0, none⟩), .string (bs x.path), .string (bs x.to)] W fun e w' => e = .returned (.int .i64 r1) ∧ DuoNow W w' B Z1 sd rd (m + 1) a R.2) := Lib.hid (fun W m a hd hm => hd.actR (Nat.le_succ m) (fun O hO => by
      have := rrename_any hO (by omega) x.path x.to hp hq
      rw [← hR] at this
      exact this.mono fun e w' h => ⟨by rw [hr1]; exact h.1, h.2⟩))
    have HD1 := Lib.hid (HDD.out WD n s HDUO.out HBWD.out (by omega))
    have HR1 := Lib.hid (HRR.out WD n s HDUO.out (by omega))
    clear hr1 hR
    go_enter Tryz.func21, Tryz.ntmps21
    go_wp2_with fail
    rw [← hW0]
    refine (HPK.out _).mono ?_
    rintro e w1 ⟨rfl, rfl⟩
    clear hW0
    obtain ⟨W0, rfl⟩ : ∃ x, x = w1 := ⟨w1, rfl⟩
    go_wp2
    subst hWD
    go_region_held3 (fun w' => w'.cell? ⟨w.heap.size, 0, none⟩ = some (.int .i64 x.kind) ∧ w'.cell? ⟨w.heap.size, 1, none⟩ = some (.string (bs x.path)) ∧ w'.cell? ⟨w.heap.size, 2, none⟩ = some (.string (bs x.to)) ∧ w'.cell? ⟨w.heap.size, 3, none⟩ = some (.string (bs x.data)) ∧ w'.cell? ⟨w.heap.size, 4, none⟩ = some (.int .i64 x.n)) (first | exact HSS.out _ HBK0.out | exact HSS.out _ hk7 | exact HSS.out _ hk8) (first
      | (go_at_call 50; refine (HD2.out).mono ?_; rintro e w8 ⟨rfl, hn8⟩; have HFIN := Lib.hid (hn7.then hn8); have hk8 := HBLK.out w8 _ _ _ (hn7.then hn8))
      | (go_at_call 51; refine (HR2.out).mono ?_; rintro e w8 ⟨rfl, hn8⟩; have HFIN := Lib.hid (hn7.then hn8); have hk8 := HBLK.out w8 _ _ _ (hn7.then hn8))
      | (go_at_call 50; refine (HD1.out).mono ?_; rintro e w7 ⟨rfl, hn7⟩; have HR2 := Lib.hid (HRR.out w7 (n + 1) _ hn7.duo (by omega)); have hk7 := HBLK.out w7 _ _ _ hn7)
      | (go_at_call 51; refine (HR1.out).mono ?_; rintro e w7 ⟨rfl, hn7⟩; have HD2 := Lib.hid (HDD.out w7 (n + 1) _ hn7.duo (HBWD.out.trans hn7.below) (by omega)); have hk7 := HBLK.out w7 _ _ _ hn7))
    all_goals
      have HOUT := Lib.hid (HAHEAD.out _ _ _ _ HFIN.out)
      go_wp2
      go_returns
      exact ⟨rfl, HOUT.out⟩
  have q2 : (k == 2) = false := beq_eq_false_iff_ne.2 h2
  have hcore : s.asked k x = s.remove x.path := by rw [HQ.out, if_neg h0, if_neg h1, if_neg h2]
  rw [hcore]
  clear hcore h0 h1 h2
  obtain ⟨R, hR⟩ : ∃ R, R = s.remove x.path := ⟨_, rfl⟩
  rw [← hR]
  obtain ⟨r1, hr1⟩ : ∃ r, r = R.1 := ⟨_, rfl⟩
  have HDD : Hid (∀ (W : World) (m : Nat) (b : Disk.S), Duo W B Z1 sd rd m s b → Below B w W → m ≤ 549755813888 → Calls Tryz.prog 52 #[.pointer (some ⟨sd, 0, none⟩), .string (bs x.path)] W fun e w' => e = .returned (.int .i64 r1) ∧ DuoNow W w' B Z1 sd rd (m + 1) R.2 b) := Lib.hid (fun W m b hd hb hm => hd.actD (Nat.le_succ m) (fun O hO => by
    have := remove_any hO (HE.out W hb) (by omega) x.path hp
    rw [← hR] at this
    exact this.mono fun e w' h => ⟨by rw [hr1]; exact h.1, h.2⟩))
  have HRR : Hid (∀ (W : World) (m : Nat) (a : Disk.S), Duo W B Z1 sd rd m a s → m ≤ 549755813888 → Calls Tryz.prog 53 #[.pointer (some ⟨rd, 0, none⟩), .string (bs x.path)] W fun e w' => e = .returned (.int .i64 r1) ∧ DuoNow W w' B Z1 sd rd (m + 1) a R.2) := Lib.hid (fun W m a hd hm => hd.actR (Nat.le_succ m) (fun O hO => by
    have := rremove_any hO (by omega) x.path hp
    rw [← hR] at this
    exact this.mono fun e w' h => ⟨by rw [hr1]; exact h.1, h.2⟩))
  have HD1 := Lib.hid (HDD.out WD n s HDUO.out HBWD.out (by omega))
  have HR1 := Lib.hid (HRR.out WD n s HDUO.out (by omega))
  clear hr1 hR
  go_enter Tryz.func21, Tryz.ntmps21
  go_wp2_with fail
  rw [← hW0]
  refine (HPK.out _).mono ?_
  rintro e w1 ⟨rfl, rfl⟩
  clear hW0
  obtain ⟨W0, rfl⟩ : ∃ x, x = w1 := ⟨w1, rfl⟩
  go_wp2
  subst hWD
  go_region_held3 (fun w' => w'.cell? ⟨w.heap.size, 0, none⟩ = some (.int .i64 x.kind) ∧ w'.cell? ⟨w.heap.size, 1, none⟩ = some (.string (bs x.path)) ∧ w'.cell? ⟨w.heap.size, 2, none⟩ = some (.string (bs x.to)) ∧ w'.cell? ⟨w.heap.size, 3, none⟩ = some (.string (bs x.data)) ∧ w'.cell? ⟨w.heap.size, 4, none⟩ = some (.int .i64 x.n)) (first | exact HSS.out _ HBK0.out | exact HSS.out _ hk7 | exact HSS.out _ hk8) (first
    | (go_at_call 52; refine (HD2.out).mono ?_; rintro e w8 ⟨rfl, hn8⟩; have HFIN := Lib.hid (hn7.then hn8); have hk8 := HBLK.out w8 _ _ _ (hn7.then hn8))
    | (go_at_call 53; refine (HR2.out).mono ?_; rintro e w8 ⟨rfl, hn8⟩; have HFIN := Lib.hid (hn7.then hn8); have hk8 := HBLK.out w8 _ _ _ (hn7.then hn8))
    | (go_at_call 52; refine (HD1.out).mono ?_; rintro e w7 ⟨rfl, hn7⟩; have HR2 := Lib.hid (HRR.out w7 (n + 1) _ hn7.duo (by omega)); have hk7 := HBLK.out w7 _ _ _ hn7)
    | (go_at_call 53; refine (HR1.out).mono ?_; rintro e w7 ⟨rfl, hn7⟩; have HD2 := Lib.hid (HDD.out w7 (n + 1) _ hn7.duo (HBWD.out.trans hn7.below) (by omega)); have hk7 := HBLK.out w7 _ _ _ hn7))
  all_goals
    have HOUT := Lib.hid (HAHEAD.out _ _ _ _ HFIN.out)
    go_wp2
    go_returns
    exact ⟨rfl, HOUT.out⟩
end Go.Proofs.YtnfklomokjhojaaGreatDoor
