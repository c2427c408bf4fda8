/- delta.Deeds: the walk. -/
import Derived.Test.YtnfklomokjhojaaDoorDeltaP
import Derived.Test.YtnfklomokjhojaaDoorEq
import Derived.Maps.AppendAt
namespace Go.Proofs.YtnfklomokjhojaaDoor
open Go.RowKit Go.Maps
set_option linter.unusedSimpArgs false
set_option linter.unusedVariables false
theorem new_cells (w : World) (cs : List Value) (t : TypeId) : ∀ (j : Nat) u, cs[j]? = some u → (w.alloc (.cells cs.toArray t)).cell? ((⟨w.heap.size, 0, none⟩ : Addr).add j) = some u := by
  intro j u hu
  have e : (⟨w.heap.size, 0, none⟩ : Addr).add j = ⟨w.heap.size, j, none⟩ := by
    unfold Addr.add
    split
    · next h => rw [h]
    · simp
  rw [e, World.cell?_alloc_new]
  simpa using hu
theorem new_cells2 (w : World) (n : Nat) (hn : w.heap.size = n) (cs : List Value) (t : TypeId) : ∀ (j : Nat) u, cs[j]? = some u → (w.alloc (.cells cs.toArray t)).cell? ((⟨n, 0, none⟩ : Addr).add j) = some u := by
  subst hn
  exact new_cells w cs t
/-- Two slices lie in different rows. -/
def Sep (v u : Value) : Prop := ∀ g, v.ownBlock = some g → u.ownBlock ≠ some g
theorem Sep.symm {v u : Value} (h : Sep v u) : Sep u v := fun g h1 h2 => h g h2 h1
theorem Sep.kept {w w' : World} {base : Nat} {v u : Value} {ds : List Disk.Dd} (h : DRow w base u ds) (hs : Sep v u) (hg : w.grownBy w' v.ownBlock) : DRow w' base u ds := by
  refine h.kept hg ?_
  cases ho : u.ownBlock with
  | none => exact Or.inl rfl
  | some g => exact Or.inr (fun e => hs g e.symm ho)
/-- Behind an append. -/
theorem Sep.next {w : World} {base : Nat} {v v' u : Value} {ds : List Disk.Dd} (h : DRow w base u ds) (hs : Sep v u) {m : Nat} (hm : w.heap.size ≤ m) (hl : v'.ownBlock = v.ownBlock ∨ v'.ownBlock = some m) : Sep v' u := fun g h1 h2 => by
  rcases hl with e | e
  · rw [e] at h1; exact hs g h1 h2
  · rw [e] at h1
    injection h1 with h1
    have := (h.lt h2).2
    omega
theorem DRow.not_map {P : Program} {k : TypeId} {α : Type} {E : El α} {w : World} {base b n : Nat} {v : Value} {ds : List Disk.Dd} {l : List (List UInt8 × α)} (h : DRow w base v ds) (hm : SMap P k E w b n l) : some b ≠ v.ownBlock := fun e => by
  rcases h.2 with ⟨rfl, _⟩ | ⟨g, cap, cur, rfl, _, h2, _⟩
  · cases e
  · obtain ⟨⟨es, clock, h1, _⟩, _⟩ := hm
    have e : b = g := by cases e; rfl
    subst e
    rw [h2] at h1
    cases h1
theorem DRow.not_iter {P : Program} {k : TypeId} {α : Type} {E : El α} {w : World} {base b r n cnt : Nat} {v : Value} {ds : List Disk.Dd} {l : List (List UInt8 × α)} {left : List UInt8 → Bool} (h : DRow w base v ds) (hm : SRange P k E w b r n l left cnt) : some r ≠ v.ownBlock := fun e => by
  rcases h.2 with ⟨rfl, _⟩ | ⟨g, cap, cur, rfl, _, h2, _⟩
  · cases e
  · obtain ⟨⟨L, ⟨es, clock, since, seen, c0, _, _, _, _, h1, _⟩, _⟩, _⟩ := hm
    have e : r = g := by cases e; rfl
    subst e
    rw [h2] at h1
    cases h1
theorem DRow.mono {w : World} {base base' : Nat} {v : Value} {ds : List Disk.Dd} (h : DRow w base v ds) (hb : base' ≤ base) : DRow w base' v ds := by
  refine ⟨h.1, ?_⟩
  rcases h.2 with h | ⟨g, cap, cur, h1, h2, h3⟩
  · exact .inl h
  · exact .inr ⟨g, cap, cur, h1, Nat.le_trans hb h2, h3⟩
theorem DRow.snoc {w : World} {base n : Nat} {v : Value} {ds : List Disk.Dd} {d : Disk.Dd} (h : w.ownsRow base 33 3 v (n + 1) (ds.flatMap ddCells ++ ddCells d)) (hn : ds.length = n) : DRow w base v (ds ++ [d]) := by
  show w.ownsRow base 33 3 v (ds ++ [d]).length ((ds ++ [d]).flatMap ddCells)
  rw [List.length_append, hn, List.flatMap_append]
  simpa using h
def zeroF : Disk.Fl := ⟨[], false, []⟩
theorem zF (w : World) : (zeroValue 31).run Tryd.prog w = .ok (elF.val zeroF) w := by kernel_rfl
/-- A loop under way: the map that it goes over, the other one, the two rows that it gathers. -/
structure At (w0 base ba r na bb nb : Nat) (a b : Disk.M) (left : List UInt8 → Bool) (cnt : Nat) (vu vr : Value) (U R : List Disk.Dd) (wr : World) : Prop where
  rng : SRange Tryd.prog 9 elF wr ba r na (a.map Disk.withPath) left cnt
  oth : FMap wr bb nb b
  ru : DRow wr base vu U
  rr : DRow wr base vr R
  sep : Sep vu vr
section
variable {base ba r na bb nb : Nat} {a b : Disk.M} {left left' : List UInt8 → Bool} {cnt cnt' : Nat} {vu vr v7 : Value} {U R : List Disk.Dd} {wr w7 : World} {w0 : Nat} {d : Disk.Dd}
theorem At.alloc (h : At w0 base ba r na bb nb a b left cnt vu vr U R wr) (o : Obj) : At w0 base ba r na bb nb a b left cnt vu vr U R (wr.alloc o) := ⟨h.rng.alloc o, h.oth.alloc o, World.ownsRow.alloc h.ru o, World.ownsRow.alloc h.rr o, h.sep⟩
/-- The step has come. -/
theorem At.step (h : At w0 base ba r na bb nb a b left cnt vu vr U R wr) (hg : wr.grownBy w7 (some r)) (hb0 : bb < r) (hrg : SRange Tryd.prog 9 elF w7 ba r na (a.map Disk.withPath) left' cnt') : At w0 base ba r na bb nb a b left' cnt' vu vr U R w7 :=
  ⟨hrg, h.oth.kept hg (fun e => by have := Option.some.inj e; omega), World.ownsRow.kept h.ru hg (by
      cases ho : vu.ownBlock with
      | none => exact Or.inl rfl
      | some g => exact Or.inr (fun e => h.ru.not_iter h.rng (by rw [ho]; exact e.symm))),
    World.ownsRow.kept h.rr hg (by
      cases ho : vr.ownBlock with
      | none => exact Or.inl rfl
      | some g => exact Or.inr (fun e => h.rr.not_iter h.rng (by rw [ho]; exact e.symm))), h.sep⟩
/-- One more in the first row. -/
theorem At.addU (h : At w0 base ba r na bb nb a b left cnt vu vr U R wr) (hg : wr.grownBy w7 vu.ownBlock) (hd : DRow w7 base v7 (U ++ [d])) (hl : v7.ownBlock = vu.ownBlock ∨ v7.ownBlock = some wr.heap.size) : At w0 base ba r na bb nb a b left cnt v7 vr (U ++ [d]) R w7 :=
  ⟨h.rng.kept hg (h.ru.not_map h.rng.owns) (h.ru.not_iter h.rng), h.oth.kept hg (h.ru.not_map h.oth), hd, Sep.kept h.rr h.sep hg, Sep.next h.rr h.sep (Nat.le_refl _) hl⟩
/-- One more in the second row. -/
theorem At.addR (h : At w0 base ba r na bb nb a b left cnt vu vr U R wr) (hg : wr.grownBy w7 vr.ownBlock) (hd : DRow w7 base v7 (R ++ [d])) (hl : v7.ownBlock = vr.ownBlock ∨ v7.ownBlock = some wr.heap.size) : At w0 base ba r na bb nb a b left cnt vu v7 U (R ++ [d]) w7 :=
  ⟨h.rng.kept hg (h.rr.not_map h.rng.owns) (h.rr.not_iter h.rng), h.oth.kept hg (h.rr.not_map h.oth), Sep.kept h.ru h.sep.symm hg, hd, (Sep.next h.ru h.sep.symm (Nat.le_refl _) hl).symm⟩
end
theorem perm_skip {left : List UInt8 → Bool} {c : List UInt8 × Disk.T → Nat} {k : Nat} {f : List UInt8 × Disk.T → Disk.Dd} {l : Disk.M} {p : List UInt8} {t : Disk.T} {U : List Disk.Dd} (hU : U.Perm (Disk.part left c k f l)) (hr : SM.Rises l) (hl : SM.look l p = some t) (hp : left p = true) (hc : c (p, t) ≠ k) : U.Perm (Disk.part (fun q => left q && !(q == p)) c k f l) := by
  have h := Disk.part_step (c := c) (k := k) (f := f) hr hl hp
  rw [if_neg (by simpa using hc), List.append_nil] at h
  exact hU.trans h.symm
theorem perm_add {left : List UInt8 → Bool} {c : List UInt8 × Disk.T → Nat} {k : Nat} {f : List UInt8 × Disk.T → Disk.Dd} {l : Disk.M} {p : List UInt8} {t : Disk.T} {U : List Disk.Dd} (hU : U.Perm (Disk.part left c k f l)) (hr : SM.Rises l) (hl : SM.look l p = some t) (hp : left p = true) (hc : c (p, t) = k) : (U ++ [f (p, t)]).Perm (Disk.part (fun q => left q && !(q == p)) c k f l) := by
  have h := Disk.part_step (c := c) (k := k) (f := f) hr hl hp
  rw [if_pos (by simpa using hc)] at h
  exact (hU.append_right _).trans h.symm
/-- What Deeds answers. -/
def DeltaPost (before after : List Disk.Fl) (w : World) (e : Ending) (w' : World) : Prop := ∃ v, e = .returned (.tuple #[v, .int .i64 (Disk.deedsRes before after).2]) ∧ DRow w' w.heap.size v (Disk.deedsRes before after).1 ∧ Below w.heap.size w w'
theorem DeltaPost.bad {before after : List Disk.Fl} {w w' : World} (h : Disk.deedsRes before after = ([], 1)) (hb : Below w.heap.size w w') : DeltaPost before after w (.returned (.tuple #[.slice none 0 0, .int .i64 1])) w' := by
  unfold DeltaPost
  rw [h]
  exact ⟨_, rfl, World.ownsRow_nil _ _ _ _, hb⟩
set_option maxHeartbeats 16000000 in
set_option maxRecDepth 100000 in
theorem delta_any {w : World} {B : Nat} {v1 v2 : Value} {before after : List Disk.Fl} (h1 : Files w B v1 before) (h2 : Files w B v2 after) (hB : B ≤ w.heap.size) (hE : Env w) (hn1 : before.length ≤ 1048576) (hsz1 : ∀ f ∈ before, f.path.length ≤ 1048576 ∧ f.data.length ≤ 1048576) (hn2 : after.length ≤ 1048576) (hsz2 : ∀ f ∈ after, f.path.length ≤ 1048576 ∧ f.data.length ≤ 1048576) :
    Calls Tryd.prog 8 #[v1, v2] w (DeltaPost before after w) := by
  obtain ⟨i0, hi, hz0, hz1, hz2⟩ := info_parts infoDd
  have HR1 := Lib.hid (read_any h1 hB hE (by omega) (fun f hf => by have := hsz1 f hf; omega))
  have HR2 := Lib.hid (fun (W : World) (hb : Below w.heap.size w W) => read_any (h2.below hb hB) (Nat.le_trans hB hb.size) (hE.below hb (Nat.le_refl _)) (by omega) (fun f hf => by have := hsz2 f hf; omega))
  obtain ⟨a1, c1, rfl⟩ := h1.form
  obtain ⟨a2, c2, rfl⟩ := h2.form
  have HRES : Hid (Disk.deedsRes before after = match Disk.read before, Disk.read after with
    | some a, some b => (Disk.delta a b, 0)
    | _, _ => ([], 1)) := Lib.hid rfl
  obtain ⟨N1, hN1⟩ : ∃ N, N = before.length := ⟨_, rfl⟩
  obtain ⟨N2, hN2⟩ : ∃ N, N = after.length := ⟨_, rfl⟩
  have HNN := Lib.hid (And.intro hN1 hN2)
  rw [← hN1] at HR1 hn1 ⊢
  rw [← hN2] at HR2 hn2 ⊢
  clear h1 h2 hsz1 hsz2 hN1 hN2
  cases hr1 : Disk.read before with
  | none =>
    have HF : Hid (Disk.deedsRes before after = ([], 1)) := Lib.hid (by rw [HRES.out, hr1])
    have HP1 : Hid (∀ e W, ReadPost before w e W → e = .returned (.tuple #[.map none, .bool false]) ∧ Below w.heap.size w W) := Lib.hid (fun e W h => by unfold ReadPost at h; rw [hr1] at h; exact h)
    have HP2 : Hid (∀ W e W', ReadPost after W e W' → ∃ m f, e = .returned (.tuple #[m, .bool f]) ∧ Below W.heap.size W W') := Lib.hid (fun W e W' h => by
      unfold ReadPost at h
      obtain ⟨h, hb⟩ := h
      cases hr2 : Disk.read after with
      | none => rw [hr2] at h; exact ⟨_, _, h, hb⟩
      | some l => rw [hr2] at h; obtain ⟨bm, n, h, _⟩ := h; exact ⟨_, _, h, hb⟩)
    clear hr1
    go_enter Tryd.func8, Tryd.ntmps8
    go_wp2_with fail
    refine HR1.out.mono ?_
    intro e w1 hp
    obtain ⟨rfl, hb1⟩ := HP1.out e w1 hp
    clear hp
    go_wp2_with fail
    refine (HR2.out _ hb1).mono ?_
    intro e w2 hp
    obtain ⟨m, f, rfl, hb2⟩ := HP2.out w1 e w2 hp
    clear hp
    go_wp2
    go_returns
    exact DeltaPost.bad HF.out (hb1.trans (hb2.mono hb1.size))
  | some a =>
    have HP1 : Hid (∀ e W, ReadPost before w e W → ∃ bm n, e = .returned (.tuple #[.map (some bm), .bool true]) ∧ (FMap W bm n a ∧ w.heap.size ≤ bm ∧ n ≤ before.length) ∧ Below w.heap.size w W) := Lib.hid (fun e W h => by
      unfold ReadPost at h; rw [hr1] at h
      obtain ⟨⟨bm, n, h1, h2, h3, h4⟩, h5⟩ := h
      exact ⟨bm, n, h1, ⟨h2, h3, h4⟩, h5⟩)
    cases hr2 : Disk.read after with
    | none =>
      have HF : Hid (Disk.deedsRes before after = ([], 1)) := Lib.hid (by rw [HRES.out, hr1, hr2])
      have HP2 : Hid (∀ W e W', ReadPost after W e W' → e = .returned (.tuple #[.map none, .bool false]) ∧ Below W.heap.size W W') := Lib.hid (fun W e W' h => by unfold ReadPost at h; rw [hr2] at h; exact h)
      clear hr1 hr2
      go_enter Tryd.func8, Tryd.ntmps8
      go_wp2_with fail
      refine HR1.out.mono ?_
      intro e w1 hp
      obtain ⟨ba, na, rfl, _, hb1⟩ := HP1.out e w1 hp
      clear hp
      go_wp2_with fail
      refine (HR2.out _ hb1).mono ?_
      intro e w2 hp
      obtain ⟨rfl, hb2⟩ := HP2.out w1 e w2 hp
      clear hp
      go_wp2
      go_returns
      exact DeltaPost.bad HF.out (hb1.trans (hb2.mono hb1.size))
    | some b =>
      have HF : Hid (Disk.deedsRes before after = (Disk.delta a b, 0)) := Lib.hid (by rw [HRES.out, hr1, hr2])
      have HP2 : Hid (∀ W e W', ReadPost after W e W' → ∃ bm n, e = .returned (.tuple #[.map (some bm), .bool true]) ∧ (FMap W' bm n b ∧ W.heap.size ≤ bm ∧ n ≤ after.length) ∧ Below W.heap.size W W') := Lib.hid (fun W e W' h => by
        unfold ReadPost at h; rw [hr2] at h
        obtain ⟨⟨bm, n, h1, h2, h3, h4⟩, h5⟩ := h
        exact ⟨bm, n, h1, ⟨h2, h3, h4⟩, h5⟩)
      have FACT : ∀ {fs : List Disk.Fl} {l : Disk.M}, fs.length ≤ 1048576 → Disk.read fs = some l → SM.Rises l ∧ l.length ≤ 1048576 := fun hn h => by
        unfold Disk.read at h
        split at h
        · exact absurd h (by simp)
        · rename_i m hm
          split at h
          · exact absurd h (by simp)
          · cases h
            refine ⟨Disk.load_rises hm, ?_⟩
            unfold Disk.load at hm
            split at hm
            · exact absurd hm (by simp)
            · rename_i l' hl'
              split at hm
              · cases hm
                have := Disk.fill_length hl'
                simp at this
                omega
              · exact absurd hm (by simp)
      have HA := Lib.hid (FACT (by have := HNN.out.1; omega) hr1)
      have HB := Lib.hid (FACT (by have := HNN.out.2; omega) hr2)
      clear hr1 hr2 FACT
      go_enter Tryd.func8, Tryd.ntmps8
      go_wp2_with fail
      refine HR1.out.mono ?_
      intro e w1 hp
      obtain ⟨ba, na, rfl, ⟨ma, hba, hna⟩, hb1⟩ := HP1.out e w1 hp
      clear hp
      go_wp2_with fail
      refine (HR2.out _ hb1).mono ?_
      intro e w2 hp
      obtain ⟨bb, nb, rfl, ⟨mb, hbb, hnb⟩, hb2⟩ := HP2.out w1 e w2 hp
      clear hp
      have hz1' := hb1.size
      have hz2' := hb2.size
      have hbal := ma.lt
      have hbbl := mb.lt
      have HMA := Lib.hid (ma.below hb2 hbal)
      have HMB := Lib.hid mb
      have HBEL := Lib.hid (hb1.trans (hb2.mono hz1'))
      have hA6 := HA.out.2
      have hB6 := HB.out.2
      clear ma mb
      go_wp2_with (first | (at_range; refine wpList_range elF rfl _ 58 rfl 31 Tryd.underlying9 Tryd.underlying58 rfl HMA.out ?_; intro w3 cnt0 hrg hg3 hs3))
      try go_frame
      obtain ⟨r1, hr1⟩ : ∃ r, r = w2.heap.size := ⟨_, rfl⟩
      rw [← hr1] at hrg hs3 ⊢
      have HR1' := Lib.hid hr1
      have hr1w : w.heap.size ≤ r1 := by omega
      have hbbr : bb < r1 := by omega
      have HB3 := Lib.hid (HBEL.out.grown hg3 (by omega) (fun j hj => by cases hj))
      have HMB3 := Lib.hid (HMB.out.kept hg3 (by simp))
      clear hr1 hg3
      go_loopw [10, 11] (fun p q wr => ∃ left cnt vu vr U R, p = vu ∧ q = vr ∧ At 0 r1 ba r1 na bb nb a b left cnt vu vr U R wr ∧ U.Perm (Disk.part left (Disk.cls b) 1 Disk.unl a) ∧ R.Perm (Disk.part left (Disk.cls b) 2 Disk.rmd a) ∧ Below w.heap.size w wr ∧ r1 ≤ wr.heap.size) (fun _ _ wr => wr.rangeLeft ba r1)
      case atStart =>
        have HLK : (fun p => (SM.look (a.map Disk.withPath) p).isSome) = fun p => (SM.look a p).isSome := by
          funext p
          rw [Disk.look_withPath]
          cases SM.look a p <;> rfl
        rw [HLK] at hrg
        refine ⟨_, _, _, _, [], [], rfl, rfl, ⟨hrg, HMB3.out, World.ownsRow_nil _ _ _ _, World.ownsRow_nil _ _ _ _, fun g h => by cases h⟩, ?_, ?_, HB3.out, by omega⟩
        · rw [Disk.part_start _ _ _ HA.out.1]
        · rw [Disk.part_start _ _ _ HA.out.1]
      case round =>
        obtain ⟨left, cnt, vu, vr, U, R, rfl, rfl, hat, hpu, hpr, hbl, hsz⟩ := hrel
        obtain ⟨wo, rfl⟩ : ∃ x, x = wr := ⟨wr, rfl⟩
        have HAT := Lib.hid hat
        have HPU := Lib.hid hpu
        have HPR := Lib.hid hpr
        have HBL := Lib.hid hbl
        have hlu : U.length ≤ 1048576 := by rw [hpu.length_eq]; exact Nat.le_trans (Disk.part_length _ _ _ _ _) hA6
        have hlr : R.length ≤ 1048576 := by rw [hpr.length_eq]; exact Nat.le_trans (Disk.part_length _ _ _ _ _) hA6
        obtain ⟨au, cu, rfl⟩ := own_form hat.ru
        obtain ⟨ar, cr, rfl⟩ := own_form hat.rr
        clear hat hpu hpr hbl
        go_wp2_with (first | (at_next; refine wpList_next elF rfl _ rfl Tryd.underlying9 (fun c => .agg #[.string (bs c.path), .bool c.dir, .string (bs c.data)]) (fun c => rfl) rfl HAT.out.rng ?_ ?_))
        · intro hno
          have HU : Hid (U.Perm (Disk.pick (Disk.cls b) 1 Disk.unl a)) := Lib.hid (by have := HPU.out; rwa [Disk.part_end hno] at this)
          have HR : Hid (R.Perm (Disk.pick (Disk.cls b) 2 Disk.rmd a)) := Lib.hid (by have := HPR.out; rwa [Disk.part_end hno] at this)
          have HMA4 := Lib.hid HAT.out.rng.owns
          have HMB4 := Lib.hid HAT.out.oth
          have hbawo := HAT.out.rng.owns.lt
          clear hno HPU HPR
          go_wp2_with (first | (at_range; refine wpList_range elF rfl _ 58 rfl 31 Tryd.underlying9 Tryd.underlying58 rfl HMB4.out ?_; intro w5 cnt5 hrg5 hg5 hs5))
          try go_frame
          obtain ⟨r2, hr2⟩ : ∃ r, r = wo.heap.size := ⟨_, rfl⟩
          rw [← hr2] at hrg5 hs5 hbawo ⊢
          have hr2w : w.heap.size ≤ r2 := by omega
          have hbar : ba < r2 := hbawo
          have HB5 : Hid (Below r2 wo w5) := Lib.hid ((Below.refl r2 wo).grown hg5 (by omega) (fun j hj => by cases hj))
          have HMA5 := Lib.hid (HMA4.out.kept hg5 (by simp))
          have HROWS : Hid (∀ W, Below r2 wo W → DRow W r1 (.slice au U.length cu) U ∧ DRow W r1 (.slice ar R.length cr) R) := Lib.hid (fun W hW => ⟨DRow.below HAT.out.ru hW (fun g hg => by have := (DRow.lt HAT.out.ru hg).2; omega), DRow.below HAT.out.rr hW (fun g hg => by have := (DRow.lt HAT.out.rr hg).2; omega)⟩)
          have HSEP1 := Lib.hid HAT.out.sep
          have HLOW : Hid ((∀ g, (Value.slice au U.length cu).ownBlock = some g → g < r2) ∧ (∀ g, (Value.slice ar R.length cr).ownBlock = some g → g < r2)) := Lib.hid ⟨fun g hg => by have := (DRow.lt HAT.out.ru hg).2; omega, fun g hg => by have := (DRow.lt HAT.out.rr hg).2; omega⟩
          have HWO : Hid (∀ W, Below r2 wo W → Below w.heap.size w W) := Lib.hid (fun W hW => HBL.out.trans (hW.mono hr2w))
          clear hr2 hg5 HAT HBL HMA4 HMB4
          go_loopw [12, 13] (fun p q wr => ∃ left cnt vu vr U R, p = vu ∧ q = vr ∧ At 0 r2 bb r2 nb ba na b a left cnt vu vr U R wr ∧ U.Perm (Disk.part left (Disk.cls2 a) 3 Disk.mkd b) ∧ R.Perm (Disk.part left (Disk.cls2 a) 4 Disk.putd b) ∧ Below r2 wo wr ∧ r2 ≤ wr.heap.size) (fun _ _ wr => wr.rangeLeft bb r2)
          case atStart =>
            have HLK : (fun p => (SM.look (b.map Disk.withPath) p).isSome) = fun p => (SM.look b p).isSome := by
              funext p
              rw [Disk.look_withPath]
              cases SM.look b p <;> rfl
            rw [HLK] at hrg5
            refine ⟨_, _, _, _, [], [], rfl, rfl, ⟨hrg5, HMA5.out, World.ownsRow_nil _ _ _ _, World.ownsRow_nil _ _ _ _, fun g h => by cases h⟩, ?_, ?_, HB5.out, by omega⟩
            · rw [Disk.part_start _ _ _ HB.out.1]
            · rw [Disk.part_start _ _ _ HB.out.1]
          case round =>
            obtain ⟨U1, hU1⟩ : ∃ x, x = U := ⟨_, rfl⟩
            obtain ⟨R1, hR1⟩ : ∃ x, x = R := ⟨_, rfl⟩
            rw [← hU1] at HU hlu HROWS HSEP1 HLOW ⊢
            rw [← hR1] at HR hlr HROWS HSEP1 HLOW ⊢
            clear hU1 hR1 hrg5 HB5 HMA5
            obtain ⟨left, cnt, vu, vr, U, R, rfl, rfl, hat, hpu, hpr, hbl, hsz⟩ := hrel
            obtain ⟨wq, rfl⟩ : ∃ x, x = wr := ⟨wr, rfl⟩
            have HAT := Lib.hid hat
            have HPU := Lib.hid hpu
            have HPR := Lib.hid hpr
            have HBL := Lib.hid hbl
            have hlu1 := hlu
            have hlr1 := hlr
            have hlu : U.length ≤ 1048576 := by rw [hpu.length_eq]; exact Nat.le_trans (Disk.part_length _ _ _ _ _) hB6
            have hlr : R.length ≤ 1048576 := by rw [hpr.length_eq]; exact Nat.le_trans (Disk.part_length _ _ _ _ _) hB6
            obtain ⟨am, cm, rfl⟩ := own_form hat.ru
            obtain ⟨ap, cp0, rfl⟩ := own_form hat.rr
            clear hat hpu hpr hbl
            go_wp2_with (first | (at_next; refine wpList_next elF rfl _ rfl Tryd.underlying9 (fun c => .agg #[.string (bs c.path), .bool c.dir, .string (bs c.data)]) (fun c => rfl) rfl HAT.out.rng ?_ ?_))
            · intro hno
              have HM : Hid (U.Perm (Disk.pick (Disk.cls2 a) 3 Disk.mkd b)) := Lib.hid (by have := HPU.out; rwa [Disk.part_end hno] at this)
              have HP : Hid (R.Perm (Disk.pick (Disk.cls2 a) 4 Disk.putd b)) := Lib.hid (by have := HPR.out; rwa [Disk.part_end hno] at this)
              have HROW1 := Lib.hid (HROWS.out _ HBL.out)
              have HROWM := Lib.hid HAT.out.ru
              have HROWP := Lib.hid HAT.out.rr
              have HSEP2 := Lib.hid HAT.out.sep
              have hlow : ∀ (v u : Value) (l : List Disk.Dd), (∀ g, v.ownBlock = some g → g < r2) → DRow wq r2 u l → Sep v u := fun v u l h1 h2 g hg hu => by
                have := h1 g hg
                have := (DRow.lt h2 hu).1
                omega
              have SUM := Lib.hid (hlow _ _ _ HLOW.out.1 HROWM.out)
              have SUP := Lib.hid (hlow _ _ _ HLOW.out.1 HROWP.out)
              have SRM := Lib.hid (hlow _ _ _ HLOW.out.2 HROWM.out)
              have SRP := Lib.hid (hlow _ _ _ HLOW.out.2 HROWP.out)
              have HWZ := Lib.hid (HWO.out _ HBL.out)
              clear hno hlow HPU HPR HAT HROWS HLOW HWO HBL
              obtain ⟨S1, hS1⟩ : ∃ x, x = Disk.pick (Disk.cls b) 1 Disk.unl a := ⟨_, rfl⟩
              obtain ⟨S2, hS2⟩ : ∃ x, x = Disk.pick (Disk.cls b) 2 Disk.rmd a := ⟨_, rfl⟩
              obtain ⟨S3, hS3⟩ : ∃ x, x = Disk.pick (Disk.cls2 a) 3 Disk.mkd b := ⟨_, rfl⟩
              obtain ⟨S4, hS4⟩ : ∃ x, x = Disk.pick (Disk.cls2 a) 4 Disk.putd b := ⟨_, rfl⟩
              have R1' : Hid (Rise S1) := Lib.hid (by rw [hS1]; exact Disk.pick_rise (fun _ => rfl) HA.out.1)
              have R2' : Hid (Rise S2) := Lib.hid (by rw [hS2]; exact Disk.pick_rise (fun _ => rfl) HA.out.1)
              have R3' : Hid (Rise S3) := Lib.hid (by rw [hS3]; exact Disk.pick_rise (fun _ => rfl) HB.out.1)
              have R4' : Hid (Rise S4) := Lib.hid (by rw [hS4]; exact Disk.pick_rise (fun _ => rfl) HB.out.1)
              rw [← hS1] at HU
              rw [← hS2] at HR
              rw [← hS3] at HM
              rw [← hS4] at HP
              have HRS : Hid (Disk.deedsRes before after = (([S1.reverse, S2.reverse, S3, S4].flatMap id : List Disk.Dd), (0 : Int))) := Lib.hid (by
                rw [HF.out]
                unfold Disk.delta
                rw [← hS1, ← hS2, ← hS3, ← hS4]
                simp)
              have hlen : ([S1.reverse, S2.reverse, S3, S4].flatMap id).length ≤ 1099511627776 := by
                have l1 := HU.out.length_eq
                have l2 := HR.out.length_eq
                have l3 := HM.out.length_eq
                have l4 := HP.out.length_eq
                simp
                omega
              have HLEN := Lib.hid hlen
              clear hS1 hS2 hS3 hS4 hlen
              have F1 := Lib.hid (falling_any HROW1.out.1 HU.out R1'.out (by omega))
              go_wp2_with fail
              refine F1.out.mono ?_
              rintro e w8 ⟨rfl, hd8, hg8⟩
              have D8 := Lib.hid (And.intro (Sep.kept HROW1.out.2 HSEP1.out hg8) (And.intro (Sep.kept HROWM.out SUM.out hg8) (Sep.kept HROWP.out SUP.out hg8)))
              have E8 := Lib.hid hd8
              have B8 := Lib.hid (HWZ.out.grown hg8 HWZ.out.size (fun g hg => by have := (DRow.lt HROW1.out.1 hg).1; omega))
              clear hd8 hg8
              have F2 := Lib.hid (falling_any D8.out.1 HR.out R2'.out (by omega))
              go_wp2_with fail
              refine F2.out.mono ?_
              rintro e w9 ⟨rfl, hd9, hg9⟩
              have D9 := Lib.hid (And.intro (Sep.kept E8.out HSEP1.out.symm hg9) (And.intro (Sep.kept D8.out.2.1 SRM.out hg9) (Sep.kept D8.out.2.2 SRP.out hg9)))
              have E9 := Lib.hid hd9
              have B9 := Lib.hid (B8.out.grown hg9 B8.out.size (fun g hg => by have := (DRow.lt D8.out.1 hg).1; omega))
              clear hd9 hg9
              have F3 := Lib.hid (rising_any D9.out.2.1 HM.out R3'.out (by omega))
              go_wp2_with fail
              refine F3.out.mono ?_
              rintro e w10 ⟨rfl, hd10, hg10⟩
              have D10 := Lib.hid (And.intro (Sep.kept D9.out.1 SUM.out.symm hg10) (And.intro (Sep.kept E9.out SRM.out.symm hg10) (Sep.kept D9.out.2.2 HSEP2.out hg10)))
              have E10 := Lib.hid hd10
              have B10 := Lib.hid (B9.out.grown hg10 B9.out.size (fun g hg => by have := (DRow.lt D9.out.2.1 hg).1; omega))
              clear hd10 hg10
              have F4 := Lib.hid (rising_any D10.out.2.2 HP.out R4'.out (by omega))
              go_wp2_with fail
              refine F4.out.mono ?_
              rintro e w11 ⟨rfl, hd11, hg11⟩
              have D11 := Lib.hid (And.intro (Sep.kept D10.out.1 SUP.out.symm hg11) (And.intro (Sep.kept D10.out.2.1 SRP.out.symm hg11) (Sep.kept E10.out HSEP2.out.symm hg11)))
              have E11 := Lib.hid hd11
              have B11 := Lib.hid (B10.out.grown hg11 B10.out.size (fun g hg => by have := (DRow.lt D10.out.2.2 hg).1; omega))
              clear hd11 hg11
              have HFOUR : Hid (Four (w11.alloc (.cells #[.slice au U1.length cu, .slice ar R1.length cr, .slice am U.length cm, .slice ap R.length cp0] 23)) 0 w11.heap.size [.slice au U1.length cu, .slice ar R1.length cr, .slice am U.length cm, .slice ap R.length cp0] [S1.reverse, S2.reverse, S3, S4]) := Lib.hid ⟨rfl, fun i v hv => by
                rw [World.cell?_alloc_new]
                simpa using hv, fun i v l hv hl => by
                have hi4 : i < 4 := by have := (List.getElem?_eq_some_iff.1 hv).1; simpa using this
                match i, hi4, hv, hl with
                | 0, _, hv, hl => simp at hv hl; subst hv; subst hl; exact DRow.mono (World.ownsRow.alloc D11.out.1 _) (Nat.zero_le _)
                | 1, _, hv, hl => simp at hv hl; subst hv; subst hl; exact DRow.mono (World.ownsRow.alloc D11.out.2.1 _) (Nat.zero_le _)
                | 2, _, hv, hl => simp at hv hl; subst hv; subst hl; exact DRow.mono (World.ownsRow.alloc D11.out.2.2 _) (Nat.zero_le _)
                | 3, _, hv, hl => simp at hv hl; subst hv; subst hl; exact DRow.mono (World.ownsRow.alloc E11.out _) (Nat.zero_le _), by simp⟩
              obtain ⟨L, hL⟩ : ∃ L, L = ([S1.reverse, S2.reverse, S3, S4].flatMap id : List Disk.Dd) := ⟨_, rfl⟩
              have hcc := concat_any HFOUR.out (by simp) HLEN.out
              rw [← hL] at hcc HRS
              have HCC := Lib.hid hcc
              clear hcc hL
              have hb11 := B11.out.size
              go_wp2_with fail
              refine HCC.out.mono ?_
              rintro e w13 ⟨v13, rfl, hd13, hb13⟩
              obtain ⟨a13, c13, rfl⟩ := own_form hd13
              have HFIN : Hid (DeltaPost before after w (.returned (.tuple #[.slice a13 L.length c13, .int .i64 0])) w13) := Lib.hid (by
                unfold DeltaPost
                rw [HRS.out]
                exact ⟨_, rfl, DRow.mono hd13 (by simp; omega), (B11.out.alloc hb11 _).trans (hb13.mono (by simp; omega))⟩)
              clear hd13
              go_wp2
              go_returns
              exact HFIN.out
            · intro s c w4 cnt1 hls hlk hss hrg4 hlt hg4 hs4 hen
              have hlk2 := hlk
              rw [Disk.look_withPath] at hlk2
              obtain ⟨cp, cd, ct⟩ := c
              obtain ⟨ht, hcp⟩ : SM.look b s.data.toList = some ⟨cd, ct⟩ ∧ cp = s.data.toList := by
                cases h : SM.look b s.data.toList with
                | none => rw [h] at hlk2; simp at hlk2
                | some t =>
                  rw [h] at hlk2
                  simp at hlk2
                  obtain ⟨e1, e2, e3⟩ := hlk2
                  subst e2
                  subst e3
                  exact ⟨rfl, e1.symm⟩
              have HCP := Lib.hid hcp
              have PU := Lib.hid (And.intro (perm_skip (c := Disk.cls2 a) (k := 3) (f := Disk.mkd) HPU.out HB.out.1 ht hls) (perm_add (c := Disk.cls2 a) (k := 3) (f := Disk.mkd) HPU.out HB.out.1 ht hls))
              have PR := Lib.hid (And.intro (perm_skip (c := Disk.cls2 a) (k := 4) (f := Disk.putd) HPR.out HB.out.1 ht hls) (perm_add (c := Disk.cls2 a) (k := 4) (f := Disk.putd) HPR.out HB.out.1 ht hls))
              have H4 := Lib.hid (HAT.out.step hg4 hbar hrg4)
              have HB4 := Lib.hid (HBL.out.grown hg4 hsz (fun j hj => by cases hj; exact Nat.le_refl _))
              have hsz4 := HB4.out.size
              have hlw := Disk.look_withPath a s.data.toList
              dsimp only at hen ⊢
              have hr4 : r2 ≤ w4.heap.size := by omega
              clear hlk hlk2 hls hrg4 hcp ht hg4 hs4
              cases hy : SM.look a s.data.toList with
              | none =>
                rw [hy] at hlw
                have HV : Hid (elF.val ((SM.look (a.map Disk.withPath) s.data.toList).getD zeroF) = .agg #[.string ⟨#[]⟩, .bool false, .string ⟨#[]⟩] ∧ (SM.look (a.map Disk.withPath) s.data.toList).isSome = false) := Lib.hid (by rw [hlw]; exact ⟨rfl, rfl⟩)
                have HCLS : Hid (Disk.cls2 a (s.data.toList, ⟨cd, ct⟩) = if cd then 3 else 4) := Lib.hid (by unfold Disk.cls2; rw [hy])
                clear hy hlw
                cases cd
                · have H5 := Lib.hid (H4.out.alloc (.cells #[.string (bs cp), .bool false, .string (bs ct)] 31))
                  have H6 := Lib.hid (H5.out.alloc (.cells #[.string ⟨#[]⟩, .bool false, .string ⟨#[]⟩] 31))
                  have HB6 := Lib.hid ((HB4.out.alloc hr4 (.cells #[.string (bs cp), .bool false, .string (bs ct)] 31)).alloc (by simp; omega) (.cells #[.string ⟨#[]⟩, .bool false, .string ⟨#[]⟩] 31))
                  go_wp2_with (first | (at_lookup; refine wpList_look_ok elF rfl _ _ 58 rfl 31 Tryd.underlying9 Tryd.underlying58 zeroF (zF _) rfl H5.out.oth s hss rfl _ HV.out.1 _ HV.out.2 ?_) | (at_builtin; refine wpList_append_own_at _ rfl _ _ 23 rfl r2 33 i0 (.agg #[.int .i64 0, .string ByteArray.empty, .string ByteArray.empty]) 3 40 Tryd.underlying23 hi hz0 hz1 hz2 rfl (by decide) _ _ _ rfl (World.ownsRow.alloc H6.out.rr _) ⟨w4.heap.size + 2, 0, none⟩ 1 1 [.int .i64 4, .string s, .string (bs ct)] rfl rfl (new_cells2 _ _ (by simp) _ _) (fun x hx => by simp at hx; rcases hx with rfl | rfl | rfl <;> rfl) (by unfold maxLen; omega) (by omega) (by simp; omega) ?_; intro v7 w7 hown7 hgrow7 _ hloc7))
                  obtain ⟨a7, c7, rfl⟩ := own_form hown7
                  have HZ := Lib.hid (H6.out.alloc (.cells [.int .i64 4, .string s, .string (bs ct)].toArray 33))
                  have H7 := Lib.hid (HZ.out.addR (d := Disk.putd (s.data.toList, ⟨false, ct⟩)) hgrow7 (DRow.snoc hown7 rfl) hloc7)
                  have hsz7 := hgrow7.size
                  have HB7 := Lib.hid ((HB6.out.alloc (by simp; omega) (.cells [.int .i64 4, .string s, .string (bs ct)].toArray 33)).grown hgrow7 (by simp; omega) (fun g hg => Nat.le_trans (Nat.le_refl _) (World.ownsRow.lt H6.out.rr g hg).1))
                  go_roundw
                  case rel => exact ⟨_, cnt1, _, _, U, R ++ [Disk.putd (s.data.toList, ⟨false, ct⟩)], rfl, rfl, H7.out, PU.out.1 (by rw [HCLS.out]; first | rfl | decide), PR.out.2 (by rw [HCLS.out]; first | rfl | decide), HB7.out, by simp at hsz7; omega⟩
                  case measure => rw [H7.out.rng.left_eq, HAT.out.rng.left_eq]; exact hlt
                · have H5 := Lib.hid (H4.out.alloc (.cells #[.string (bs cp), .bool true, .string (bs ct)] 31))
                  have H6 := Lib.hid (H5.out.alloc (.cells #[.string ⟨#[]⟩, .bool false, .string ⟨#[]⟩] 31))
                  have HB6 := Lib.hid ((HB4.out.alloc hr4 (.cells #[.string (bs cp), .bool true, .string (bs ct)] 31)).alloc (by simp; omega) (.cells #[.string ⟨#[]⟩, .bool false, .string ⟨#[]⟩] 31))
                  go_wp2_with (first | (at_lookup; refine wpList_look_ok elF rfl _ _ 58 rfl 31 Tryd.underlying9 Tryd.underlying58 zeroF (zF _) rfl H5.out.oth s hss rfl _ HV.out.1 _ HV.out.2 ?_) | (at_builtin; refine wpList_append_own_at _ rfl _ _ 23 rfl r2 33 i0 (.agg #[.int .i64 0, .string ByteArray.empty, .string ByteArray.empty]) 3 40 Tryd.underlying23 hi hz0 hz1 hz2 rfl (by decide) _ _ _ rfl (World.ownsRow.alloc H6.out.ru _) ⟨w4.heap.size + 2, 0, none⟩ 1 1 [.int .i64 3, .string s, .string ByteArray.empty] rfl rfl (new_cells2 _ _ (by simp) _ _) (fun x hx => by simp at hx; rcases hx with rfl | rfl | rfl <;> rfl) (by unfold maxLen; omega) (by omega) (by simp; omega) ?_; intro v7 w7 hown7 hgrow7 _ hloc7))
                  obtain ⟨a7, c7, rfl⟩ := own_form hown7
                  have HZ := Lib.hid (H6.out.alloc (.cells [.int .i64 3, .string s, .string ByteArray.empty].toArray 33))
                  have H7 := Lib.hid (HZ.out.addU (d := Disk.mkd (s.data.toList, ⟨true, ct⟩)) hgrow7 (DRow.snoc hown7 rfl) hloc7)
                  have hsz7 := hgrow7.size
                  have HB7 := Lib.hid ((HB6.out.alloc (by simp; omega) (.cells [.int .i64 3, .string s, .string ByteArray.empty].toArray 33)).grown hgrow7 (by simp; omega) (fun g hg => Nat.le_trans (Nat.le_refl _) (World.ownsRow.lt H6.out.ru g hg).1))
                  go_roundw
                  case rel => exact ⟨_, cnt1, _, _, U ++ [Disk.mkd (s.data.toList, ⟨true, ct⟩)], R, rfl, rfl, H7.out, PU.out.2 (by rw [HCLS.out]; first | rfl | decide), PR.out.1 (by rw [HCLS.out]; first | rfl | decide), HB7.out, by simp at hsz7; omega⟩
                  case measure => rw [H7.out.rng.left_eq, HAT.out.rng.left_eq]; exact hlt
              | some y =>
                obtain ⟨yd, yt⟩ := y
                rw [hy] at hlw
                have HV : Hid (elF.val ((SM.look (a.map Disk.withPath) s.data.toList).getD zeroF) = .agg #[.string (bs s.data.toList), .bool yd, .string (bs yt)] ∧ (SM.look (a.map Disk.withPath) s.data.toList).isSome = true) := Lib.hid (by rw [hlw]; exact ⟨rfl, rfl⟩)
                have HCLS0 : Hid (Disk.cls2 a (s.data.toList, ⟨cd, ct⟩) = if (⟨yd, yt⟩ : Disk.T) = ⟨cd, ct⟩ then 0 else if cd then 3 else 4) := Lib.hid (by unfold Disk.cls2; rw [hy])
                clear hy hlw
                have hfe := fun w => fileEql w ⟨s.data.toList, yd, yt⟩ ⟨cp, cd, ct⟩
                have hsf : sameF ⟨s.data.toList, yd, yt⟩ ⟨cp, cd, ct⟩ = decide ((⟨yd, yt⟩ : Disk.T) = ⟨cd, ct⟩) := by
                  unfold sameF
                  rw [HCP.out]
                  by_cases h1 : yd = cd <;> by_cases h2 : yt = ct <;> simp [h1, h2]
                by_cases heq : (⟨yd, yt⟩ : Disk.T) = ⟨cd, ct⟩
                · have HCLS : Hid (Disk.cls2 a (s.data.toList, ⟨cd, ct⟩) = 0) := Lib.hid (by rw [HCLS0.out, if_pos heq])
                  rw [decide_eq_true heq] at hsf
                  rw [hsf] at hfe
                  clear heq hsf
                  have H5 := Lib.hid (H4.out.alloc (.cells #[.string (bs cp), .bool cd, .string (bs ct)] 31))
                  have H6 := Lib.hid (H5.out.alloc (.cells #[.string (bs s.data.toList), .bool yd, .string (bs yt)] 31))
                  have HB6 := Lib.hid ((HB4.out.alloc hr4 (.cells #[.string (bs cp), .bool cd, .string (bs ct)] 31)).alloc (by simp; omega) (.cells #[.string (bs s.data.toList), .bool yd, .string (bs yt)] 31))
                  go_wp2_with (first | (at_lookup; refine wpList_look_ok elF rfl _ _ 58 rfl 31 Tryd.underlying9 Tryd.underlying58 zeroF (zF _) rfl H5.out.oth s hss rfl _ HV.out.1 _ HV.out.2 ?_))
                  go_roundw
                  case rel => exact ⟨_, cnt1, _, _, U, R, rfl, rfl, H6.out, PU.out.1 (by rw [HCLS.out]; decide), PR.out.1 (by rw [HCLS.out]; decide), HB6.out, by simp; omega⟩
                  case measure => rw [H6.out.rng.left_eq, HAT.out.rng.left_eq]; exact hlt
                · have HCLS : Hid (Disk.cls2 a (s.data.toList, ⟨cd, ct⟩) = if cd then 3 else 4) := Lib.hid (by rw [HCLS0.out, if_neg heq])
                  rw [decide_eq_false heq] at hsf
                  rw [hsf] at hfe
                  clear heq hsf HCLS0
                  cases cd
                  · have H5 := Lib.hid (H4.out.alloc (.cells #[.string (bs cp), .bool false, .string (bs ct)] 31))
                    have H6 := Lib.hid (H5.out.alloc (.cells #[.string (bs s.data.toList), .bool yd, .string (bs yt)] 31))
                    have HB6 := Lib.hid ((HB4.out.alloc hr4 (.cells #[.string (bs cp), .bool false, .string (bs ct)] 31)).alloc (by simp; omega) (.cells #[.string (bs s.data.toList), .bool yd, .string (bs yt)] 31))
                    go_wp2_with (first | (at_lookup; refine wpList_look_ok elF rfl _ _ 58 rfl 31 Tryd.underlying9 Tryd.underlying58 zeroF (zF _) rfl H5.out.oth s hss rfl _ HV.out.1 _ HV.out.2 ?_) | (at_builtin; refine wpList_append_own_at _ rfl _ _ 23 rfl r2 33 i0 (.agg #[.int .i64 0, .string ByteArray.empty, .string ByteArray.empty]) 3 40 Tryd.underlying23 hi hz0 hz1 hz2 rfl (by decide) _ _ _ rfl (World.ownsRow.alloc H6.out.rr _) ⟨w4.heap.size + 2, 0, none⟩ 1 1 [.int .i64 4, .string s, .string (bs ct)] rfl rfl (new_cells2 _ _ (by simp) _ _) (fun x hx => by simp at hx; rcases hx with rfl | rfl | rfl <;> rfl) (by unfold maxLen; omega) (by omega) (by simp; omega) ?_; intro v7 w7 hown7 hgrow7 _ hloc7))
                    obtain ⟨a7, c7, rfl⟩ := own_form hown7
                    have HZ := Lib.hid (H6.out.alloc (.cells [.int .i64 4, .string s, .string (bs ct)].toArray 33))
                    have H7 := Lib.hid (HZ.out.addR (d := Disk.putd (s.data.toList, ⟨false, ct⟩)) hgrow7 (DRow.snoc hown7 rfl) hloc7)
                    have hsz7 := hgrow7.size
                    have HB7 := Lib.hid ((HB6.out.alloc (by simp; omega) (.cells [.int .i64 4, .string s, .string (bs ct)].toArray 33)).grown hgrow7 (by simp; omega) (fun g hg => Nat.le_trans (Nat.le_refl _) (World.ownsRow.lt H6.out.rr g hg).1))
                    go_roundw
                    case rel => exact ⟨_, cnt1, _, _, U, R ++ [Disk.putd (s.data.toList, ⟨false, ct⟩)], rfl, rfl, H7.out, PU.out.1 (by rw [HCLS.out]; first | rfl | decide), PR.out.2 (by rw [HCLS.out]; first | rfl | decide), HB7.out, by simp at hsz7; omega⟩
                    case measure => rw [H7.out.rng.left_eq, HAT.out.rng.left_eq]; exact hlt
                  · have H5 := Lib.hid (H4.out.alloc (.cells #[.string (bs cp), .bool true, .string (bs ct)] 31))
                    have H6 := Lib.hid (H5.out.alloc (.cells #[.string (bs s.data.toList), .bool yd, .string (bs yt)] 31))
                    have HB6 := Lib.hid ((HB4.out.alloc hr4 (.cells #[.string (bs cp), .bool true, .string (bs ct)] 31)).alloc (by simp; omega) (.cells #[.string (bs s.data.toList), .bool yd, .string (bs yt)] 31))
                    go_wp2_with (first | (at_lookup; refine wpList_look_ok elF rfl _ _ 58 rfl 31 Tryd.underlying9 Tryd.underlying58 zeroF (zF _) rfl H5.out.oth s hss rfl _ HV.out.1 _ HV.out.2 ?_) | (at_builtin; refine wpList_append_own_at _ rfl _ _ 23 rfl r2 33 i0 (.agg #[.int .i64 0, .string ByteArray.empty, .string ByteArray.empty]) 3 40 Tryd.underlying23 hi hz0 hz1 hz2 rfl (by decide) _ _ _ rfl (World.ownsRow.alloc H6.out.ru _) ⟨w4.heap.size + 2, 0, none⟩ 1 1 [.int .i64 3, .string s, .string ByteArray.empty] rfl rfl (new_cells2 _ _ (by simp) _ _) (fun x hx => by simp at hx; rcases hx with rfl | rfl | rfl <;> rfl) (by unfold maxLen; omega) (by omega) (by simp; omega) ?_; intro v7 w7 hown7 hgrow7 _ hloc7))
                    obtain ⟨a7, c7, rfl⟩ := own_form hown7
                    have HZ := Lib.hid (H6.out.alloc (.cells [.int .i64 3, .string s, .string ByteArray.empty].toArray 33))
                    have H7 := Lib.hid (HZ.out.addU (d := Disk.mkd (s.data.toList, ⟨true, ct⟩)) hgrow7 (DRow.snoc hown7 rfl) hloc7)
                    have hsz7 := hgrow7.size
                    have HB7 := Lib.hid ((HB6.out.alloc (by simp; omega) (.cells [.int .i64 3, .string s, .string ByteArray.empty].toArray 33)).grown hgrow7 (by simp; omega) (fun g hg => Nat.le_trans (Nat.le_refl _) (World.ownsRow.lt H6.out.ru g hg).1))
                    go_roundw
                    case rel => exact ⟨_, cnt1, _, _, U ++ [Disk.mkd (s.data.toList, ⟨true, ct⟩)], R, rfl, rfl, H7.out, PU.out.2 (by rw [HCLS.out]; first | rfl | decide), PR.out.1 (by rw [HCLS.out]; first | rfl | decide), HB7.out, by simp at hsz7; omega⟩
                    case measure => rw [H7.out.rng.left_eq, HAT.out.rng.left_eq]; exact hlt
        · intro s c w4 cnt1 hls hlk hss hrg4 hlt hg4 hs4 hen
          have hlk2 := hlk
          rw [Disk.look_withPath] at hlk2
          obtain ⟨cp, cd, ct⟩ := c
          obtain ⟨ht, hcp⟩ : SM.look a s.data.toList = some ⟨cd, ct⟩ ∧ cp = s.data.toList := by
            cases h : SM.look a s.data.toList with
            | none => rw [h] at hlk2; simp at hlk2
            | some t =>
              rw [h] at hlk2
              simp at hlk2
              obtain ⟨e1, e2, e3⟩ := hlk2
              subst e2
              subst e3
              exact ⟨rfl, e1.symm⟩
          have HCP := Lib.hid hcp
          have PU := Lib.hid (And.intro (perm_skip (c := Disk.cls b) (k := 1) (f := Disk.unl) HPU.out HA.out.1 ht hls) (perm_add (c := Disk.cls b) (k := 1) (f := Disk.unl) HPU.out HA.out.1 ht hls))
          have PR := Lib.hid (And.intro (perm_skip (c := Disk.cls b) (k := 2) (f := Disk.rmd) HPR.out HA.out.1 ht hls) (perm_add (c := Disk.cls b) (k := 2) (f := Disk.rmd) HPR.out HA.out.1 ht hls))
          have H4 := Lib.hid (HAT.out.step hg4 hbbr hrg4)
          have HB4 := Lib.hid (HBL.out.grown hg4 HBL.out.size (fun j hj => by cases hj; exact hr1w))
          have hsz4 := HB4.out.size
          have hlw := Disk.look_withPath b s.data.toList
          dsimp only at hen ⊢
          have hr4 : r1 ≤ w4.heap.size := by omega
          clear hlk hlk2 hls hrg4 hcp ht hg4 hs4
          cases hy : SM.look b s.data.toList with
          | none =>
            rw [hy] at hlw
            have HV : Hid (elF.val ((SM.look (b.map Disk.withPath) s.data.toList).getD zeroF) = .agg #[.string ⟨#[]⟩, .bool false, .string ⟨#[]⟩] ∧ (SM.look (b.map Disk.withPath) s.data.toList).isSome = false) := Lib.hid (by rw [hlw]; exact ⟨rfl, rfl⟩)
            have HCLS : Hid (Disk.cls b (s.data.toList, ⟨cd, ct⟩) = if cd then 2 else 1) := Lib.hid (by unfold Disk.cls; rw [hy])
            clear hy hlw
            cases cd
            · have H5 := Lib.hid (H4.out.alloc (.cells #[.string (bs cp), .bool false, .string (bs ct)] 31))
              have H6 := Lib.hid (H5.out.alloc (.cells #[.string ⟨#[]⟩, .bool false, .string ⟨#[]⟩] 31))
              have HB6 := Lib.hid ((HB4.out.alloc HB4.out.size (.cells #[.string (bs cp), .bool false, .string (bs ct)] 31)).alloc (by simp; omega) (.cells #[.string ⟨#[]⟩, .bool false, .string ⟨#[]⟩] 31))
              go_wp2_with (first | (at_lookup; refine wpList_look_ok elF rfl _ _ 58 rfl 31 Tryd.underlying9 Tryd.underlying58 zeroF (zF _) rfl H5.out.oth s hss rfl _ HV.out.1 _ HV.out.2 ?_) | (at_builtin; refine wpList_append_own_at _ rfl _ _ 23 rfl r1 33 i0 (.agg #[.int .i64 0, .string ByteArray.empty, .string ByteArray.empty]) 3 40 Tryd.underlying23 hi hz0 hz1 hz2 rfl (by decide) _ _ _ rfl (World.ownsRow.alloc H6.out.ru _) ⟨w4.heap.size + 2, 0, none⟩ 1 1 [.int .i64 1, .string s, .string ByteArray.empty] rfl rfl (new_cells2 _ _ (by simp) _ _) (fun x hx => by simp at hx; rcases hx with rfl | rfl | rfl <;> rfl) (by unfold maxLen; omega) (by omega) (by simp; omega) ?_; intro v7 w7 hown7 hgrow7 _ hloc7))
              obtain ⟨a7, c7, rfl⟩ := own_form hown7
              have HZ := Lib.hid (H6.out.alloc (.cells [.int .i64 1, .string s, .string ByteArray.empty].toArray 33))
              have H7 := Lib.hid (HZ.out.addU (d := Disk.unl (s.data.toList, ⟨false, ct⟩)) hgrow7 (DRow.snoc hown7 rfl) hloc7)
              have hsz7 := hgrow7.size
              have HB7 := Lib.hid ((HB6.out.alloc (by simp; omega) (.cells [.int .i64 1, .string s, .string ByteArray.empty].toArray 33)).grown hgrow7 (by simp; omega) (fun g hg => Nat.le_trans hr1w (World.ownsRow.lt H6.out.ru g hg).1))
              go_roundw
              case rel => exact ⟨_, cnt1, _, _, U ++ [Disk.unl (s.data.toList, ⟨false, ct⟩)], R, rfl, rfl, H7.out, PU.out.2 (by rw [HCLS.out]; first | rfl | decide), PR.out.1 (by rw [HCLS.out]; first | rfl | decide), HB7.out, by simp at hsz7; omega⟩
              case measure => rw [H7.out.rng.left_eq, HAT.out.rng.left_eq]; exact hlt
            · have H5 := Lib.hid (H4.out.alloc (.cells #[.string (bs cp), .bool true, .string (bs ct)] 31))
              have H6 := Lib.hid (H5.out.alloc (.cells #[.string ⟨#[]⟩, .bool false, .string ⟨#[]⟩] 31))
              have HB6 := Lib.hid ((HB4.out.alloc HB4.out.size (.cells #[.string (bs cp), .bool true, .string (bs ct)] 31)).alloc (by simp; omega) (.cells #[.string ⟨#[]⟩, .bool false, .string ⟨#[]⟩] 31))
              go_wp2_with (first | (at_lookup; refine wpList_look_ok elF rfl _ _ 58 rfl 31 Tryd.underlying9 Tryd.underlying58 zeroF (zF _) rfl H5.out.oth s hss rfl _ HV.out.1 _ HV.out.2 ?_) | (at_builtin; refine wpList_append_own_at _ rfl _ _ 23 rfl r1 33 i0 (.agg #[.int .i64 0, .string ByteArray.empty, .string ByteArray.empty]) 3 40 Tryd.underlying23 hi hz0 hz1 hz2 rfl (by decide) _ _ _ rfl (World.ownsRow.alloc H6.out.rr _) ⟨w4.heap.size + 2, 0, none⟩ 1 1 [.int .i64 2, .string s, .string ByteArray.empty] rfl rfl (new_cells2 _ _ (by simp) _ _) (fun x hx => by simp at hx; rcases hx with rfl | rfl | rfl <;> rfl) (by unfold maxLen; omega) (by omega) (by simp; omega) ?_; intro v7 w7 hown7 hgrow7 _ hloc7))
              obtain ⟨a7, c7, rfl⟩ := own_form hown7
              have HZ := Lib.hid (H6.out.alloc (.cells [.int .i64 2, .string s, .string ByteArray.empty].toArray 33))
              have H7 := Lib.hid (HZ.out.addR (d := Disk.rmd (s.data.toList, ⟨true, ct⟩)) hgrow7 (DRow.snoc hown7 rfl) hloc7)
              have hsz7 := hgrow7.size
              have HB7 := Lib.hid ((HB6.out.alloc (by simp; omega) (.cells [.int .i64 2, .string s, .string ByteArray.empty].toArray 33)).grown hgrow7 (by simp; omega) (fun g hg => Nat.le_trans hr1w (World.ownsRow.lt H6.out.rr g hg).1))
              go_roundw
              case rel => exact ⟨_, cnt1, _, _, U, R ++ [Disk.rmd (s.data.toList, ⟨true, ct⟩)], rfl, rfl, H7.out, PU.out.1 (by rw [HCLS.out]; first | rfl | decide), PR.out.2 (by rw [HCLS.out]; first | rfl | decide), HB7.out, by simp at hsz7; omega⟩
              case measure => rw [H7.out.rng.left_eq, HAT.out.rng.left_eq]; exact hlt
          | some y =>
            obtain ⟨yd, yt⟩ := y
            rw [hy] at hlw
            have HV : Hid (elF.val ((SM.look (b.map Disk.withPath) s.data.toList).getD zeroF) = .agg #[.string (bs s.data.toList), .bool yd, .string (bs yt)] ∧ (SM.look (b.map Disk.withPath) s.data.toList).isSome = true) := Lib.hid (by rw [hlw]; exact ⟨rfl, rfl⟩)
            have HCLS : Hid (Disk.cls b (s.data.toList, ⟨cd, ct⟩) = if cd = yd then 0 else if cd then 2 else 1) := Lib.hid (by unfold Disk.cls; rw [hy])
            clear hy hlw
            cases cd <;> cases yd
            · have H5 := Lib.hid (H4.out.alloc (.cells #[.string (bs cp), .bool false, .string (bs ct)] 31))
              have H6 := Lib.hid (H5.out.alloc (.cells #[.string (bs s.data.toList), .bool false, .string (bs yt)] 31))
              have HB6 := Lib.hid ((HB4.out.alloc HB4.out.size (.cells #[.string (bs cp), .bool false, .string (bs ct)] 31)).alloc (by simp; omega) (.cells #[.string (bs s.data.toList), .bool false, .string (bs yt)] 31))
              go_wp2_with (first | (at_lookup; refine wpList_look_ok elF rfl _ _ 58 rfl 31 Tryd.underlying9 Tryd.underlying58 zeroF (zF _) rfl H5.out.oth s hss rfl _ HV.out.1 _ HV.out.2 ?_))
              go_roundw
              case rel => exact ⟨_, cnt1, _, _, U, R, rfl, rfl, H6.out, PU.out.1 (by rw [HCLS.out]; decide), PR.out.1 (by rw [HCLS.out]; decide), HB6.out, by simp; omega⟩
              case measure => rw [H6.out.rng.left_eq, HAT.out.rng.left_eq]; exact hlt
            · have H5 := Lib.hid (H4.out.alloc (.cells #[.string (bs cp), .bool false, .string (bs ct)] 31))
              have H6 := Lib.hid (H5.out.alloc (.cells #[.string (bs s.data.toList), .bool true, .string (bs yt)] 31))
              have HB6 := Lib.hid ((HB4.out.alloc HB4.out.size (.cells #[.string (bs cp), .bool false, .string (bs ct)] 31)).alloc (by simp; omega) (.cells #[.string (bs s.data.toList), .bool true, .string (bs yt)] 31))
              go_wp2_with (first | (at_lookup; refine wpList_look_ok elF rfl _ _ 58 rfl 31 Tryd.underlying9 Tryd.underlying58 zeroF (zF _) rfl H5.out.oth s hss rfl _ HV.out.1 _ HV.out.2 ?_) | (at_builtin; refine wpList_append_own_at _ rfl _ _ 23 rfl r1 33 i0 (.agg #[.int .i64 0, .string ByteArray.empty, .string ByteArray.empty]) 3 40 Tryd.underlying23 hi hz0 hz1 hz2 rfl (by decide) _ _ _ rfl (World.ownsRow.alloc H6.out.ru _) ⟨w4.heap.size + 2, 0, none⟩ 1 1 [.int .i64 1, .string s, .string ByteArray.empty] rfl rfl (new_cells2 _ _ (by simp) _ _) (fun x hx => by simp at hx; rcases hx with rfl | rfl | rfl <;> rfl) (by unfold maxLen; omega) (by omega) (by simp; omega) ?_; intro v7 w7 hown7 hgrow7 _ hloc7))
              obtain ⟨a7, c7, rfl⟩ := own_form hown7
              have HZ := Lib.hid (H6.out.alloc (.cells [.int .i64 1, .string s, .string ByteArray.empty].toArray 33))
              have H7 := Lib.hid (HZ.out.addU (d := Disk.unl (s.data.toList, ⟨false, ct⟩)) hgrow7 (DRow.snoc hown7 rfl) hloc7)
              have hsz7 := hgrow7.size
              have HB7 := Lib.hid ((HB6.out.alloc (by simp; omega) (.cells [.int .i64 1, .string s, .string ByteArray.empty].toArray 33)).grown hgrow7 (by simp; omega) (fun g hg => Nat.le_trans hr1w (World.ownsRow.lt H6.out.ru g hg).1))
              go_roundw
              case rel => exact ⟨_, cnt1, _, _, U ++ [Disk.unl (s.data.toList, ⟨false, ct⟩)], R, rfl, rfl, H7.out, PU.out.2 (by rw [HCLS.out]; first | rfl | decide), PR.out.1 (by rw [HCLS.out]; first | rfl | decide), HB7.out, by simp at hsz7; omega⟩
              case measure => rw [H7.out.rng.left_eq, HAT.out.rng.left_eq]; exact hlt
            · have H5 := Lib.hid (H4.out.alloc (.cells #[.string (bs cp), .bool true, .string (bs ct)] 31))
              have H6 := Lib.hid (H5.out.alloc (.cells #[.string (bs s.data.toList), .bool false, .string (bs yt)] 31))
              have HB6 := Lib.hid ((HB4.out.alloc HB4.out.size (.cells #[.string (bs cp), .bool true, .string (bs ct)] 31)).alloc (by simp; omega) (.cells #[.string (bs s.data.toList), .bool false, .string (bs yt)] 31))
              go_wp2_with (first | (at_lookup; refine wpList_look_ok elF rfl _ _ 58 rfl 31 Tryd.underlying9 Tryd.underlying58 zeroF (zF _) rfl H5.out.oth s hss rfl _ HV.out.1 _ HV.out.2 ?_) | (at_builtin; refine wpList_append_own_at _ rfl _ _ 23 rfl r1 33 i0 (.agg #[.int .i64 0, .string ByteArray.empty, .string ByteArray.empty]) 3 40 Tryd.underlying23 hi hz0 hz1 hz2 rfl (by decide) _ _ _ rfl (World.ownsRow.alloc H6.out.rr _) ⟨w4.heap.size + 2, 0, none⟩ 1 1 [.int .i64 2, .string s, .string ByteArray.empty] rfl rfl (new_cells2 _ _ (by simp) _ _) (fun x hx => by simp at hx; rcases hx with rfl | rfl | rfl <;> rfl) (by unfold maxLen; omega) (by omega) (by simp; omega) ?_; intro v7 w7 hown7 hgrow7 _ hloc7))
              obtain ⟨a7, c7, rfl⟩ := own_form hown7
              have HZ := Lib.hid (H6.out.alloc (.cells [.int .i64 2, .string s, .string ByteArray.empty].toArray 33))
              have H7 := Lib.hid (HZ.out.addR (d := Disk.rmd (s.data.toList, ⟨true, ct⟩)) hgrow7 (DRow.snoc hown7 rfl) hloc7)
              have hsz7 := hgrow7.size
              have HB7 := Lib.hid ((HB6.out.alloc (by simp; omega) (.cells [.int .i64 2, .string s, .string ByteArray.empty].toArray 33)).grown hgrow7 (by simp; omega) (fun g hg => Nat.le_trans hr1w (World.ownsRow.lt H6.out.rr g hg).1))
              go_roundw
              case rel => exact ⟨_, cnt1, _, _, U, R ++ [Disk.rmd (s.data.toList, ⟨true, ct⟩)], rfl, rfl, H7.out, PU.out.1 (by rw [HCLS.out]; first | rfl | decide), PR.out.2 (by rw [HCLS.out]; first | rfl | decide), HB7.out, by simp at hsz7; omega⟩
              case measure => rw [H7.out.rng.left_eq, HAT.out.rng.left_eq]; exact hlt
            · have H5 := Lib.hid (H4.out.alloc (.cells #[.string (bs cp), .bool true, .string (bs ct)] 31))
              have H6 := Lib.hid (H5.out.alloc (.cells #[.string (bs s.data.toList), .bool true, .string (bs yt)] 31))
              have HB6 := Lib.hid ((HB4.out.alloc HB4.out.size (.cells #[.string (bs cp), .bool true, .string (bs ct)] 31)).alloc (by simp; omega) (.cells #[.string (bs s.data.toList), .bool true, .string (bs yt)] 31))
              go_wp2_with (first | (at_lookup; refine wpList_look_ok elF rfl _ _ 58 rfl 31 Tryd.underlying9 Tryd.underlying58 zeroF (zF _) rfl H5.out.oth s hss rfl _ HV.out.1 _ HV.out.2 ?_))
              go_roundw
              case rel => exact ⟨_, cnt1, _, _, U, R, rfl, rfl, H6.out, PU.out.1 (by rw [HCLS.out]; decide), PR.out.1 (by rw [HCLS.out]; decide), HB6.out, by simp; omega⟩
              case measure => rw [H6.out.rng.left_eq, HAT.out.rng.left_eq]; exact hlt
end Go.Proofs.YtnfklomokjhojaaDoor
