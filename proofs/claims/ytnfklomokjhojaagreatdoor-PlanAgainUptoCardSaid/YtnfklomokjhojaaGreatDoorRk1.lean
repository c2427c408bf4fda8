/- The document's disk, with its raw writes: what stays; may, home, noted: the walks. -/
import Derived.Test.YtnfklomokjhojaaGreatDoorDiskA1
import Derived.Test.YtnfklomokjhojaaGreatDoorRefLoad
namespace Go.Proofs.YtnfklomokjhojaaGreatDoor
open Go.RowKit Go.Maps
set_option linter.unusedSimpArgs false
set_option linter.unusedVariables false
theorem not_row {v : Value} {row : Option Nat} (h : ∀ g, v.ownBlock = some g → some g ≠ row) : v.ownBlock = none ∨ v.ownBlock ≠ row := by
  cases hv : v.ownBlock with
  | none => exact Or.inl rfl
  | some g => exact Or.inr (fun e => h g hv e)
/-- The document's disk among the blocks O. -/
structure RskAt (w : World) (B : Nat) (O : Nat → Prop) (rd : Nat) (lv rv : Value) (s : Disk.S) : Prop where
  r : RefIn w B rd s.l lv rv s.left
  row : RwRow w B rv s.raws
  ns : rv.ownBlock ≠ some rd
  nl : ∀ g, rv.ownBlock = some g → lv.ownBlock ≠ some g
  os : O rd
  ol : ∀ g, lv.ownBlock = some g → O g
  og : ∀ g, rv.ownBlock = some g → O g
  lim : ∀ k, O k → B ≤ k ∧ k < w.heap.size
def RskFit (n : Nat) (s : Disk.S) : Prop := s.l.length ≤ n ∧ s.raws.length ≤ n ∧ s.left ≤ 9223372036854775807 ∧ ∀ x ∈ s.l, Disk.pathOk x.1 = true
def Rsk (w : World) (B : Nat) (O : Nat → Prop) (rd n : Nat) (s : Disk.S) : Prop := ∃ lv rv, RskFit n s ∧ RskAt w B O rd lv rv s
theorem RskAt.keeps {w w' : World} {B : Nat} {O O1 : Nat → Prop} {rd : Nat} {lv rv : Value} {s : Disk.S} (h : RskAt w B O rd lv rv s) (hk : Keeps O1 w w') (hO : ∀ k, O k → ¬ O1 k) : RskAt w' B O rd lv rv s := by
  have hs := hk.block rd h.r.rdl (hO _ h.os)
  exact ⟨⟨(World.cell?_of_block hs).trans h.r.c0, (World.cell?_of_block hs).trans h.r.c1, (World.cell?_of_block hs).trans h.r.c2, fun j => (World.frozen?_of_block hs).trans (h.r.fr j), own_keeps h.r.row hk (fun g hg => hO _ (h.ol g hg)), h.r.ne, h.r.rises, h.r.rdb⟩,
    own_keeps h.row hk (fun g hg => hO _ (h.og g hg)), h.ns, h.nl, h.os, h.ol, h.og, fun k hk2 => ⟨(h.lim k hk2).1, Nat.lt_of_lt_of_le (h.lim k hk2).2 hk.size⟩⟩
theorem Rsk.keeps {w w' : World} {B : Nat} {O O1 : Nat → Prop} {rd n : Nat} {s : Disk.S} (h : Rsk w B O rd n s) (hk : Keeps O1 w w') (hO : ∀ k, O k → ¬ O1 k) : Rsk w' B O rd n s := by
  obtain ⟨lv, rv, hm, h⟩ := h
  exact ⟨lv, rv, hm, h.keeps hk hO⟩
theorem RskAt.below {w w' : World} {B : Nat} {O : Nat → Prop} {rd : Nat} {lv rv : Value} {s : Disk.S} (h : RskAt w B O rd lv rv s) (hb : Below w.heap.size w w') : RskAt w' B O rd lv rv s := h.keeps (O1 := fun _ => False) (Keeps.of_below hb) (fun _ _ h => h)
theorem Rsk.below {w w' : World} {B : Nat} {O : Nat → Prop} {rd n : Nat} {s : Disk.S} (h : Rsk w B O rd n s) (hb : Below w.heap.size w w') : Rsk w' B O rd n s := h.keeps (O1 := fun _ => False) (Keeps.of_below hb) (fun _ _ h => h)
theorem Rsk.more {w : World} {B : Nat} {O : Nat → Prop} {rd n n' : Nat} {s : Disk.S} (h : Rsk w B O rd n s) (hn : n ≤ n') : Rsk w B O rd n' s := by
  obtain ⟨lv, rv, hm, h⟩ := h
  exact ⟨lv, rv, ⟨Nat.le_trans hm.1 hn, Nat.le_trans hm.2.1 hn, hm.2.2⟩, h⟩
theorem Rsk.lim {w : World} {B : Nat} {O : Nat → Prop} {rd n : Nat} {s : Disk.S} (h : Rsk w B O rd n s) : ∀ k, O k → B ≤ k ∧ k < w.heap.size := by
  obtain ⟨lv, rv, hm, h⟩ := h
  exact h.lim
theorem Rsk.base {w : World} {B : Nat} {O : Nat → Prop} {rd n : Nat} {s : Disk.S} (h : Rsk w B O rd n s) : B ≤ w.heap.size := by
  obtain ⟨lv, rv, _, h⟩ := h
  have := h.lim rd h.os
  omega
structure RskNow (w w' : World) (B : Nat) (O : Nat → Prop) (rd n : Nat) (s : Disk.S) : Prop where
  now : ∃ O', Rsk w' B O' rd n s ∧ ∀ k, O' k → O k ∨ w.heap.size ≤ k
  keeps : Keeps O w w'
theorem RskNow.of_below {w w' : World} {B : Nat} {O : Nat → Prop} {rd n : Nat} {s : Disk.S} (h : Rsk w B O rd n s) (hb : Below w.heap.size w w') : RskNow w w' B O rd n s := ⟨⟨O, h.below hb, fun k h => Or.inl h⟩, Keeps.of_below hb⟩
theorem RskNow.more {w w' : World} {B : Nat} {O : Nat → Prop} {rd n n' : Nat} {s : Disk.S} (h : RskNow w w' B O rd n s) (hn : n ≤ n') : RskNow w w' B O rd n' s := by
  obtain ⟨⟨O', h1, h2⟩, h3⟩ := h
  exact ⟨⟨O', h1.more hn, h2⟩, h3⟩
theorem RskNow.ahead {w w1 w' : World} {B : Nat} {O : Nat → Prop} {rd n : Nat} {s : Disk.S} (hk : Keeps O w w1) (h : RskNow w1 w' B O rd n s) : RskNow w w' B O rd n s := by
  obtain ⟨⟨O', h1, h2⟩, h3⟩ := h
  exact ⟨⟨O', h1, fun k h => (h2 k h).imp id (Nat.le_trans hk.size)⟩, hk.trans h3 (fun k h => Or.inl h)⟩
def RAskPost (w : World) (B : Nat) (O : Nat → Prop) (rd n : Nat) (r : Int × Disk.S) (e : Ending) (w' : World) : Prop := e = .returned (.int .i64 r.1) ∧ RskNow w w' B O rd (n + 1) r.2
theorem RAskPost.ahead {w w1 w' : World} {B : Nat} {O : Nat → Prop} {rd n : Nat} {r : Int × Disk.S} {e : Ending} (hb : Below w.heap.size w w1) (h : RAskPost w1 B O rd n r e w') : RAskPost w B O rd n r e w' := ⟨h.1, RskNow.ahead (Keeps.of_below hb) h.2⟩
/-- The list has been written. -/
theorem RskAt.put {w w' : World} {B : Nat} {O : Nat → Prop} {rd : Nat} {lv lv' rv : Value} {s : Disk.S} {l' : Disk.M} (h : RskAt w B O rd lv rv s) (hg : w.grownBy w' (some rd)) (hr : RefIn w' B rd l' lv' rv s.left) (hf : ∀ g, lv'.ownBlock = some g → w.heap.size ≤ g) :
    RskAt w' B (fun k => O k ∨ w.heap.size ≤ k ∧ k < w'.heap.size) rd lv' rv ⟨l', s.raws, s.left⟩ := by
  have hz := hg.size
  have hrd := h.lim rd h.os
  refine ⟨hr, h.row.kept hg (not_row (fun g e e2 => h.ns (by rw [e, e2]))), h.ns, fun g e e2 => ?_, Or.inl h.os, fun g e => Or.inr ⟨hf g e, (World.ownsRow.lt hr.row g e).2⟩, fun g e => Or.inl (h.og g e), fun k hk => ?_⟩
  · have := hf g e2
    have := (World.ownsRow.lt h.row g e).2
    omega
  · rcases hk with hk | hk
    · have := h.lim k hk; omega
    · omega
theorem RskAt.setLeft {w : World} {B : Nat} {O : Nat → Prop} {rd : Nat} {lv rv : Value} {s : Disk.S} (h : RskAt w B O rd lv rv s) (k : Int) : RskAt (w.setCell ⟨rd, 2, none⟩ (.int .i64 k)) B O rd lv rv ⟨s.l, s.raws, k⟩ ∧ w.grownBy (w.setCell ⟨rd, 2, none⟩ (.int .i64 k)) (some rd) := by
  have hg := setCell_grows w ⟨rd, 2, none⟩ (.int .i64 k)
  refine ⟨⟨⟨?_, ?_, World.cell?_setCell_same' _ _ _ (by rw [h.r.c2]; rfl), fun j => by rw [World.frozen?_setCell]; exact h.r.fr j, h.r.row.kept hg (not_row (fun g e e2 => h.r.ne (by rw [e, e2]))), h.r.ne, h.r.rises, h.r.rdb⟩, h.row.kept hg (not_row (fun g e e2 => h.ns (by rw [e, e2]))), h.ns, h.nl, h.os, h.ol, h.og, fun k hk => ⟨(h.lim k hk).1, by simpa [World.setCell] using (h.lim k hk).2⟩⟩, hg⟩
  · rw [World.cell?_setCell_other _ _ _ _ (by simp)]; exact h.r.c0
  · rw [World.cell?_setCell_other _ _ _ _ (by simp)]; exact h.r.c1
theorem RskAt.setRaws {w wr : World} {B : Nat} {O : Nat → Prop} {rd : Nat} {lv rv v : Value} {s : Disk.S} {rs : List Disk.Rw} (h : RskAt w B O rd lv rv s) (hg : w.grownBy wr rv.ownBlock) (hv : RwRow wr B v rs) (hloc : ∀ g, v.ownBlock = some g → rv.ownBlock = some g ∨ w.heap.size ≤ g) :
    RskAt (wr.setCell ⟨rd, 1, none⟩ v) B (fun k => O k ∨ w.heap.size ≤ k ∧ k < wr.heap.size) rd lv v ⟨s.l, rs, s.left⟩ ∧ Keeps O w (wr.setCell ⟨rd, 1, none⟩ v) ∧ wr.cell? ⟨rd, 1, none⟩ = some rv ∧ wr.frozen? ⟨rd, 1, none⟩ = false := by
  have hrd := h.r.rdl
  have hs := hg.block rd hrd (fun e => h.ns e.symm)
  have hlr := h.r.row.kept hg (not_row (fun g e e2 => h.nl g e2.symm e))
  have g2 := setCell_grows wr ⟨rd, 1, none⟩ v
  have hvs : v.ownBlock ≠ some rd := fun e => by
    rcases hloc _ e with h1 | h1
    · exact h.ns h1
    · omega
  have hvl : ∀ g, v.ownBlock = some g → lv.ownBlock ≠ some g := fun g e e2 => by
    rcases hloc _ e with h1 | h1
    · exact h.nl g h1 e2
    · have := (World.ownsRow.lt h.r.row g e2).2; omega
  have e1 : wr.cell? ⟨rd, 1, none⟩ = some rv := (World.cell?_of_block hs).trans h.r.c1
  refine ⟨⟨⟨?_, World.cell?_setCell_same' _ _ _ (by rw [e1]; rfl), ?_, fun j => by rw [World.frozen?_setCell]; exact (World.frozen?_of_block hs).trans (h.r.fr j), hlr.kept g2 (not_row (fun g e e2 => h.r.ne (by rw [e, e2]))), h.r.ne, h.r.rises, h.r.rdb⟩, hv.kept g2 (not_row (fun g e e2 => hvs (by rw [e, e2]))), hvs, hvl, Or.inl h.os, fun g e => Or.inl (h.ol g e), fun g e => ?_, fun k hk => ?_⟩, ?_, e1, (World.frozen?_of_block hs).trans (h.r.fr 1)⟩
  · rw [World.cell?_setCell_other _ _ _ _ (by simp)]; exact (World.cell?_of_block hs).trans h.r.c0
  · rw [World.cell?_setCell_other _ _ _ _ (by simp)]; exact (World.cell?_of_block hs).trans h.r.c2
  · have h1 := (World.ownsRow.lt hv g e).2
    rcases hloc g e with h2 | h2
    · exact Or.inl (h.og g h2)
    · exact Or.inr ⟨h2, h1⟩
  · have hsz : (wr.setCell ⟨rd, 1, none⟩ v).heap.size = wr.heap.size := by simp [World.setCell]
    have hz := hg.size
    rw [hsz]
    rcases hk with hk | hk
    · have := h.lim k hk; omega
    · have := h.lim rd h.os; omega
  · exact (Keeps.of_grown hg (fun k e => h.og k e)).then_grown g2 (fun k e => Or.inl (by rw [← Option.some.inj e]; exact h.os))
/-- What noted leaves. -/
structure NotePost (w w' : World) (B : Nat) (O : Nat → Prop) (rd : Nat) (lv : Value) (s : Disk.S) : Prop where
  now : ∃ O' rv', RskAt w' B O' rd lv rv' s ∧ ∀ j, O' j → O j ∨ w.heap.size ≤ j
  keeps : Keeps O w w'
theorem NotePost.make {w wr : World} {B : Nat} {O : Nat → Prop} {rd : Nat} {lv rv v : Value} {s : Disk.S} {r : Disk.Rw} {o : Obj} (h : RskAt w B O rd lv rv s) (hg : (w.alloc o).grownBy wr rv.ownBlock)
    (hv : wr.ownsRow B 49 3 v (s.raws.length + 1) (s.raws.flatMap rwCells ++ rwCells r)) (hloc : v.ownBlock = rv.ownBlock ∨ v.ownBlock = some (w.alloc o).heap.size) :
    (∃ O', RskAt (wr.setCell ⟨rd, 1, none⟩ v) B O' rd lv v ⟨s.l, s.raws ++ [r], s.left⟩ ∧ ∀ j, O' j → O j ∨ w.heap.size ≤ j) ∧ Keeps O w (wr.setCell ⟨rd, 1, none⟩ v) ∧
    wr.cell? ⟨rd, 1, none⟩ = some rv ∧ wr.frozen? ⟨rd, 1, none⟩ = false ∧ (wr.setCell ⟨rd, 1, none⟩ v).cell? ⟨rd, 2, none⟩ = some (.int .i64 s.left) ∧ (wr.setCell ⟨rd, 1, none⟩ v).frozen? ⟨rd, 2, none⟩ = false := by
  have hb : Below w.heap.size w (w.alloc o) := (Below.refl _ w).alloc (Nat.le_refl _) o
  have h2 := h.below hb
  obtain ⟨h3, h4, h5, h6⟩ := h2.setRaws hg (RwRow.snoc hv rfl) (fun g e => by
    rcases hloc with e2 | e2
    · exact Or.inl (e2 ▸ e)
    · rw [e2] at e; injection e with e; exact Or.inr (by omega))
  have hz : w.heap.size ≤ (w.alloc o).heap.size := hb.size
  exact ⟨⟨_, h3, fun j hj => hj.imp id (fun hj => by omega)⟩, (Keeps.of_below hb).trans h4 (fun k hk => Or.inl hk), h5, h6, h3.r.c2, h3.r.fr 2⟩
set_option maxHeartbeats 2000000 in
set_option maxRecDepth 100000 in
theorem noted_any {w : World} {B : Nat} {O : Nat → Prop} {rd : Nat} {lv rv : Value} {s : Disk.S} (h : RskAt w B O rd lv rv s) (hr : s.raws.length ≤ 1099511627776) (hl : s.left ≤ 9223372036854775807) (k : Int) (p q : List UInt8) :
    Calls Tryz.prog 74 #[.pointer (some ⟨rd, 0, none⟩), .int .i64 k, .string (bs p), .string (bs q)] w fun e w' => e = .returned (.int .i64 0) ∧ NotePost w w' B O rd lv (s.did s.l ⟨k, p, q⟩) := by
  obtain ⟨i0, hi, hz0, hz1, hz2⟩ := info_parts infoRw
  have d1 := h.r.c1
  have hsdl := h.r.rdl
  have H := Lib.hid h
  have HROW : Hid (World.ownsRow w B 49 3 rv s.raws.length (s.raws.flatMap rwCells)) := Lib.hid h.row
  have hBs : B ≤ w.heap.size := by have := h.lim rd h.os; omega
  obtain ⟨a1, c1, rfl⟩ := own_form h.row
  have hd1 : w.cell? ⟨rd, 1, none⟩ = some (.slice a1 s.raws.length c1) := d1
  obtain ⟨N, hN⟩ : ∃ N, N = s.raws.length := ⟨_, rfl⟩
  rw [← hN] at hr hd1 HROW
  have HN := Lib.hid hN
  have hdid : Hid (s.did s.l ⟨k, p, q⟩ = ⟨s.l, s.raws ++ [⟨k, p, q⟩], Disk.off s.left⟩) := Lib.hid rfl
  obtain ⟨lf, hlf⟩ : ∃ x, x = s.left := ⟨_, rfl⟩
  have HLF := Lib.hid hlf
  rw [← hlf] at hl
  have HMK : Hid (∀ wr v, (w.alloc (.cells #[.int .i64 k, .string (bs p), .string (bs q)] 49)).grownBy wr (Value.slice a1 N c1).ownBlock → wr.ownsRow B 49 3 v (N + 1) (s.raws.flatMap rwCells ++ [.int .i64 k, .string (bs p), .string (bs q)]) →
      (v.ownBlock = (Value.slice a1 N c1).ownBlock ∨ v.ownBlock = some (w.alloc (.cells #[.int .i64 k, .string (bs p), .string (bs q)] 49)).heap.size) →
      (∃ O', RskAt (wr.setCell ⟨rd, 1, none⟩ v) B O' rd lv v ⟨s.l, s.raws ++ [⟨k, p, q⟩], lf⟩ ∧ ∀ j, O' j → O j ∨ w.heap.size ≤ j) ∧ Keeps O w (wr.setCell ⟨rd, 1, none⟩ v) ∧
      wr.cell? ⟨rd, 1, none⟩ = some (.slice a1 N c1) ∧ wr.frozen? ⟨rd, 1, none⟩ = false ∧ (wr.setCell ⟨rd, 1, none⟩ v).cell? ⟨rd, 2, none⟩ = some (.int .i64 lf) ∧ (wr.setCell ⟨rd, 1, none⟩ v).frozen? ⟨rd, 2, none⟩ = false) := Lib.hid (by
    rw [hN, hlf]
    exact fun wr v h1 h2 h3 => NotePost.make (r := ⟨k, p, q⟩) H.out h1 h2 h3)
  clear h d1 hN hlf
  by_cases h0 : 0 < lf
  · have hw : IntKind.i64.wrap (lf - 1) = lf - 1 := IntWalk.i64_in _ (by omega)
    have HOFF : Hid (Disk.off s.left = lf - 1) := Lib.hid (by rw [← HLF.out]; unfold Disk.off; rw [if_pos h0])
    go_enter Tryz.func74, Tryz.ntmps74
    go_wp2_with (first | (at_builtin; refine wpList_append_own_at _ rfl _ _ 31 rfl B 49 i0 (.agg #[.int .i64 0, .string ByteArray.empty, .string ByteArray.empty]) 3 40 Tryz.underlying31 hi hz0 hz1 hz2 rfl (by decide) _ _ _ rfl (World.ownsRow.alloc HROW.out _) ⟨w.heap.size, 0, none⟩ 1 1 [.int .i64 k, .string (bs p), .string (bs q)] rfl rfl (new_cells2 _ _ (by first | rfl | simp) _ _) (fun x hx => by simp at hx; rcases hx with rfl | rfl | rfl <;> rfl) (by unfold maxLen; omega) (by omega) (by simp; omega) ?_; intro v7 w7 hown7 hgrow7 _ hloc7; obtain ⟨hnow, hkeep, k1, k2, k3, k4⟩ := HMK.out w7 v7 hgrow7 hown7 hloc7; have HNOW := Lib.hid hnow; have HKEEP := Lib.hid hkeep; obtain ⟨a7, c7, rfl⟩ := own_form hown7; clear hnow hkeep hown7 hgrow7 hloc7))
    go_returns
    obtain ⟨O', h1, h2⟩ := HNOW.out
    have h3 := h1.setLeft (lf - 1)
    exact ⟨rfl, ⟨O', _, by rw [hdid.out, HOFF.out]; exact h3.1, h2⟩, HKEEP.out.then_grown h3.2 (fun j e => by
      have e := Option.some.inj e
      rw [← e]
      exact h2 _ h1.os)⟩
  · have HOFF : Hid (Disk.off s.left = lf) := Lib.hid (by rw [← HLF.out]; unfold Disk.off; rw [if_neg h0])
    go_enter Tryz.func74, Tryz.ntmps74
    go_wp2_with (first | (at_builtin; refine wpList_append_own_at _ rfl _ _ 31 rfl B 49 i0 (.agg #[.int .i64 0, .string ByteArray.empty, .string ByteArray.empty]) 3 40 Tryz.underlying31 hi hz0 hz1 hz2 rfl (by decide) _ _ _ rfl (World.ownsRow.alloc HROW.out _) ⟨w.heap.size, 0, none⟩ 1 1 [.int .i64 k, .string (bs p), .string (bs q)] rfl rfl (new_cells2 _ _ (by first | rfl | simp) _ _) (fun x hx => by simp at hx; rcases hx with rfl | rfl | rfl <;> rfl) (by unfold maxLen; omega) (by omega) (by simp; omega) ?_; intro v7 w7 hown7 hgrow7 _ hloc7; obtain ⟨hnow, hkeep, k1, k2, k3, k4⟩ := HMK.out w7 v7 hgrow7 hown7 hloc7; have HNOW := Lib.hid hnow; have HKEEP := Lib.hid hkeep; obtain ⟨a7, c7, rfl⟩ := own_form hown7; clear hnow hkeep hown7 hgrow7 hloc7))
    go_returns
    obtain ⟨O', h1, h2⟩ := HNOW.out
    exact ⟨rfl, ⟨O', _, by rw [hdid.out, HOFF.out]; exact h1, h2⟩, HKEEP.out⟩
set_option maxHeartbeats 1000000 in
set_option maxRecDepth 100000 in
theorem rmay_any {w : World} {rd : Nat} {s : Disk.S} (h : w.cell? ⟨rd, 2, none⟩ = some (.int .i64 s.left)) (p : List UInt8) (hp : p.length ≤ 4398046511104) :
    Calls Tryz.prog 72 #[.pointer (some ⟨rd, 0, none⟩), .string (bs p)] w fun e w' => e = .returned (.int .i64 (Disk.mayE s p)) ∧ w' = w := by
  have HB := Lib.hid (rpathD_any (bs p) (by show p.toArray.size ≤ _; simp; omega) w)
  rw [bs_list] at HB
  have HM : Hid (Disk.mayE s p = if s.left = 0 then 15 else if Disk.pathOk p then 0 else 10) := Lib.hid rfl
  obtain ⟨lf, hlf⟩ : ∃ k, k = s.left := ⟨_, rfl⟩
  rw [← hlf] at h HM
  clear hlf
  obtain ⟨ok, hok⟩ : ∃ k, k = Disk.pathOk p := ⟨_, rfl⟩
  rw [← hok] at HB HM
  clear hok
  by_cases h0 : lf = 0
  · have HR : Hid (Disk.mayE s p = 15) := Lib.hid (by rw [HM.out, if_pos h0])
    have q0 : (lf == 0) = true := beq_iff_eq.2 h0
    clear h0
    go_enter Tryz.func72, Tryz.ntmps72
    go_wp2_with fail
    refine HB.out.mono ?_
    rintro e w1 ⟨rfl, rfl⟩
    go_wp2
    go_returns
    exact ⟨by rw [HR.out] <;> rfl, rfl⟩
  · have q0 : (lf == 0) = false := beq_eq_false_iff_ne.2 h0
    cases ok
    · have HR : Hid (Disk.mayE s p = 10) := Lib.hid (by rw [HM.out, if_neg h0]; rfl)
      clear h0
      go_enter Tryz.func72, Tryz.ntmps72
      go_wp2_with fail
      refine HB.out.mono ?_
      rintro e w1 ⟨rfl, rfl⟩
      go_wp2
      go_returns
      exact ⟨by rw [HR.out] <;> rfl, rfl⟩
    · have HR : Hid (Disk.mayE s p = 0) := Lib.hid (by rw [HM.out, if_neg h0]; rfl)
      clear h0
      go_enter Tryz.func72, Tryz.ntmps72
      go_wp2_with fail
      refine HB.out.mono ?_
      rintro e w1 ⟨rfl, rfl⟩
      go_wp2
      go_returns
      exact ⟨by rw [HR.out] <;> rfl, rfl⟩
/-- The kind of what is at a path, of the document's disk. -/
theorem RskAt.kind {w : World} {B : Nat} {O : Nat → Prop} {rd : Nat} {lv rv : Value} {s : Disk.S} (h : RskAt w B O rd lv rv s) (hn : s.l.length ≤ 4398046511104) (p : List UInt8) :
    Calls Tryz.prog 37 #[.pointer (some ⟨rd, 0, none⟩), .string (bs p)] w fun e w' => e = .returned (.int .i64 (Disk.kind s.l p)) ∧ w' = w := by
  have := rkind_any h.r.c0 h.r.row.files h.r.rises hn (bs p)
  rwa [bs_list] at this
set_option maxHeartbeats 1000000 in
set_option maxRecDepth 100000 in
theorem RskAt.home {w : World} {B : Nat} {O : Nat → Prop} {rd : Nat} {lv rv : Value} {s : Disk.S} (h : RskAt w B O rd lv rv s) (hn : s.l.length ≤ 4398046511104) (p : List UInt8) (hp : p.length ≤ 4398046511104) :
    Calls Tryz.prog 73 #[.pointer (some ⟨rd, 0, none⟩), .string (bs p)] w fun e w' => e = .returned (.int .i64 (Disk.homeE s.l p)) ∧ w' = w := by
  have HP := Lib.hid (rparent_any (bs p) (by show p.toArray.size ≤ _; simp; omega) w)
  have HK := Lib.hid (h.kind hn (Disk.parent p))
  rw [bs_list] at HP
  have HH : Hid (Disk.homeE s.l p = if Disk.kind s.l (Disk.parent p) = 0 then 12 else if Disk.kind s.l (Disk.parent p) = 1 then 13 else 0) := Lib.hid rfl
  obtain ⟨k, hk⟩ : ∃ k, k = Disk.kind s.l (Disk.parent p) := ⟨_, rfl⟩
  rw [← hk] at HK HH
  clear h hk
  by_cases h0 : k = 0
  · have HR := Lib.hid (show Disk.homeE s.l p = 12 by rw [HH.out, if_pos h0])
    subst h0
    go_enter Tryz.func73, Tryz.ntmps73
    go_wp2_with fail
    refine HP.out.mono ?_
    rintro e w1 ⟨rfl, rfl⟩
    go_wp2_with fail
    refine HK.out.mono ?_
    rintro e w2 ⟨rfl, rfl⟩
    go_wp2
    go_returns
    exact ⟨by rw [HR.out] <;> rfl, rfl⟩
  by_cases h1 : k = 1
  · have HR := Lib.hid (show Disk.homeE s.l p = 13 by rw [HH.out, if_neg h0, if_pos h1])
    subst h1
    clear h0
    go_enter Tryz.func73, Tryz.ntmps73
    go_wp2_with fail
    refine HP.out.mono ?_
    rintro e w1 ⟨rfl, rfl⟩
    go_wp2_with fail
    refine HK.out.mono ?_
    rintro e w2 ⟨rfl, rfl⟩
    go_wp2
    go_returns
    exact ⟨by rw [HR.out] <;> rfl, rfl⟩
  · have HR := Lib.hid (show Disk.homeE s.l p = 0 by rw [HH.out, if_neg h0, if_neg h1])
    have q0 : (k == 0) = false := beq_eq_false_iff_ne.2 h0
    have q1 : (k == 1) = false := beq_eq_false_iff_ne.2 h1
    clear h0 h1
    go_enter Tryz.func73, Tryz.ntmps73
    go_wp2_with fail
    refine HP.out.mono ?_
    rintro e w1 ⟨rfl, rfl⟩
    go_wp2_with fail
    refine HK.out.mono ?_
    rintro e w2 ⟨rfl, rfl⟩
    go_wp2
    go_returns
    exact ⟨by rw [HR.out] <;> rfl, rfl⟩
/-- Behind noted. -/
theorem RskNow.noted {w w1 w2 : World} {B : Nat} {O O1 : Nat → Prop} {rd n : Nat} {lv : Value} {s' : Disk.S} (hk : Keeps O w w1) (hO : ∀ k, O1 k → O k ∨ w.heap.size ≤ k) (h : NotePost w1 w2 B O1 rd lv s') (hf : RskFit n s') : RskNow w w2 B O rd n s' := by
  obtain ⟨⟨O', rv', h1, h2⟩, h3⟩ := h
  refine ⟨⟨O', ⟨lv, rv', hf, h1⟩, fun k hk2 => ?_⟩, hk.trans h3 hO⟩
  rcases h2 k hk2 with h | h
  · exact hO k h
  · exact Or.inr (Nat.le_trans hk.size h)
end Go.Proofs.YtnfklomokjhojaaGreatDoor
