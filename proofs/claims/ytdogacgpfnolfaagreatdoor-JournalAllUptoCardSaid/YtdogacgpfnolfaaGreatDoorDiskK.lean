/- A disk of the call's own, and what stays when it is written. -/
import Derived.Test.YtdogacgpfnolfaaGreatDoorDiskM
import Derived.Test.YtdogacgpfnolfaaGreatDoorDiskW3
import Derived.Test.YtdogacgpfnolfaaGreatDoorRefPut
namespace Go.Proofs.YtdogacgpfnolfaaGreatDoor
open Go.RowKit Go.Maps
set_option linter.unusedSimpArgs false
set_option linter.unusedVariables false
/-- All blocks stay but some. -/
structure Keeps (O : Nat → Prop) (w w' : World) : Prop where
  os : w'.os = w.os
  tape : w'.tape = w.tape
  output : w'.output = w.output
  size : w.heap.size ≤ w'.heap.size
  block : ∀ k, k < w.heap.size → ¬ O k → w'.heap[k]? = w.heap[k]?
theorem Keeps.refl (O : Nat → Prop) (w : World) : Keeps O w w := ⟨rfl, rfl, rfl, Nat.le_refl _, fun _ _ _ => rfl⟩
theorem Keeps.trans {O O' : Nat → Prop} {w w1 w2 : World} (h1 : Keeps O w w1) (h2 : Keeps O' w1 w2) (hO : ∀ k, O' k → O k ∨ w.heap.size ≤ k) : Keeps O w w2 :=
  ⟨h2.os.trans h1.os, h2.tape.trans h1.tape, h2.output.trans h1.output, Nat.le_trans h1.size h2.size, fun k hk hn => (h2.block k (Nat.lt_of_lt_of_le hk h1.size) (fun h => by
    rcases hO k h with h | h
    · exact hn h
    · omega)).trans (h1.block k hk hn)⟩
theorem Keeps.of_below {O : Nat → Prop} {w w' : World} (h : Below w.heap.size w w') : Keeps O w w' := ⟨h.os, h.tape, h.output, h.size, fun k hk _ => h.block k hk⟩
theorem Keeps.of_grown {O : Nat → Prop} {w w' : World} {row : Option Nat} (h : w.grownBy w' row) (hO : ∀ k, row = some k → O k) : Keeps O w w' :=
  ⟨h.os, h.tape, h.output, h.size, fun k hk hn => h.block k hk (fun e => hn (hO k e.symm))⟩
theorem Keeps.then_below {O : Nat → Prop} {w w1 w2 : World} (h1 : Keeps O w w1) (h2 : Below w1.heap.size w1 w2) : Keeps O w w2 := h1.trans (O' := O) (Keeps.of_below h2) (fun k h => Or.inl h)
theorem Keeps.then_grown {O : Nat → Prop} {w w1 w2 : World} {row : Option Nat} (h1 : Keeps O w w1) (h2 : w1.grownBy w2 row) (hO : ∀ k, row = some k → O k ∨ w.heap.size ≤ k) : Keeps O w w2 :=
  h1.trans (O' := fun k => row = some k) (Keeps.of_grown h2 (fun k h => h)) hO
theorem Keeps.to_below {O : Nat → Prop} {w w' : World} {B : Nat} (h : Keeps O w w') (hO : ∀ k, O k → B ≤ k) (hB : B ≤ w.heap.size) : Below B w w' :=
  ⟨h.os, h.tape, h.output, h.size, fun k hk => h.block k (by omega) (fun e => by have := hO k e; omega)⟩
theorem own_keeps {O : Nat → Prop} {w w' : World} {b : Nat} {e : TypeId} {z : Nat} {v : Value} {n : Nat} {xs : List Value} (h : w.ownsRow b e z v n xs) (hk : Keeps O w w') (hO : ∀ g, v.ownBlock = some g → ¬ O g) : w'.ownsRow b e z v n xs := by
  have hlt := World.ownsRow.lt h
  refine ⟨h.1, ?_⟩
  rcases h.2 with hh | ⟨g, cap, cur, rfl, hb, hg, rest⟩
  · exact Or.inl hh
  · exact Or.inr ⟨g, cap, cur, rfl, hb, (hk.block g (hlt g rfl).2 (hO g rfl)).trans hg, rest⟩
theorem DiskIn.keeps {O : Nat → Prop} {w w' : World} {base sd bm n : Nat} {l : Disk.M} {rv : Value} {left : Int} (h : DiskIn w base sd bm n l rv left) (hk : Keeps O w w') (h1 : ¬ O sd) (h2 : ¬ O bm) : DiskIn w' base sd bm n l rv left := by
  have hs := hk.block sd h.sdl h1
  exact ⟨(World.cell?_of_block hs).trans h.c0, (World.cell?_of_block hs).trans h.c1, (World.cell?_of_block hs).trans h.c2, fun j => (World.frozen?_of_block hs).trans (h.fr j), h.things.of_heap (hk.block bm h.bml h2), h.sdb, h.bmb⟩
def rwCells (r : Disk.Rw) : List Value := [.int .i64 r.kind, .string (bs r.path), .string (bs r.to)]
theorem infoRw : (Tryz.prog.info? 37).map (fun i => (i.zero, i.size, i.bytes)) = some (some (.agg #[.int .i64 0, .string ByteArray.empty, .string ByteArray.empty]), 3, 40) := by kernel_rfl
/-- A row of raw writes of the call's own. -/
abbrev RwRow (w : World) (base : Nat) (v : Value) (rs : List Disk.Rw) : Prop := w.ownsRow base 37 3 v rs.length (rs.flatMap rwCells)
theorem RwRow.snoc {w : World} {base n : Nat} {v : Value} {rs : List Disk.Rw} {d : Disk.Rw} (h : w.ownsRow base 37 3 v (n + 1) (rs.flatMap rwCells ++ rwCells d)) (hn : rs.length = n) : RwRow w base v (rs ++ [d]) := by
  show w.ownsRow base 37 3 v (rs ++ [d]).length ((rs ++ [d]).flatMap rwCells)
  rw [List.length_append, hn, List.flatMap_append]
  simpa using h
/-- A disk with all that it has, among the blocks O. -/
structure DskAt (w : World) (B : Nat) (O : Nat → Prop) (sd bm m : Nat) (rv : Value) (s : Disk.S) : Prop where
  d : DiskIn w B sd bm m s.l rv s.left
  row : RwRow w B rv s.raws
  ns : rv.ownBlock ≠ some sd
  nb : rv.ownBlock ≠ some bm
  os : O sd
  ob : O bm
  og : ∀ g, rv.ownBlock = some g → O g
  lim : ∀ k, O k → B ≤ k ∧ k < w.heap.size
/-- A disk: n: as many writes of its map at most. -/
def Dsk (w : World) (B : Nat) (O : Nat → Prop) (sd n : Nat) (s : Disk.S) : Prop := ∃ bm m rv, (m ≤ n ∧ s.raws.length ≤ n ∧ s.left ≤ 9223372036854775807 ∧ ∀ x ∈ s.l, Disk.pathOk x.1 = true) ∧ DskAt w B O sd bm m rv s
theorem DskAt.keeps {w w' : World} {B : Nat} {O O1 : Nat → Prop} {sd bm m : Nat} {rv : Value} {s : Disk.S} (h : DskAt w B O sd bm m rv s) (hk : Keeps O1 w w') (hO : ∀ k, O k → ¬ O1 k) : DskAt w' B O sd bm m rv s :=
  ⟨h.d.keeps hk (hO _ h.os) (hO _ h.ob), own_keeps h.row hk (fun g hg => hO _ (h.og g hg)), h.ns, h.nb, h.os, h.ob, h.og, fun k hk2 => ⟨(h.lim k hk2).1, Nat.lt_of_lt_of_le (h.lim k hk2).2 hk.size⟩⟩
theorem Dsk.keeps {w w' : World} {B : Nat} {O O1 : Nat → Prop} {sd n : Nat} {s : Disk.S} (h : Dsk w B O sd n s) (hk : Keeps O1 w w') (hO : ∀ k, O k → ¬ O1 k) : Dsk w' B O sd n s := by
  obtain ⟨bm, m, rv, hm, h⟩ := h
  exact ⟨bm, m, rv, hm, h.keeps hk hO⟩
theorem DskAt.below {w w' : World} {B : Nat} {O : Nat → Prop} {sd bm m : Nat} {rv : Value} {s : Disk.S} (h : DskAt w B O sd bm m rv s) (hb : Below w.heap.size w w') : DskAt w' B O sd bm m rv s := h.keeps (O1 := fun _ => False) (Keeps.of_below hb) (fun _ _ h => h)
theorem Dsk.below {w w' : World} {B : Nat} {O : Nat → Prop} {sd n : Nat} {s : Disk.S} (h : Dsk w B O sd n s) (hb : Below w.heap.size w w') : Dsk w' B O sd n s := h.keeps (O1 := fun _ => False) (Keeps.of_below hb) (fun _ _ h => h)
theorem Dsk.more {w : World} {B : Nat} {O : Nat → Prop} {sd n n' : Nat} {s : Disk.S} (h : Dsk w B O sd n s) (hn : n ≤ n') : Dsk w B O sd n' s := by
  obtain ⟨bm, m, rv, hm, h⟩ := h
  exact ⟨bm, m, rv, ⟨Nat.le_trans hm.1 hn, Nat.le_trans hm.2.1 hn, hm.2.2⟩, h⟩
theorem Dsk.lim {w : World} {B : Nat} {O : Nat → Prop} {sd n : Nat} {s : Disk.S} (h : Dsk w B O sd n s) : ∀ k, O k → B ≤ k ∧ k < w.heap.size := by
  obtain ⟨bm, m, rv, hm, h⟩ := h
  exact h.lim
/-- A disk's new state: the disk and nothing else is written. -/
structure DskNow (w w' : World) (B : Nat) (O : Nat → Prop) (sd n : Nat) (s : Disk.S) : Prop where
  now : ∃ O', Dsk w' B O' sd n s ∧ ∀ k, O' k → O k ∨ w.heap.size ≤ k
  keeps : Keeps O w w'
theorem DskNow.of_below {w w' : World} {B : Nat} {O : Nat → Prop} {sd n : Nat} {s : Disk.S} (h : Dsk w B O sd n s) (hb : Below w.heap.size w w') : DskNow w w' B O sd n s := ⟨⟨O, h.below hb, fun k h => Or.inl h⟩, Keeps.of_below hb⟩
theorem DskNow.more {w w' : World} {B : Nat} {O : Nat → Prop} {sd n n' : Nat} {s : Disk.S} (h : DskNow w w' B O sd n s) (hn : n ≤ n') : DskNow w w' B O sd n' s := by
  obtain ⟨⟨O', h1, h2⟩, h3⟩ := h
  exact ⟨⟨O', h1.more hn, h2⟩, h3⟩
theorem DskNow.ahead {w w1 w' : World} {B : Nat} {O : Nat → Prop} {sd n : Nat} {s : Disk.S} (hk : Keeps O w w1) (h : DskNow w1 w' B O sd n s) : DskNow w w' B O sd n s := by
  obtain ⟨⟨O', h1, h2⟩, h3⟩ := h
  exact ⟨⟨O', h1, fun k h => (h2 k h).imp id (Nat.le_trans hk.size)⟩, hk.trans h3 (fun k h => Or.inl h)⟩
/-- What a raw write leaves. -/
def AskPost (w : World) (B : Nat) (O : Nat → Prop) (sd n : Nat) (r : Int × Disk.S) (e : Ending) (w' : World) : Prop := e = .returned (.int .i64 r.1) ∧ DskNow w w' B O sd (n + 1) r.2
/-- The map has been written. -/
theorem DskAt.put {w w' : World} {B : Nat} {O : Nat → Prop} {sd bm m m' : Nat} {rv : Value} {s : Disk.S} {l' : Disk.M} (h : DskAt w B O sd bm m rv s) (hg : w.grownBy w' (some bm)) (hm : Things w' bm m' l') : DskAt w' B O sd bm m' rv ⟨l', s.raws, s.left⟩ := by
  refine ⟨h.d.put hg hm, h.row.kept hg ?_, h.ns, h.nb, h.os, h.ob, h.og, fun k hk => ⟨(h.lim k hk).1, Nat.lt_of_lt_of_le (h.lim k hk).2 hg.size⟩⟩
  have := h.nb
  cases hv : rv.ownBlock with
  | none => exact Or.inl rfl
  | some g => exact Or.inr (fun e => this (by rw [hv]; exact e))
theorem Dsk.form {w : World} {B : Nat} {O : Nat → Prop} {sd n : Nat} {s : Disk.S} (h : Dsk w B O sd n s) : w.cell? ⟨sd, 2, none⟩ = some (.int .i64 s.left) := by
  obtain ⟨bm, m, rv, hm, h⟩ := h
  exact h.d.c2
/-- How many are left has been written. -/
theorem DskAt.setLeft {w : World} {B : Nat} {O : Nat → Prop} {sd bm m : Nat} {rv : Value} {s : Disk.S} (h : DskAt w B O sd bm m rv s) (k : Int) : DskAt (w.setCell ⟨sd, 2, none⟩ (.int .i64 k)) B O sd bm m rv ⟨s.l, s.raws, k⟩ ∧ w.grownBy (w.setCell ⟨sd, 2, none⟩ (.int .i64 k)) (some sd) := by
  have hg := setCell_grows w ⟨sd, 2, none⟩ (.int .i64 k)
  have hne := h.d.ne
  refine ⟨⟨⟨?_, ?_, World.cell?_setCell_same' _ _ _ (by rw [h.d.c2]; rfl), fun j => by rw [World.frozen?_setCell]; exact h.d.fr j, h.d.things.kept hg (fun e => hne (Option.some.inj e).symm), h.d.sdb, h.d.bmb⟩, h.row.kept hg ?_, h.ns, h.nb, h.os, h.ob, h.og, fun k hk => ⟨(h.lim k hk).1, by simpa [World.setCell] using (h.lim k hk).2⟩⟩, hg⟩
  · rw [World.cell?_setCell_other _ _ _ _ (by simp)]; exact h.d.c0
  · rw [World.cell?_setCell_other _ _ _ _ (by simp)]; exact h.d.c1
  · have := h.ns
    cases hv : rv.ownBlock with
    | none => exact Or.inl rfl
    | some g => exact Or.inr (fun e => this (by rw [hv]; exact e))
/-- A raw write has been noted: a row that grew is written back. -/
theorem DskAt.setRaws {w wr : World} {B : Nat} {O : Nat → Prop} {sd bm m : Nat} {rv v : Value} {s : Disk.S} {rs : List Disk.Rw} (h : DskAt w B O sd bm m rv s) (hg : w.grownBy wr rv.ownBlock) (hv : RwRow wr B v rs) (hloc : ∀ g, v.ownBlock = some g → rv.ownBlock = some g ∨ w.heap.size ≤ g) :
    DskAt (wr.setCell ⟨sd, 1, none⟩ v) B (fun k => O k ∨ w.heap.size ≤ k ∧ k < wr.heap.size) sd bm m v ⟨s.l, rs, s.left⟩ ∧ Keeps O w (wr.setCell ⟨sd, 1, none⟩ v) := by
  have hsd := h.d.sdl
  have hbm := h.d.bml
  have d2 := h.d.kept hg (fun e => h.ns e.symm) (fun e => h.nb e.symm)
  have g2 := setCell_grows wr ⟨sd, 1, none⟩ v
  have hvs : v.ownBlock ≠ some sd := fun e => by
    rcases hloc _ e with h1 | h1
    · exact h.ns h1
    · omega
  have hvb : v.ownBlock ≠ some bm := fun e => by
    rcases hloc _ e with h1 | h1
    · exact h.nb h1
    · omega
  have hne := h.d.ne
  refine ⟨⟨⟨?_, World.cell?_setCell_same' _ _ _ (by rw [d2.c1]; rfl), ?_, fun j => by rw [World.frozen?_setCell]; exact d2.fr j, d2.things.kept g2 (fun e => hne (Option.some.inj e).symm), h.d.sdb, h.d.bmb⟩, hv.kept g2 ?_, hvs, hvb, Or.inl h.os, Or.inl h.ob, fun g e => ?_, fun k hk => ?_⟩, ?_⟩
  · rw [World.cell?_setCell_other _ _ _ _ (by simp)]; exact d2.c0
  · rw [World.cell?_setCell_other _ _ _ _ (by simp)]; exact d2.c2
  · cases hv' : v.ownBlock with
    | none => exact Or.inl rfl
    | some g => exact Or.inr (fun e => hvs (by rw [hv']; exact e))
  · have h1 := (World.ownsRow.lt hv g e).2
    rcases hloc g e with h2 | h2
    · exact Or.inl (h.og g h2)
    · exact Or.inr ⟨h2, h1⟩
  · have hs : (wr.setCell ⟨sd, 1, none⟩ v).heap.size = wr.heap.size := by simp [World.setCell]
    have hz := hg.size
    rw [hs]
    rcases hk with hk | hk
    · have := h.lim k hk; omega
    · have := h.lim sd h.os; omega
  · exact (Keeps.of_grown hg (fun k e => h.og k e)).then_grown g2 (fun k e => Or.inl (by rw [← Option.some.inj e]; exact h.os))
end Go.Proofs.YtdogacgpfnolfaaGreatDoor
