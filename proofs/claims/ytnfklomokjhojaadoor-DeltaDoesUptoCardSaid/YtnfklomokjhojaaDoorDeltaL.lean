/- What the laws of delta call: a living whole. -/
import Derived.Test.YtnfklomokjhojaaDoorDelta3
namespace Go.Proofs.YtnfklomokjhojaaDoor
open Go.RowKit Go.Maps
set_option linter.unusedSimpArgs false
set_option linter.unusedVariables false
/-- The slice v has the deeds ds, in blocks below B. -/
structure Dds (w : World) (B : Nat) (v : Value) (ds : List Disk.Dd) : Prop where
  is : ∃ a cap, v = .slice a ds.length cap ∧ ∀ (i : Nat) d, ds[i]? = some d → ∃ bk o, a = some ⟨bk, o, none⟩ ∧ bk < B ∧
    w.cell? ⟨bk, o + i * 3, none⟩ = some (.int .i64 d.kind) ∧ w.cell? ⟨bk, o + i * 3 + 1, none⟩ = some (.string (bs d.path)) ∧ w.cell? ⟨bk, o + i * 3 + 2, none⟩ = some (.string (bs d.data))
theorem Dds.form {w : World} {B : Nat} {v : Value} {ds : List Disk.Dd} (h : Dds w B v ds) : ∃ a cap, v = .slice a ds.length cap := by
  obtain ⟨a, cap, rfl, _⟩ := h.is
  exact ⟨a, cap, rfl⟩
theorem Dds.at {w : World} {B : Nat} {v : Value} {ds : List Disk.Dd} (h : Dds w B v ds) (hn : 0 < ds.length) : ∃ bk o cap, v = .slice (some ⟨bk, o, none⟩) ds.length cap ∧ bk < B ∧ ∀ (i : Nat) d, ds[i]? = some d →
    w.cell? ⟨bk, o + i * 3, none⟩ = some (.int .i64 d.kind) ∧ w.cell? ⟨bk, o + i * 3 + 1, none⟩ = some (.string (bs d.path)) ∧ w.cell? ⟨bk, o + i * 3 + 2, none⟩ = some (.string (bs d.data)) := by
  obtain ⟨a, cap, rfl, hc⟩ := h.is
  obtain ⟨bk, o, ha, hB, _⟩ := hc 0 ds[0] (List.getElem?_eq_getElem hn)
  subst ha
  refine ⟨bk, o, cap, rfl, hB, fun i d hd => ?_⟩
  obtain ⟨bk', o', ha', _, h1, h2, h3⟩ := hc i d hd
  cases ha'
  exact ⟨h1, h2, h3⟩
theorem Dds.below {w w' : World} {n B : Nat} {v : Value} {ds : List Disk.Dd} (h : Dds w B v ds) (hb : Below n w w') (hB : B ≤ n) : Dds w' B v ds := by
  obtain ⟨a, cap, rfl, hc⟩ := h.is
  refine ⟨a, cap, rfl, fun i d hd => ?_⟩
  obtain ⟨bk, o, ha, hb', h1, h2, h3⟩ := hc i d hd
  refine ⟨bk, o, ha, hb', ?_, ?_, ?_⟩
  · rw [hb.cell (p := ⟨bk, o + i * 3, none⟩) (by show bk < n; omega)]; exact h1
  · rw [hb.cell (p := ⟨bk, o + i * 3 + 1, none⟩) (by show bk < n; omega)]; exact h2
  · rw [hb.cell (p := ⟨bk, o + i * 3 + 2, none⟩) (by show bk < n; omega)]; exact h3
theorem ddCells_at : ∀ (ds : List Disk.Dd) (i : Nat) (d : Disk.Dd), ds[i]? = some d → (ds.flatMap ddCells)[i * 3]? = some (.int .i64 d.kind) ∧ (ds.flatMap ddCells)[i * 3 + 1]? = some (.string (bs d.path)) ∧ (ds.flatMap ddCells)[i * 3 + 2]? = some (.string (bs d.data))
  | [], i, d, h => by simp at h
  | x :: r, 0, d, h => by simp at h; subst h; exact ⟨rfl, rfl, rfl⟩
  | x :: r, i + 1, d, h => by
    have ih := ddCells_at r i d (by simpa using h)
    have e : ∀ j, ((x :: r).flatMap ddCells)[j + 3]? = (r.flatMap ddCells)[j]? := fun j => rfl
    rw [show (i + 1) * 3 = i * 3 + 3 by omega, show i * 3 + 3 + 1 = (i * 3 + 1) + 3 by omega, show i * 3 + 3 + 2 = (i * 3 + 2) + 3 by omega, e, e, e]
    exact ih
theorem DRow.dds {w : World} {base : Nat} {v : Value} {ds : List Disk.Dd} (h : DRow w base v ds) : Dds w w.heap.size v ds := by
  rcases h.2 with ⟨rfl, h0⟩ | ⟨g, cap, cur, rfl, hb, hg, hnc, _⟩
  · have : ds = [] := List.length_eq_zero_iff.1 h0
    subst this
    exact ⟨none, 0, rfl, fun i d h => by simp at h⟩
  · have hgs : g < w.heap.size := (Array.getElem?_eq_some_iff.1 hg).1
    refine ⟨some ⟨g, 0, none⟩, cap, rfl, fun i d hd => ⟨g, 0, rfl, hgs, ?_⟩⟩
    have hi := (List.getElem?_eq_some_iff.1 hd).1
    obtain ⟨h1, h2, h3⟩ := ddCells_at ds i d hd
    simp only [Nat.zero_add]
    exact ⟨by rw [World.ownsRow.cellAt h _ (by omega)]; exact h1, by rw [World.ownsRow.cellAt h _ (by omega)]; exact h2, by rw [World.ownsRow.cellAt h _ (by omega)]; exact h3⟩
theorem Files.one {w : World} {b : Nat} {f : Disk.Fl} (h : w.heap[b]? = some (.cells #[.string (bs f.path), .bool f.dir, .string (bs f.data)] 31)) : Files w w.heap.size (.slice (some ⟨b, 0, none⟩) 1 1) [f] := by
  refine ⟨some ⟨b, 0, none⟩, 1, rfl, fun i d hd => ⟨b, 0, rfl, (Array.getElem?_eq_some_iff.1 h).1, ?_⟩⟩
  have hi : i = 0 := by have := (List.getElem?_eq_some_iff.1 hd).1; simp at this; omega
  subst hi
  simp at hd
  subst hd
  exact ⟨by rw [Go.Lib.cell_of_heap h]; rfl, by rw [Go.Lib.cell_of_heap h]; rfl, by rw [Go.Lib.cell_of_heap h]; rfl⟩
def liveA : List Disk.Fl := [⟨[47, 97], false, [120]⟩]
def liveB : List Disk.Fl := [⟨[47, 98], false, [121]⟩]
def liveJ : List Disk.Fl := [⟨[47, 106, 111, 117, 114, 110, 97, 108], true, []⟩]
theorem live1 : Disk.deedsRes liveA liveB = ([⟨1, [47, 97], []⟩, ⟨4, [47, 98], [121]⟩], 0) := by decide +kernel
theorem live2 : Disk.deedsRes [] liveJ = ([], 1) := by decide +kernel
set_option maxHeartbeats 2000000 in
set_option maxRecDepth 100000 in
theorem lives_any (w : World) (hE : Env w) : Calls Tryd.prog 11 #[] w fun e w' => e = .returned (.bool true) ∧ Below w.heap.size w w' := by
  obtain ⟨W1, hW1⟩ : ∃ W1, W1 = (w.alloc (.cells #[.string ⟨#[47, 97]⟩, .bool false, .string ⟨#[120]⟩] 31)).alloc (.cells #[.string ⟨#[47, 98]⟩, .bool false, .string ⟨#[121]⟩] 31) := ⟨_, rfl⟩
  have hb1 : Below w.heap.size w W1 := by rw [hW1]; exact ((Below.refl _ _).alloc (Nat.le_refl _) _).alloc (by simp) _
  have HD := Lib.hid (delta_any (w := W1) (B := W1.heap.size) (v1 := .slice (some ⟨w.heap.size, 0, none⟩) 1 1) (v2 := .slice (some ⟨w.heap.size + 1, 0, none⟩) 1 1) (before := liveA) (after := liveB)
    (Files.one (by rw [hW1]; show ((w.heap.push _).push _)[w.heap.size]? = _; rw [Array.getElem?_push, if_neg (by simp), Array.getElem?_push_size]; rfl))
    (Files.one (by rw [hW1]; show ((w.heap.push _).push _)[w.heap.size + 1]? = _; rw [Array.getElem?_push, if_pos (by simp)]; rfl)) (Nat.le_refl _) (hE.below hb1 (Nat.le_refl _)) (by decide) (by decide) (by decide) (by decide))
  have hq1 : ∀ w, (binOp .eql 33 (.agg #[.int .i64 1, .string ⟨#[47, 97]⟩, .string ⟨#[]⟩]) (.agg #[.int .i64 1, .string ⟨#[47, 97]⟩, .string ⟨#[]⟩])).run Tryd.prog w = .ok (.bool true) w := fun w => deedEql w ⟨1, [47, 97], []⟩ ⟨1, [47, 97], []⟩
  have hq2 : ∀ w, (binOp .eql 33 (.agg #[.int .i64 4, .string ⟨#[47, 98]⟩, .string ⟨#[121]⟩]) (.agg #[.int .i64 4, .string ⟨#[47, 98]⟩, .string ⟨#[121]⟩])).run Tryd.prog w = .ok (.bool true) w := fun w => deedEql w ⟨4, [47, 98], [121]⟩ ⟨4, [47, 98], [121]⟩
  go_enter Tryd.func11, Tryd.ntmps11
  go_wp2_with fail
  rw [← hW1]
  refine HD.out.mono ?_
  rintro e w2 ⟨v2, rfl, hd2, hb2⟩
  rw [live1] at hd2 ⊢
  have HB2 := Lib.hid (hb1.trans (hb2.mono hb1.size))
  have hz2 := HB2.out.size
  obtain ⟨bk, o, cap, rfl, hbk, hcell⟩ := hd2.dds.at (by decide)
  have HC := Lib.hid hcell
  have hbj : Below w2.heap.size w2 (w2.alloc (.cells #[.string ⟨#[47, 106, 111, 117, 114, 110, 97, 108]⟩, .bool true, .string ⟨#[]⟩] 31)) := (Below.refl _ _).alloc (Nat.le_refl _) _
  have HJ := Lib.hid (delta_any (w := w2.alloc (.cells #[.string ⟨#[47, 106, 111, 117, 114, 110, 97, 108]⟩, .bool true, .string ⟨#[]⟩] 31)) (B := (w2.alloc (.cells #[.string ⟨#[47, 106, 111, 117, 114, 110, 97, 108]⟩, .bool true, .string ⟨#[]⟩] 31)).heap.size) (v1 := .slice none 0 0) (v2 := .slice (some ⟨w2.heap.size, 0, none⟩) 1 1) (before := []) (after := liveJ)
    (Files.nil _ _) (Files.one (by show (w2.heap.push _)[w2.heap.size]? = _; rw [Array.getElem?_push_size]; rfl)) (Nat.le_refl _) (hE.below (HB2.out.trans (hbj.mono hz2)) (Nat.le_refl _)) (by decide) (by decide) (by decide) (by decide))
  have HBJ := Lib.hid hbj
  clear hW1 hd2 hcell hbj hb2 hb1
  go_wp2_with fail
  refine HJ.out.mono ?_
  rintro e w3 ⟨v3, rfl, hd3, hb3⟩
  rw [live2] at hd3 ⊢
  obtain ⟨a3, c3, rfl⟩ := own_form hd3
  have HB23 := Lib.hid (HBJ.out.trans (hb3.mono HBJ.out.size))
  obtain ⟨e1, e2, e3⟩ := HC.out 0 _ rfl
  obtain ⟨f1, f2, f3⟩ := HC.out 1 _ rfl
  have kk : ∀ j, w3.cell? ⟨bk, j, none⟩ = w2.cell? ⟨bk, j, none⟩ := fun j => HB23.out.cell (p := ⟨bk, j, none⟩) (by show bk < _; omega)
  rw [← kk] at e1 e2 e3 f1 f2 f3
  simp only [Nat.zero_mul, Nat.add_zero, Nat.one_mul] at e1 e2 e3 f1 f2 f3
  have e2' : w3.cell? ⟨bk, o + 1, none⟩ = some (.string ⟨#[47, 97]⟩) := e2
  have e3' : w3.cell? ⟨bk, o + 2, none⟩ = some (.string ⟨#[]⟩) := e3
  have f2' : w3.cell? ⟨bk, o + 3 + 1, none⟩ = some (.string ⟨#[47, 98]⟩) := f2
  have f3' : w3.cell? ⟨bk, o + 3 + 2, none⟩ = some (.string ⟨#[121]⟩) := f3
  clear hd3 kk e2 e3 f2 f3
  go_wp2
  go_returns
  exact ⟨rfl, HB2.out.trans (HB23.out.mono hz2)⟩
end Go.Proofs.YtnfklomokjhojaaDoor
