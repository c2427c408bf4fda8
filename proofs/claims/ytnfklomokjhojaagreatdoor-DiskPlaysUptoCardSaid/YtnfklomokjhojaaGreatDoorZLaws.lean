/- What the laws of both disks share. -/
import Derived.Test.YtnfklomokjhojaaGreatDoorZAsks
namespace Go.Proofs.YtnfklomokjhojaaGreatDoor
open Go.RowKit Go.Maps
set_option linter.unusedSimpArgs false
set_option linter.unusedVariables false
theorem rnewD_any (w : World) (B : Nat) (hB : B ≤ w.heap.size) : Calls Tryz.prog 11 #[] w fun e w' => ∃ rd O, e = .returned (.pointer (some ⟨rd, 0, none⟩)) ∧ Rsk w' B O rd 0 newS ∧ (∀ k, O k → w.heap.size ≤ k) ∧ Below w.heap.size w w' := by
  refine (rnew_any w).mono ?_
  rintro e w' ⟨rd, rfl, hd, hb⟩
  refine ⟨rd, fun k => k = rd, rfl, ⟨.slice none 0 0, .slice none 0 0, ⟨Nat.le_refl _, Nat.le_refl _, by decide, fun x hx => (by cases hx)⟩, ⟨⟨hd.c0, hd.c1, hd.c2, hd.fr, World.ownsRow_nil _ _ _ _, hd.ne, hd.rises, Nat.le_trans hB hd.rdb⟩, World.ownsRow_nil _ _ _ _, by simp [Value.ownBlock], fun g hg => (by cases hg), rfl, fun g hg => (by cases hg), fun g hg => (by cases hg), fun k hk => ?_⟩⟩, fun k hk => ?_, hb⟩
  · have h1 := hd.rdb; have h2 := hd.rdl
    rw [hk]
    exact ⟨by omega, h2⟩
  · rw [hk]; exact hd.rdb
theorem Duo.made {w w' : World} {B : Nat} {sd rd n : Nat} {a b : Disk.S} {OA OB : Nat → Prop} (h1 : Dsk w B OA sd n a) (hb : Below w.heap.size w w') (h2 : Rsk w' B OB rd n b) (hO : ∀ k, OB k → w.heap.size ≤ k) : Duo w' B (fun _ => False) sd rd n a b :=
  ⟨OA, OB, h1.below hb, h2, fun k ha hb2 => by have := (h1.lim k ha).2; have := hO k hb2; omega, fun k hk => hk.elim⟩
theorem Duo.all {w : World} {B : Nat} {Z : Nat → Prop} {sd rd n : Nat} {a b : Disk.S} (h : Duo w B Z sd rd n a b) (hn : a.l.length ≤ 1099511627776) :
    Calls Tryz.prog 18 #[.pointer (some ⟨sd, 0, none⟩)] w fun e w' => ∃ v, e = .returned v ∧ FRow w' w.heap.size v (fls a.l) ∧ Below w.heap.size w w' := by
  obtain ⟨OA, OB, ⟨bm, m, rv, hm, h1⟩, h2, h3, h4⟩ := h
  exact all_any h1.d.c0 h1.d.things hn
theorem Duo.raws {w : World} {B : Nat} {Z : Nat → Prop} {sd rd n : Nat} {a b : Disk.S} (h : Duo w B Z sd rd n a b) (hn : n ≤ 1099511627776) :
    Calls Tryz.prog 14 #[.pointer (some ⟨sd, 0, none⟩)] w fun e w' => ∃ v, e = .returned v ∧ RwRow w' w.heap.size v a.raws ∧ Below w.heap.size w w' := by
  obtain ⟨OA, OB, ⟨bm, m, rv, hm, h1⟩, h2, h3, h4⟩ := h
  exact told_raws h1 (by have := hm.2.1; omega)
theorem Duo.left {w : World} {B : Nat} {Z : Nat → Prop} {sd rd n : Nat} {a b : Disk.S} (h : Duo w B Z sd rd n a b) : w.cell? ⟨sd, 2, none⟩ = some (.int .i64 a.left) := by
  obtain ⟨OA, OB, h1, h2, h3, h4⟩ := h
  exact h1.form
theorem Duo.rleft {w : World} {B : Nat} {Z : Nat → Prop} {sd rd n : Nat} {a b : Disk.S} (h : Duo w B Z sd rd n a b) : w.cell? ⟨rd, 2, none⟩ = some (.int .i64 b.left) := by
  obtain ⟨OA, OB, h1, ⟨lv, rv, hf, hat⟩, h3, h4⟩ := h
  exact hat.r.c2
/-- What the document's disk has in its cells. -/
theorem Duo.rows {w : World} {B : Nat} {Z : Nat → Prop} {sd rd n : Nat} {a b : Disk.S} (h : Duo w B Z sd rd n a b) : ∃ al cl ar cr, w.cell? ⟨rd, 0, none⟩ = some (.slice al (fls b.l).length cl) ∧ w.cell? ⟨rd, 1, none⟩ = some (.slice ar b.raws.length cr) ∧ Files w w.heap.size (.slice al (fls b.l).length cl) (fls b.l) ∧ Rws w w.heap.size (.slice ar b.raws.length cr) b.raws ∧ rd < w.heap.size := by
  obtain ⟨OA, OB, h1, ⟨lv, rv, hf, hat⟩, h3, h4⟩ := h
  obtain ⟨al, cl, rfl⟩ := own_form hat.r.row
  obtain ⟨ar, cr, rfl⟩ := own_form hat.row
  exact ⟨al, cl, ar, cr, hat.r.c0, hat.r.c1, hat.r.row.files, hat.row.rws, hat.r.rdl⟩
end Go.Proofs.YtnfklomokjhojaaGreatDoor
