/- What the laws of both disks share. -/
import Derived.Test.YtnfklomokjhojaaGreatDoorZAsks
namespace Go.Proofs.YtnfklomokjhojaaGreatDoor
open Go.RowKit Go.Maps
set_option linter.unusedSimpArgs false
set_option linter.unusedVariables false
theorem rnewD_any (w : World) (B : Nat) (hB : B ≤ w.heap.size) : Calls Tryz.prog 11 #[] w fun e w' => ∃ rd O, e = .returned (.pointer (some ⟨rd, 0, none⟩)) ∧ Rsk w' B O rd 0 newS ∧ (∀ k, O k → w.heap.size ≤ k) ∧ Below w.heap.size w w' := by
  refine (rnew_any w).mono ?_
  rintro e w' ⟨rd, rfl, hd, hb⟩
  refine ⟨rd, fun k => k = rd, rfl, ⟨.slice none 0 0, .slice none 0 0, ⟨Nat.le_refl _, Nat.le_refl _, by decide, fun x hx => (by cases hx)⟩, ⟨⟨hd.c0, hd.c1, hd.c2, hd.fr, World.ownsRow_nil _ _ _ _, hd.ne, hd.rises, Nat.le_trans hB hd.rdb⟩, World.ownsRow_nil _ _ _ _, by simp [Value.ownBlock], fun g hg => (by cases hg), rfl, fun g hg => (by cases hg), fun g hg => (by cases hg), fun k hk => ?_⟩⟩, fun k hk => ?_, hb⟩
  · have h1 := hd.rdb; have h2 := hd.rdl
    rw [hk]
    exact ⟨by omega, h2⟩
  · rw [hk]; exact hd.rdb
theorem Duo.made {w w' : World} {B : Nat} {sd rd n : Nat} {a b : Disk.S} {OA OB : Nat → Prop} (h1 : Dsk w B OA sd n a) (hb : Below w.heap.size w w') (h2 : Rsk w' B OB rd n b) (hO : ∀ k, OB k → w.heap.size ≤ k) : Duo w' B (fun _ => False) sd rd n a b :=
  ⟨OA, OB, h1.below hb, h2, fun k ha hb2 => by have := (h1.lim k ha).2; have := hO k hb2; omega, fun k hk => hk.elim⟩
theorem Duo.all {w : World} {B : Nat} {Z : Nat → Prop} {sd rd n : Nat} {a b : Disk.S} (h : Duo w B Z sd rd n a b) (hn : a.l.length ≤ 1099511627776) :
    Calls Tryz.prog 18 #[.pointer (some ⟨sd, 0, none⟩)] w fun e w' => ∃ v, e = .returned v ∧ FRow w' w.heap.size v (fls a.l) ∧ Below w.heap.size w w' := by
  obtain ⟨OA, OB, ⟨bm, m, rv, hm, h1⟩, h2, h3, h4⟩ := h
  exact all_any h1.d.c0 h1.d.things hn
theorem Duo.raws {w : World} {B : Nat} {Z : Nat → Prop} {sd rd n : Nat} {a b : Disk.S} (h : Duo w B Z sd rd n a b) (hn : n ≤ 1099511627776) :
    Calls Tryz.prog 14 #[.pointer (some ⟨sd, 0, none⟩)] w fun e w' => ∃ v, e = .returned v ∧ RwRow w' w.heap.size v a.raws ∧ Below w.heap.size w w' := by
  obtain ⟨OA, OB, ⟨bm, m, rv, hm, h1⟩, h2, h3, h4⟩ := h
  exact told_raws h1 (by have := hm.2.1; omega)
theorem Duo.left {w : World} {B : Nat} {Z : Nat → Prop} {sd rd n : Nat} {a b : Disk.S} (h : Duo w B Z sd rd n a b) : w.cell? ⟨sd, 2, none⟩ = some (.int .i64 a.left) := by
  obtain ⟨OA, OB, h1, h2, h3, h4⟩ := h
  exact h1.form
theorem Duo.rleft {w : World} {B : Nat} {Z : Nat → Prop} {sd rd n : Nat} {a b : Disk.S} (h : Duo w B Z sd rd n a b) : w.cell? ⟨rd, 2, none⟩ = some (.int .i64 b.left) := by
  obtain ⟨OA, OB, h1, ⟨lv, rv, hf, hat⟩, h3, h4⟩ := h
  exact hat.r.c2
/-- What the document's disk has in its cells. -/
theorem Duo.rows {w : World} {B : Nat} {Z : Nat → Prop} {sd rd n : Nat} {a b : Disk.S} (h : Duo w B Z sd rd n a b) : ∃ al cl ar cr, w.cell? ⟨rd, 0, none⟩ = some (.slice al (fls b.l).length cl) ∧ w.cell? ⟨rd, 1, none⟩ = some (.slice ar b.raws.length cr) ∧ Files w w.heap.size (.slice al (fls b.l).length cl) (fls b.l) ∧ Rws w w.heap.size (.slice ar b.raws.length cr) b.raws ∧ rd < w.heap.size := by
  obtain ⟨OA, OB, h1, ⟨lv, rv, hf, hat⟩, h3, h4⟩ := h
  obtain ⟨al, cl, rfl⟩ := own_form hat.r.row
  obtain ⟨ar, cr, rfl⟩ := own_form hat.row
  exact ⟨al, cl, ar, cr, hat.r.c0, hat.r.c1, hat.r.row.files, hat.row.rws, hat.r.rdl⟩
theorem load_ok {fs : List Disk.Fl} {l : Disk.M} (h : Disk.load fs = some l) : (∀ x ∈ l, Disk.pathOk x.1 = true) ∧ l.length ≤ fs.length := by
  have hr := Disk.load_rises h
  unfold Disk.load at h
  cases hf : Disk.fill [] fs with
  | none => rw [hf] at h; exact absurd h (by simp)
  | some m =>
    rw [hf] at h
    dsimp only at h
    split at h
    · cases h
      obtain ⟨h1, h2, h3⟩ := Disk.fill_look hf
      refine ⟨fun x hx => ?_, by simpa using Disk.fill_length hf⟩
      rcases h1 _ _ (SM.look_mem hr hx) with hh | ⟨f, hf, e, _⟩
      · exact absurd hh (by simp [SM.look_nil])
      · rw [← e]; exact (Disk.fill_ok ‹_› f hf).1
    · exact absurd h (by simp)
/-- A disk that has been loaded. -/
def loadS (l : Disk.M) : Disk.S := ⟨l, [], -1⟩
theorem Dsk.loaded {w : World} {B b sd bm n N : Nat} {l : Disk.M} (h : DiskIn w b sd bm n l (.slice none 0 0) (-1)) (hB : B ≤ b) (hn : n ≤ N) (hok : ∀ x ∈ l, Disk.pathOk x.1 = true) : Dsk w B (fun k => k = sd ∨ k = bm) sd N (loadS l) ∧ ∀ k, (k = sd ∨ k = bm) → b ≤ k := by
  have h1 := h.sdb; have h2 := h.bmb; have h3 := h.sdl; have h4 := h.bml
  refine ⟨⟨bm, n, .slice none 0 0, ⟨hn, Nat.zero_le _, by show (-1 : Int) ≤ _; decide, hok⟩, ⟨h.mono hB, World.ownsRow_nil _ _ _ _, by simp [Value.ownBlock], by simp [Value.ownBlock], Or.inl rfl, Or.inr rfl, fun g hg => (by cases hg), fun k hk => ?_⟩⟩, fun k hk => ?_⟩
  · rcases hk with rfl | rfl
    · exact ⟨by omega, h3⟩
    · exact ⟨by omega, h4⟩
  · rcases hk with rfl | rfl
    · exact h1
    · exact h2
theorem Rsk.loaded {w : World} {B b rd N : Nat} {l : Disk.M} {lv : Value} (h : RefIn w b rd l lv (.slice none 0 0) (-1)) (hB : B ≤ b) (hn : l.length ≤ N) (hok : ∀ x ∈ l, Disk.pathOk x.1 = true) : Rsk w B (fun k => k = rd ∨ lv.ownBlock = some k) rd N (loadS l) ∧ ∀ k, (k = rd ∨ lv.ownBlock = some k) → b ≤ k := by
  have h1 := h.rdb; have h2 := h.rdl
  refine ⟨⟨lv, .slice none 0 0, ⟨hn, Nat.zero_le _, by show (-1 : Int) ≤ _; decide, hok⟩, ⟨⟨h.c0, h.c1, h.c2, h.fr, own_mono h.row hB, h.ne, h.rises, Nat.le_trans hB h.rdb⟩, World.ownsRow_nil _ _ _ _, by simp [Value.ownBlock], fun g hg => (by cases hg), Or.inl rfl, fun g hg => Or.inr hg, fun g hg => (by cases hg), fun k hk => ?_⟩⟩, fun k hk => ?_⟩
  · rcases hk with rfl | hk
    · exact ⟨by omega, h2⟩
    · have := World.ownsRow.lt h.row k hk; omega
  · rcases hk with rfl | hk
    · exact h1
    · exact (World.ownsRow.lt h.row k hk).1
end Go.Proofs.YtnfklomokjhojaaGreatDoor
