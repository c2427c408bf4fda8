/- What a disk tells: Raws, Read; its power; a new one; a living whole: the walks. -/
import Derived.Test.YtdogacgpfnolfaaGreatDoorDiskA5
namespace Go.Proofs.YtdogacgpfnolfaaGreatDoor
open Go.RowKit Go.Maps
set_option linter.unusedSimpArgs false
set_option linter.unusedVariables false
theorem RwRow.src {w : World} {base : Nat} {v : Value} {ds : List Disk.Rw} (h : RwRow w base v ds) :
    (v = .slice none 0 0 ∧ ds.length = 0 ∧ ds.flatMap rwCells = []) ∨ ∃ ad c, v = .slice (some ad) ds.length c ∧ (ds.flatMap rwCells).length = ds.length * 3 ∧ ∀ (j : Nat) u, (ds.flatMap rwCells)[j]? = some u → w.cell? (ad.add j) = some u := by
  have hl := h.1
  rcases h.2 with ⟨rfl, h0⟩ | ⟨g, cap, cur, rfl, _⟩
  · have : ds = [] := List.length_eq_zero_iff.1 h0
    subst this
    exact Or.inl ⟨rfl, rfl, rfl⟩
  · exact Or.inr ⟨_, _, rfl, hl, h.cells (g := g) rfl⟩
theorem one3R : ∀ x, ∀ v ∈ rwCells x, v.oneCell' = true := fun x v hv => by
  simp [rwCells] at hv
  rcases hv with rfl | rfl | rfl <;> rfl
set_option maxHeartbeats 2000000 in
set_option maxRecDepth 100000 in
theorem told_raws {w : World} {B : Nat} {O : Nat → Prop} {sd bm m : Nat} {rv : Value} {s : Disk.S} (h : DskAt w B O sd bm m rv s) (hr : s.raws.length ≤ 1099511627776) :
    Calls Tryz.prog 10 #[.pointer (some ⟨sd, 0, none⟩)] w fun e w' => ∃ v, e = .returned v ∧ RwRow w' w.heap.size v s.raws ∧ Below w.heap.size w w' := by
  obtain ⟨i0, hi, hz0, hz1, hz2⟩ := info_parts infoRw
  have d1 := h.d.c1
  have HSRC := Lib.hid h.row.src
  obtain ⟨a1, c1, rfl⟩ := own_form h.row
  have hd1 : w.cell? ⟨sd, 1, none⟩ = some (.slice a1 s.raws.length c1) := d1
  clear h d1
  go_enter Tryz.func10, Tryz.ntmps10
  go_wp2_with (first | (at_builtin; refine wpList_append_src rfl _ _ 32 rfl w.heap.size 37 i0 (.agg #[.int .i64 0, .string ByteArray.empty, .string ByteArray.empty]) 3 40 Tryz.underlying32 hi hz0 hz1 hz2 rfl (by decide) _ _ _ rfl (World.ownsRow_nil _ _ _ _) _ s.raws.length _ rfl HSRC.out (fun u hu => by
              obtain ⟨x, _, hx⟩ := List.mem_flatMap.1 hu
              exact one3R x u hx) (by unfold maxLen; omega) (by omega) (Nat.le_refl _) ?_; intro v3 w3 hown3 hgrow3))
  go_returns
  exact ⟨v3, rfl, by simpa using hown3, (Below.refl _ _).grown hgrow3 (Nat.le_refl _) (fun j hj => by cases hj)⟩
theorem up_any {w : World} {B : Nat} {O : Nat → Prop} {sd n : Nat} {s : Disk.S} (h : Dsk w B O sd n s) :
    Calls Tryz.prog 12 #[.pointer (some ⟨sd, 0, none⟩)] w fun e w' => e = .returned (.tuple #[]) ∧ DskNow w w' B O sd n ⟨s.l, s.raws, -1⟩ := by
  obtain ⟨bm, m, rv, ⟨hm, hr, hl, hok⟩, h⟩ := h
  have H := Lib.hid (h.setLeft (-1))
  have HO := Lib.hid h.os
  have HOK := Lib.hid hok
  have d2 := h.d.c2
  have d3 := h.d.fr 2
  clear h hok
  go_enter Tryz.func12, Tryz.ntmps12
  go_wp2
  go_returns
  exact ⟨rfl, ⟨O, ⟨bm, m, rv, ⟨hm, hr, by show (-1 : Int) ≤ _; decide, HOK.out⟩, H.out.1⟩, fun k h => Or.inl h⟩, Keeps.of_grown H.out.2 (fun k e => by rw [← Option.some.inj e]; exact HO.out)⟩
def Disk.S.cut (s : Disk.S) (n : Int) : Int × Disk.S := if s.left = 0 then (15, s) else if n < 0 then (1, s) else (0, ⟨s.l, s.raws, n⟩)
set_option maxHeartbeats 1000000 in
set_option maxRecDepth 100000 in
theorem cut_any {w : World} {B : Nat} {O : Nat → Prop} {sd n : Nat} {s : Disk.S} (h : Dsk w B O sd n s) (k : Int) (hk : k ≤ 9223372036854775807) :
    Calls Tryz.prog 8 #[.pointer (some ⟨sd, 0, none⟩), .int .i64 k] w fun e w' => e = .returned (.int .i64 (s.cut k).1) ∧ DskNow w w' B O sd n (s.cut k).2 := by
  have H0 := Lib.hid h
  obtain ⟨bm, m, rv, ⟨hm, hr, hl, hok⟩, h⟩ := h
  have H := Lib.hid (h.setLeft k)
  have HO := Lib.hid h.os
  have HOK := Lib.hid hok
  have d2 := h.d.c2
  have d3 := h.d.fr 2
  have HD := Lib.hid (down_any d2)
  have HC : Hid (s.cut k = if s.left = 0 then (15, s) else if k < 0 then (1, s) else (0, ⟨s.l, s.raws, k⟩)) := Lib.hid rfl
  clear h hok
  by_cases h0 : s.left = 0
  · have HF : Hid (s.cut k = (15, s)) := Lib.hid (by rw [HC.out, if_pos h0])
    rw [decide_eq_true h0] at HD
    clear h0 d2
    go_enter Tryz.func8, Tryz.ntmps8
    go_wp2_with fail
    refine HD.out.mono ?_
    rintro e w1 ⟨rfl, rfl⟩
    go_wp2
    go_returns
    rw [HF.out]
    exact ⟨rfl, DskNow.of_below H0.out (Below.refl _ _)⟩
  rw [decide_eq_false h0] at HD
  by_cases h1 : k < 0
  · have HF : Hid (s.cut k = (1, s)) := Lib.hid (by rw [HC.out, if_neg h0, if_pos h1])
    clear h0
    go_enter Tryz.func8, Tryz.ntmps8
    go_wp2_with fail
    refine HD.out.mono ?_
    rintro e w1 ⟨rfl, rfl⟩
    go_wp2
    go_returns
    rw [HF.out]
    exact ⟨rfl, DskNow.of_below H0.out (Below.refl _ _)⟩
  · have HF : Hid (s.cut k = (0, ⟨s.l, s.raws, k⟩)) := Lib.hid (by rw [HC.out, if_neg h0, if_neg h1])
    clear h0
    go_enter Tryz.func8, Tryz.ntmps8
    go_wp2_with fail
    refine HD.out.mono ?_
    rintro e w1 ⟨rfl, rfl⟩
    go_wp2
    go_returns
    rw [HF.out]
    exact ⟨rfl, ⟨O, ⟨bm, m, rv, ⟨hm, hr, hk, HOK.out⟩, H.out.1⟩, fun k h => Or.inl h⟩, Keeps.of_grown H.out.2 (fun k e => by rw [← Option.some.inj e]; exact HO.out)⟩
def Disk.readR (l : Disk.M) (p : List UInt8) : List UInt8 × Int := if p ≠ [47] ∧ Disk.pathOk p = false then ([], 10) else if Disk.kind l p = 0 then ([], 12) else if Disk.kind l p = 2 then ([], 13) else (((SM.look l p).getD zeroT).data, 0)
set_option maxHeartbeats 2000000 in
set_option maxRecDepth 100000 in
theorem read_disk {w : World} {sd bm n : Nat} {l : Disk.M} (hT : w.cell? ⟨sd, 0, none⟩ = some (.map (some bm))) (hM : Things w bm n l) (hE : Env w) (p : List UInt8) (hp : p.length ≤ 4398046511104) :
    Calls Tryz.prog 20 #[.pointer (some ⟨sd, 0, none⟩), .string (bs p)] w fun e w' => e = .returned (.tuple #[.string (bs (Disk.readR l p).1), .int .i64 (Disk.readR l p).2]) ∧ Below w.heap.size w w' := by
  have e1 := str_eq_lit (bs p) [47]
  rw [bs_list] at e1
  have HB := Lib.hid (below_any (bs p) (by show p.toArray.size ≤ _; simp; omega) w hE)
  rw [bs_list] at HB
  have hps := bs_small hp
  have HM := Lib.hid hM
  have hsd := size_of_cell hT
  have hbm := hM.lt
  clear hM
  have HKI : Hid (∀ W, Below w.heap.size w W → Calls Tryz.prog 11 #[.pointer (some ⟨sd, 0, none⟩), .string (bs p)] W fun e w' => e = .returned (.int .i64 (Disk.kind l p)) ∧ Below W.heap.size W w') := Lib.hid (fun W hW => by
    have := kind_any (w := W) (by rw [hW.cell (p := ⟨sd, 0, none⟩) hsd]; exact hT) (HM.out.below hW hbm) (bs p) hps
    rwa [bs_list] at this)
  have HT2 : Hid (∀ W, Below w.heap.size w W → W.cell? ⟨sd, 0, none⟩ = some (.map (some bm)) ∧ Things W bm n l) := Lib.hid (fun W hW => ⟨by rw [hW.cell (p := ⟨sd, 0, none⟩) hsd]; exact hT, HM.out.below hW hbm⟩)
  obtain ⟨kk, hkk⟩ : ∃ k, k = Disk.kind l p := ⟨_, rfl⟩
  have HR : Hid (Disk.readR l p = if p ≠ [47] ∧ Disk.pathOk p = false then ([], 10) else if kk = 0 then ([], 12) else if kk = 2 then ([], 13) else (((SM.look l p).getD zeroT).data, 0)) := Lib.hid (by rw [hkk]; rfl)
  rw [← hkk] at HKI
  obtain ⟨z, hz⟩ : ∃ z, z = (SM.look l p).getD zeroT := ⟨_, rfl⟩
  rw [← hz] at HR
  have HV : Hid (elT.val ((SM.look l (bs p).data.toList).getD zeroT) = .agg #[.bool z.dir, .string (bs z.data)]) := Lib.hid (by rw [bs_list, ← hz]; rfl)
  have hfd : ∀ w : World, (Instr.field 63 (.agg #[.bool z.dir, .string (bs z.data)]) 1).run Tryz.prog w = .ok (.string (bs z.data)) w := fun _ => by kernel_rfl
  clear hkk hz
  have REST : ∀ (s1 : p = [47] ∨ Disk.pathOk p = true), Disk.readR l p = if kk = 0 then ([], 12) else if kk = 2 then ([], 13) else (z.data, 0) := fun s1 => by
    rw [HR.out, if_neg]
    rintro ⟨h1, h2⟩
    rcases s1 with s1 | s1
    · exact h1 s1
    · rw [s1] at h2; exact absurd h2 (by simp)
  have HREST := Lib.hid REST
  clear REST
  by_cases h47 : p = [47]
  · rw [decide_eq_true h47] at e1
    have HRR := Lib.hid (HREST.out (Or.inl h47))
    clear h47
    by_cases h0 : kk = 0
    · have HF : Hid (Disk.readR l p = ([], 12)) := Lib.hid (by rw [HRR.out, if_pos h0])
      have q0 : (kk == 0) = true := beq_iff_eq.2 h0
      clear h0
      go_enter Tryz.func20, Tryz.ntmps20
      go_wp2_with fail
      refine (HKI.out _ (Below.refl _ _)).mono ?_
      rintro e w1 ⟨rfl, hb1⟩
      go_wp2
      go_returns
      exact ⟨by rw [HF.out] <;> rfl, hb1⟩
    have q0 : (kk == 0) = false := beq_eq_false_iff_ne.2 h0
    by_cases h2 : kk = 2
    · have HF : Hid (Disk.readR l p = ([], 13)) := Lib.hid (by rw [HRR.out, if_neg h0, if_pos h2])
      have q2 : (kk == 2) = true := beq_iff_eq.2 h2
      clear h0 h2
      go_enter Tryz.func20, Tryz.ntmps20
      go_wp2_with fail
      refine (HKI.out _ (Below.refl _ _)).mono ?_
      rintro e w1 ⟨rfl, hb1⟩
      go_wp2
      go_returns
      exact ⟨by rw [HF.out] <;> rfl, hb1⟩
    have q2 : (kk == 2) = false := beq_eq_false_iff_ne.2 h2
    have HF : Hid (Disk.readR l p = (z.data, 0)) := Lib.hid (by rw [HRR.out, if_neg h0, if_neg h2])
    clear h0 h2
    go_enter Tryz.func20, Tryz.ntmps20
    go_wp2_with fail
    refine (HKI.out _ (Below.refl _ _)).mono ?_
    rintro e w1 ⟨rfl, hb1⟩
    have HT3 := Lib.hid (HT2.out _ hb1)
    have d1 := HT3.out.1
    go_wp2_with (first | (at_lookup; refine wpList_look elT rfl _ _ 55 rfl 63 Tryz.underlying9 Tryz.underlying55 zeroT (zT _) rfl HT3.out.2 (bs p) hps rfl _ HV.out ?_))
    go_returns
    exact ⟨by rw [HF.out] <;> rfl, hb1⟩
  rw [decide_eq_false h47] at e1
  cases hpo : Disk.pathOk p
  · have HF : Hid (Disk.readR l p = ([], 10)) := Lib.hid (by rw [HR.out, if_pos ⟨h47, hpo⟩])
    rw [hpo] at HB
    clear h47 hpo
    go_enter Tryz.func20, Tryz.ntmps20
    go_wp2_with fail
    refine HB.out.mono ?_
    rintro e w1 ⟨rfl, hb1⟩
    go_wp2
    go_returns
    exact ⟨by rw [HF.out] <;> rfl, hb1⟩
  · have HRR := Lib.hid (HREST.out (Or.inr hpo))
    rw [hpo] at HB
    clear h47 hpo
    by_cases h0 : kk = 0
    · have HF : Hid (Disk.readR l p = ([], 12)) := Lib.hid (by rw [HRR.out, if_pos h0])
      have q0 : (kk == 0) = true := beq_iff_eq.2 h0
      clear h0
      go_enter Tryz.func20, Tryz.ntmps20
      go_wp2_with fail
      refine HB.out.mono ?_
      rintro e w1 ⟨rfl, hb1⟩
      go_wp2_with fail
      refine (HKI.out _ hb1).mono ?_
      rintro e w2 ⟨rfl, hb2⟩
      go_wp2
      go_returns
      exact ⟨by rw [HF.out] <;> rfl, hb1.trans (hb2.mono hb1.size)⟩
    have q0 : (kk == 0) = false := beq_eq_false_iff_ne.2 h0
    by_cases h2 : kk = 2
    · have HF : Hid (Disk.readR l p = ([], 13)) := Lib.hid (by rw [HRR.out, if_neg h0, if_pos h2])
      have q2 : (kk == 2) = true := beq_iff_eq.2 h2
      clear h0 h2
      go_enter Tryz.func20, Tryz.ntmps20
      go_wp2_with fail
      refine HB.out.mono ?_
      rintro e w1 ⟨rfl, hb1⟩
      go_wp2_with fail
      refine (HKI.out _ hb1).mono ?_
      rintro e w2 ⟨rfl, hb2⟩
      go_wp2
      go_returns
      exact ⟨by rw [HF.out] <;> rfl, hb1.trans (hb2.mono hb1.size)⟩
    have q2 : (kk == 2) = false := beq_eq_false_iff_ne.2 h2
    have HF : Hid (Disk.readR l p = (z.data, 0)) := Lib.hid (by rw [HRR.out, if_neg h0, if_neg h2])
    clear h0 h2
    go_enter Tryz.func20, Tryz.ntmps20
    go_wp2_with fail
    refine HB.out.mono ?_
    rintro e w1 ⟨rfl, hb1⟩
    go_wp2_with fail
    refine (HKI.out _ hb1).mono ?_
    rintro e w2 ⟨rfl, hb2⟩
    have HT3 := Lib.hid (HT2.out _ (hb1.trans (hb2.mono hb1.size)))
    have d1 := HT3.out.1
    go_wp2_with (first | (at_lookup; refine wpList_look elT rfl _ _ 55 rfl 63 Tryz.underlying9 Tryz.underlying55 zeroT (zT _) rfl HT3.out.2 (bs p) hps rfl _ HV.out ?_))
    go_returns
    exact ⟨by rw [HF.out] <;> rfl, hb1.trans (hb2.mono hb1.size)⟩
theorem DiskIn.mono {w : World} {base base' sd bm n : Nat} {l : Disk.M} {rv : Value} {left : Int} (h : DiskIn w base sd bm n l rv left) (hb : base' ≤ base) : DiskIn w base' sd bm n l rv left := ⟨h.c0, h.c1, h.c2, h.fr, h.things, Nat.le_trans hb h.sdb, Nat.le_trans hb h.bmb⟩
end Go.Proofs.YtdogacgpfnolfaaGreatDoor
