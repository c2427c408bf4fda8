/- A disk in memory: New, Load. -/
import Derived.Test.YtdogacgpfnolfaaGreatDoorDiskW2
import Derived.Deep.QuietTactic
namespace Go.Proofs.YtdogacgpfnolfaaGreatDoor
open Go.RowKit Go.Maps
set_option linter.unusedSimpArgs false
set_option linter.unusedVariables false
theorem bcell {W w1 : World} (hb : Below W.heap.size W w1) : (∀ b o, b < W.heap.size → w1.cell? ⟨b, o, none⟩ = W.cell? ⟨b, o, none⟩) ∧ (∀ b o, b < W.heap.size → w1.frozen? ⟨b, o, none⟩ = W.frozen? ⟨b, o, none⟩) :=
  ⟨fun b o h => hb.cell (p := ⟨b, o, none⟩) h, fun b o h => hb.frozen (p := ⟨b, o, none⟩) h⟩
/-- A disk that the call has made: its block, its map's, what lies on it, its raw writes' slice, how many are left. -/
structure DiskIn (w : World) (base sd bm n : Nat) (l : Disk.M) (rv : Value) (left : Int) : Prop where
  c0 : w.cell? ⟨sd, 0, none⟩ = some (.map (some bm))
  c1 : w.cell? ⟨sd, 1, none⟩ = some rv
  c2 : w.cell? ⟨sd, 2, none⟩ = some (.int .i64 left)
  fr : ∀ j, w.frozen? ⟨sd, j, none⟩ = false
  things : Things w bm n l
  sdb : base ≤ sd
  bmb : base ≤ bm
theorem DiskIn.ne {w : World} {base sd bm n : Nat} {l : Disk.M} {rv : Value} {left : Int} (h : DiskIn w base sd bm n l rv left) : sd ≠ bm := fun e => by
  obtain ⟨⟨es, clock, h1, _⟩, _⟩ := h.things
  have h0 := h.c0
  rw [e] at h0
  unfold World.cell? at h0
  simp [h1] at h0
theorem DiskIn.sdl {w : World} {base sd bm n : Nat} {l : Disk.M} {rv : Value} {left : Int} (h : DiskIn w base sd bm n l rv left) : sd < w.heap.size := size_of_cell h.c0
theorem DiskIn.bml {w : World} {base sd bm n : Nat} {l : Disk.M} {rv : Value} {left : Int} (h : DiskIn w base sd bm n l rv left) : bm < w.heap.size := h.things.lt
/-- What lies below stays. -/
theorem DiskIn.below {w w' : World} {B base sd bm n : Nat} {l : Disk.M} {rv : Value} {left : Int} (h : DiskIn w base sd bm n l rv left) (hb : Below B w w') (h1 : sd < B) (h2 : bm < B) : DiskIn w' base sd bm n l rv left :=
  ⟨by rw [hb.cell (p := ⟨sd, 0, none⟩) h1]; exact h.c0, by rw [hb.cell (p := ⟨sd, 1, none⟩) h1]; exact h.c1, by rw [hb.cell (p := ⟨sd, 2, none⟩) h1]; exact h.c2,
    fun j => by rw [hb.frozen (p := ⟨sd, j, none⟩) h1]; exact h.fr j, h.things.below hb h2, h.sdb, h.bmb⟩
theorem DiskIn.sized {w w' : World} {base sd bm n : Nat} {l : Disk.M} {rv : Value} {left : Int} (h : DiskIn w base sd bm n l rv left) (hb : Below w.heap.size w w') : DiskIn w' base sd bm n l rv left := h.below hb h.sdl h.bml
theorem DiskIn.kept {w w' : World} {base sd bm n : Nat} {l : Disk.M} {rv : Value} {left : Int} {row : Option Nat} (h : DiskIn w base sd bm n l rv left) (hg : w.grownBy w' row) (h1 : some sd ≠ row) (h2 : some bm ≠ row) : DiskIn w' base sd bm n l rv left := by
  have hs := hg.block sd h.sdl h1
  exact ⟨(World.cell?_of_block hs).trans h.c0, (World.cell?_of_block hs).trans h.c1, (World.cell?_of_block hs).trans h.c2, fun j => (World.frozen?_of_block hs).trans (h.fr j), h.things.kept hg h2, h.sdb, h.bmb⟩
/-- Its map has been written. -/
theorem DiskIn.put {w w' : World} {base sd bm n n' : Nat} {l l' : Disk.M} {rv : Value} {left : Int} (h : DiskIn w base sd bm n l rv left) (hg : w.grownBy w' (some bm)) (hm : Things w' bm n' l') : DiskIn w' base sd bm n' l' rv left := by
  have hs := hg.block sd h.sdl (fun e => h.ne (Option.some.inj e))
  exact ⟨(World.cell?_of_block hs).trans h.c0, (World.cell?_of_block hs).trans h.c1, (World.cell?_of_block hs).trans h.c2, fun j => (World.frozen?_of_block hs).trans (h.fr j), hm, h.sdb, h.bmb⟩
set_option maxHeartbeats 1000000 in
set_option maxRecDepth 100000 in
theorem new_any (w : World) : Calls Tryz.prog 44 #[] w fun e w' => ∃ sd bm, e = .returned (.pointer (some ⟨sd, 0, none⟩)) ∧ DiskIn w' w.heap.size sd bm 0 [] (.slice none 0 0) (-1) ∧ Below w.heap.size w w' := by
  have hmm := @run_makeMap Tryz.prog
  go_enter Tryz.func44, Tryz.ntmps44
  go_wp2
  go_returns
  have hb : Below w.heap.size w (w.alloc (.map #[] 0)) := (Below.refl _ w).alloc (Nat.le_refl _) _
  refine ⟨w.heap.size + 1, w.heap.size, rfl, ⟨?_, ?_, ?_, ?_, ?_, ?_, ?_⟩, hb.alloc (by simp) _⟩
  · rw [show w.heap.size + 1 = (w.alloc (.map #[] 0)).heap.size by simp, World.cell?_alloc_new]; rfl
  · rw [show w.heap.size + 1 = (w.alloc (.map #[] 0)).heap.size by simp, World.cell?_alloc_new]; rfl
  · rw [show w.heap.size + 1 = (w.alloc (.map #[] 0)).heap.size by simp, World.cell?_alloc_new]; rfl
  · intro j
    rw [show w.heap.size + 1 = (w.alloc (.map #[] 0)).heap.size by simp]
    simp
  · exact (SMap.made w).alloc _
  · omega
  · omega
/-- What Load leaves. -/
def LoadPost (fs : List Disk.Fl) (w : World) (e : Ending) (w' : World) : Prop := (match Disk.load fs with
  | none => e = .returned (.tuple #[.pointer none, .int .i64 1])
  | some l => ∃ sd bm n, e = .returned (.tuple #[.pointer (some ⟨sd, 0, none⟩), .int .i64 0]) ∧ DiskIn w' w.heap.size sd bm n l (.slice none 0 0) (-1) ∧ n ≤ fs.length) ∧ Below w.heap.size w w'
theorem LoadPost.bad {fs : List Disk.Fl} {w w' : World} (h : Disk.load fs = none) (hb : Below w.heap.size w w') : LoadPost fs w (.returned (.tuple #[.pointer none, .int .i64 1])) w' := by
  unfold LoadPost
  rw [h]
  exact ⟨rfl, hb⟩
theorem LoadPost.good {fs : List Disk.Fl} {w w' : World} {l : Disk.M} {sd bm n : Nat} (h : Disk.load fs = some l) (hd : DiskIn w' w.heap.size sd bm n l (.slice none 0 0) (-1)) (hn : n ≤ fs.length) (hb : Below w.heap.size w w') : LoadPost fs w (.returned (.tuple #[.pointer (some ⟨sd, 0, none⟩), .int .i64 0])) w' := by
  unfold LoadPost
  rw [h]
  exact ⟨⟨sd, bm, n, rfl, hd, hn⟩, hb⟩
set_option maxHeartbeats 8000000 in
set_option maxRecDepth 100000 in
theorem load_any {w : World} {B : Nat} {v : Value} {fs : List Disk.Fl} (h : Files w B v fs) (hB : B ≤ w.heap.size) (hE : Env w) (hn : fs.length ≤ 4398046511104) (hsz : ∀ f ∈ fs, f.path.length ≤ 4398046511104) :
    Calls Tryz.prog 19 #[v] w (LoadPost fs w) := by
  obtain ⟨a1, c1, rfl⟩ := h.form
  obtain ⟨N, hN⟩ : ∃ N, N = fs.length := ⟨_, rfl⟩
  have HH := Lib.hid h
  have HSZ := Lib.hid hsz
  rw [← hN] at hn ⊢
  have HN := Lib.hid hN
  clear h hsz hN
  go_enter Tryz.func19, Tryz.ntmps19
  go_wp2_with fail
  refine (new_any _).mono ?_
  rintro e w1 ⟨sd, bm, rfl, hd1, hb1⟩
  have HD1 := Lib.hid hd1
  have hz1 := hb1.size
  clear hd1
  go_wp2
  go_loopw [13] (fun p wr => ∃ (i n : Nat) (l : Disk.M), p = .int .i64 i ∧ i ≤ N ∧ n ≤ i ∧ Disk.fill [] (fs.take i) = some l ∧ DiskIn wr w.heap.size sd bm n l (.slice none 0 0) (-1) ∧ Below w.heap.size w wr) (fun p _ => N - (intOf p).toNat)
  case atStart => exact ⟨0, 0, [], rfl, by omega, by omega, rfl, HD1.out, hb1⟩
  case round =>
    obtain ⟨i, n, l, rfl, hi, hni, hfill, hdr, hBr⟩ := hrel
    obtain ⟨wo, rfl⟩ : ∃ x, x = wr := ⟨wr, rfl⟩
    have HFILL := Lib.hid hfill
    have HDR := Lib.hid hdr
    have hzr := hBr.size
    have hsdl := hdr.sdl
    have hbml := hdr.bml
    have hsb := hdr.sdb
    have d0 := hdr.c0
    clear hfill hdr
    by_cases hiN : i < N
    · obtain ⟨f, hf⟩ : ∃ f, fs[i]? = some f := ⟨_, List.getElem?_eq_getElem (by have := HN.out; omega)⟩
      obtain ⟨bk, o, cap, hve, hbB, hbc⟩ := HH.out.at (by have := HN.out; omega)
      rw [← HN.out] at hve
      cases hve
      obtain ⟨e1, e2, e3⟩ := hbc i f hf
      rw [← hBr.cell (p := ⟨bk, o + i * 3, none⟩) (by show bk < _; omega)] at e1
      rw [← hBr.cell (p := ⟨bk, o + i * 3 + 1, none⟩) (by show bk < _; omega)] at e2
      rw [← hBr.cell (p := ⟨bk, o + i * 3 + 2, none⟩) (by show bk < _; omega)] at e3
      have HF := Lib.hid hf
      have hfz := HSZ.out f (List.mem_of_getElem? hf)
      have HBAD : Hid (Disk.bad l f = ((SM.look l f.path).isSome || (!Disk.pathOk f.path || (f.dir && !f.data.isEmpty)))) := Lib.hid rfl
      have HSTOP : Hid (Disk.bad l f = true → Disk.load fs = none) := Lib.hid (fun h => by unfold Disk.load; rw [Disk.fill_stop HFILL.out hf h])
      have HNEXT : Hid (Disk.bad l f = false → Disk.fill [] (fs.take (i + 1)) = some (SM.put l f.path f.t)) := Lib.hid (fun h => Disk.fill_next HFILL.out hf h)
      clear hbc hf
      obtain ⟨fp, hfp⟩ : ∃ x, x = f.path := ⟨_, rfl⟩
      obtain ⟨fd, hfd⟩ : ∃ x, x = f.dir := ⟨_, rfl⟩
      obtain ⟨ft, hft⟩ : ∃ x, x = f.data := ⟨_, rfl⟩
      rw [← hfp] at e1 hfz
      rw [← hfd] at e2
      rw [← hft] at e3
      have HFF := Lib.hid (And.intro hfp (And.intro hfd hft))
      clear hfp hfd hft
      have hlt : (i : Int) < (N : Int) := by omega
      have hps : (bs fp).size ≤ maxLen := by show fp.toArray.size ≤ maxLen; simp [maxLen]; omega
      have LK : ∀ (W : World), W.heap[bm]? = wo.heap[bm]? → ∀ (v : Value) (b : Bool), elT.val ((SM.look l fp).getD zeroT) = v → (SM.look l fp).isSome = b → (Instr.lookup 55 (.map (some bm)) (.string (bs fp)) true).run Tryz.prog W = .ok (.tuple #[v, .bool b]) W := fun W hW v b hv hb =>
        (HDR.out.things.of_heap hW).run_ok Tryz.underlying9 Tryz.underlying55 zeroT zT (bs fp) hps v hv b hb
      obtain ⟨z, hz⟩ : ∃ z, z = (SM.look l fp).getD zeroT := ⟨_, rfl⟩
      obtain ⟨zb, hzb⟩ : ∃ z, z = (SM.look l fp).isSome := ⟨_, rfl⟩
      have HZB := Lib.hid hzb
      have LK2 : ∀ (W : World), W.heap[bm]? = wo.heap[bm]? → (Instr.lookup 55 (.map (some bm)) (.string (bs fp)) true).run Tryz.prog W = .ok (.tuple #[.agg #[.bool z.dir, .string (bs z.data)], .bool zb]) W := fun W hW => LK W hW _ _ (by rw [← hz]; rfl) hzb.symm
      clear LK hz hzb
      obtain ⟨W2, hW2⟩ : ∃ x, x = wo.alloc (.cells #[.string (bs fp), .bool fd, .string (bs ft)] 70) := ⟨_, rfl⟩
      have hs2 : W2.heap.size = wo.heap.size + 1 := by rw [hW2]; simp
      have g1 : W2.cell? ⟨wo.heap.size, 0, none⟩ = some (.string (bs fp)) := by rw [hW2]; simp
      have g2 : W2.cell? ⟨wo.heap.size, 1, none⟩ = some (.bool fd) := by rw [hW2]; simp
      have g3 : W2.cell? ⟨wo.heap.size, 2, none⟩ = some (.string (bs ft)) := by rw [hW2]; simp
      have hB2 : Below wo.heap.size wo W2 := by rw [hW2]; exact (Below.refl _ _).alloc (Nat.le_refl _) _
      have d2 : W2.cell? ⟨sd, 0, none⟩ = some (.map (some bm)) := by rw [hB2.cell (p := ⟨sd, 0, none⟩) hsdl]; exact d0
      have hbh := hB2.block bm hbml
      have hbl2 : bm < W2.heap.size := by omega
      have r1 := LK2 W2.drew hbh
      have r2 : ∀ o, _ := fun o => LK2 (W2.alloc o).drew ((Below.heap_alloc W2 o bm hbl2).trans hbh)
      have r3 : ∀ o, _ := fun o => LK2 (W2.drew.alloc o) ((Below.heap_alloc W2 o bm hbl2).trans hbh)
      have HB2 := Lib.hid hB2
      clear LK2 hB2 hbh
      go_wp2
      rw [← hW2]
      clear hW2
      go_region
      obtain ⟨W3, hW3⟩ : ∃ x, x = (W2.alloc (.cells #[.bool z.dir, .string (bs z.data)] 63)).drew := ⟨_, rfl⟩
      have hB3 : Below wo.heap.size wo W3 := by rw [hW3]; exact (HB2.out.alloc (by omega) _).drew
      have hs3 : W3.heap.size = wo.heap.size + 1 + 1 := by rw [hW3]; show (W2.alloc _).heap.size = _; simp; omega
      have k1 : W3.cell? ⟨wo.heap.size, 0, none⟩ = some (.string (bs fp)) := by rw [hW3]; show (W2.alloc _).cell? _ = _; rw [World.cell?_alloc_past _ _ _ (by show wo.heap.size < _; omega)]; exact g1
      have k2 : W3.cell? ⟨wo.heap.size, 1, none⟩ = some (.bool fd) := by rw [hW3]; show (W2.alloc _).cell? _ = _; rw [World.cell?_alloc_past _ _ _ (by show wo.heap.size < _; omega)]; exact g2
      have k3 : W3.cell? ⟨wo.heap.size, 2, none⟩ = some (.string (bs ft)) := by rw [hW3]; show (W2.alloc _).cell? _ = _; rw [World.cell?_alloc_past _ _ _ (by show wo.heap.size < _; omega)]; exact g3
      rw [← hW3]
      have HB3 := Lib.hid hB3
      have HBB3 := Lib.hid (hBr.trans (hB3.mono hzr))
      have BADS : Hid (∀ (W : World), Below w.heap.size w W → Disk.bad l f = true → LoadPost fs w (.returned (.tuple #[.pointer none, .int .i64 1])) W) := Lib.hid (fun W h1 h2 => LoadPost.bad (HSTOP.out h2) h1)
      have HB5 : Hid (Disk.bad l f = (zb || (!Disk.pathOk fp || (fd && !ft.isEmpty)))) := Lib.hid (by rw [HBAD.out, HZB.out, HFF.out.1, HFF.out.2.1, HFF.out.2.2])
      clear hW3 g1 g2 g3 d2 r1 r2 r3 hB3 hs2 hbl2
      cases zb
      rotate_left 1
      · have HF := Lib.hid (show Disk.bad l f = true by rw [HB5.out]; rfl)
        go_wp2
        go_returns
        exact BADS.out _ HBB3.out HF.out
      have HBL := Lib.hid (fun (W : World) (h : Below w.heap.size w W) => below_any (bs fp) (by show fp.toArray.size ≤ _; simp; omega) W (hE.below h (Nat.le_refl _)))
      cases hpo : Disk.pathOk fp
      · have HF := Lib.hid (show Disk.bad l f = true by rw [HB5.out, hpo]; rfl)
        rw [bs_list, hpo] at HBL
        clear hpo
        go_wp2_with fail
        refine (HBL.out _ HBB3.out).mono ?_
        rintro e w4 ⟨rfl, hb4⟩
        go_wp2
        go_returns
        exact BADS.out _ (HBB3.out.trans (hb4.mono HBB3.out.size)) HF.out
      have HB6 : Hid (Disk.bad l f = (fd && !ft.isEmpty)) := Lib.hid (by rw [HB5.out, hpo]; simp)
      rw [bs_list, hpo] at HBL
      clear hpo
      have hft := str_eq_lit (bs ft) []
      rw [bs_list] at hft
      have CASES : (fd = true ∧ ((bs ft).toList == ([] : List UInt8)) = false ∧ Disk.bad l f = true) ∨ (fd = true ∧ ((bs ft).toList == ([] : List UInt8)) = true ∧ Disk.bad l f = false) ∨ (fd = false ∧ Disk.bad l f = false) := by
        rw [HB6.out, hft]
        cases fd
        · exact Or.inr (Or.inr ⟨rfl, rfl⟩)
        · cases ft with
          | nil => exact Or.inr (Or.inl ⟨rfl, rfl, rfl⟩)
          | cons a b => exact Or.inl ⟨rfl, rfl, rfl⟩
      clear hft
      rcases CASES with ⟨hfd, hq, hbad⟩ | ⟨hfd, hq, hbad⟩ | ⟨hfd, hbad⟩
      · subst hfd
        have HF := Lib.hid hbad
        clear hbad
        go_wp2_with fail
        refine (HBL.out _ HBB3.out).mono ?_
        rintro e w4 ⟨rfl, hb4⟩
        obtain ⟨hc4, hf4⟩ := bcell hb4
        have m2 : w4.cell? ⟨wo.heap.size, 1, none⟩ = some (.bool true) := by rw [hc4 _ _ (by omega)]; exact k2
        have m3 : w4.cell? ⟨wo.heap.size, 2, none⟩ = some (.string (bs ft)) := by rw [hc4 _ _ (by omega)]; exact k3
        clear hc4 hf4
        go_wp2
        go_returns
        exact BADS.out _ (HBB3.out.trans (hb4.mono HBB3.out.size)) HF.out
      all_goals
        subst hfd
        have HF := Lib.hid hbad
        clear hbad
        go_wp2_with fail
        refine (HBL.out _ HBB3.out).mono ?_
        rintro e w4 ⟨rfl, hb4⟩
        obtain ⟨hc4, hf4⟩ := bcell hb4
        have m1 : w4.cell? ⟨wo.heap.size, 0, none⟩ = some (.string (bs fp)) := by rw [hc4 _ _ (by omega)]; exact k1
        have m2 := hc4 wo.heap.size 1 (by omega)
        rw [k2] at m2
        have m3 : w4.cell? ⟨wo.heap.size, 2, none⟩ = some (.string (bs ft)) := by rw [hc4 _ _ (by omega)]; exact k3
        have HB4 := Lib.hid (HB3.out.trans (hb4.mono HB3.out.size))
        have HBB4 := Lib.hid (HBB3.out.trans (hb4.mono HBB3.out.size))
        have HD4 := Lib.hid (HDR.out.sized HB4.out)
        have d4 := HD4.out.c0
        clear hc4 hf4
        go_wp2
        refine still_tail 11 (by kernel_rfl) (by kernel_rfl) (fun w5 hw5 => ?_)
        have HD5 : Hid (DiskIn w5 w.heap.size sd bm n l (.slice none 0 0) (-1)) := Lib.hid (by rw [hw5]; exact HD4.out.sized (Below.refl _ _).drew)
        have HBB5 : Hid (Below w.heap.size w w5) := Lib.hid (by rw [hw5]; exact HBB4.out.drew)
        have d5 := HD5.out.c0
        rw [show w4.cell? ⟨wo.heap.size, 0, none⟩ = w5.cell? ⟨wo.heap.size, 0, none⟩ by rw [hw5]; rfl] at m1
        rw [show w4.cell? ⟨wo.heap.size, 1, none⟩ = w5.cell? ⟨wo.heap.size, 1, none⟩ by rw [hw5]; rfl] at m2
        rw [show w4.cell? ⟨wo.heap.size, 2, none⟩ = w5.cell? ⟨wo.heap.size, 2, none⟩ by rw [hw5]; rfl] at m3
        clear hw5 d4
        simp only [List.take_succ_cons, List.take_zero, List.drop_succ_cons, List.drop_zero]
        iterate 11 still_step
        refine wpStill_nil ?_
        go_wp2_with (first | (at_mapUpdate; refine wpList_put elT rfl _ _ _ 55 rfl 63 Tryz.underlying9 Tryz.underlying55 rfl HD5.out.things (by unfold maxLen; omega) (bs fp) hps rfl (⟨_, ft⟩ : Disk.T) _ rfl rfl ?_; intro w6 hm6 hg6))
        go_roundw
        case rel => exact ⟨i + 1, n + 1, _, by go_num, by omega, by omega, HNEXT.out HF.out, by
          have := HD5.out.put hg6 hm6
          unfold Disk.Fl.t
          rw [← HFF.out.1, ← HFF.out.2.1, ← HFF.out.2.2]
          exact this, HBB5.out.grown hg6 HBB5.out.size (fun j hj => by cases hj; exact HD5.out.bmb)⟩
        case measure => simp [intOf]; omega
    · have hfull : fs.take i = fs := List.take_of_length_le (by have := HN.out; omega)
      have hfl := HFILL.out
      rw [hfull] at hfl
      have HLD : Hid (Disk.load fs = if Disk.housed l then some l else none) := Lib.hid (by unfold Disk.load; rw [hfl])
      have HRI := Lib.hid (Disk.fill_rises SM.rises_nil hfl)
      have HLP : Hid (∀ x ∈ l, x.1.length ≤ 4398046511104) := Lib.hid (fun x hx => by
        have h1 := SM.look_mem HRI.out hx
        rcases (Disk.fill_look hfl).1 _ _ h1 with h | ⟨f, hf, e, _⟩
        · exact absurd h (by simp [SM.look_nil])
        · rw [← e]; exact HSZ.out f hf)
      clear hfull hfl
      have hex : ¬ ((i : Int) < (N : Int)) := by omega
      go_wp2_with (first | (at_range; refine wpList_range elT rfl _ 55 rfl 63 Tryz.underlying9 Tryz.underlying55 rfl HDR.out.things ?_; intro w2 cnt0 hrg hg2 hs2))
      go_loopw [9] (fun _ wr => ∃ left cnt, SRange Tryz.prog 9 elT wr bm wo.heap.size n l left cnt ∧ (∀ x ∈ l, left x.1 = false → Disk.kind l (Disk.parent x.1) = 2) ∧ DiskIn wr w.heap.size sd bm n l (.slice none 0 0) (-1) ∧ Below w.heap.size w wr) (fun _ wr => wr.rangeLeft bm wo.heap.size)
      case atStart =>
        refine ⟨_, _, hrg, fun x hx h => ?_, HDR.out.sized ((Below.refl _ _).grown hg2 (Nat.le_refl _) (fun j hj => by cases hj)), hBr.grown hg2 hzr (fun j hj => by cases hj)⟩
        rw [SM.look_mem HRI.out hx] at h
        exact absurd h (by simp)
      case round =>
        obtain ⟨left, cnt, hrg3, hall, hd3, hB3⟩ := hrel
        obtain ⟨w3, rfl⟩ : ∃ x, x = wr := ⟨wr, rfl⟩
        have HRG := Lib.hid hrg3
        have HALL := Lib.hid hall
        have HD3 := Lib.hid hd3
        have c3 := hd3.c0
        clear hrg3 hall hd3
        go_wp2_with (first | (at_next; refine wpList_next elT rfl _ rfl Tryz.underlying9 (fun c => .agg #[.bool c.dir, .string (bs c.data)]) (fun c => rfl) rfl HRG.out ?_ ?_))
        · intro hno
          have HF := Lib.hid (LoadPost.good (fs := fs) (w := w) (l := l) (sd := sd) (bm := bm) (n := n) (by
            rw [HLD.out, if_pos]
            unfold Disk.housed
            rw [List.all_eq_true]
            intro x hx
            rw [HALL.out x hx (hno _)]
            rfl) HD3.out (by have := HN.out; omega) hB3)
          clear hno
          go_wp2
          go_returns
          exact HF.out
        · intro s c w4 cnt1 hls hlk hss hrg4 hlt hg4 hs4 hen
          have HD4 := Lib.hid (HD3.out.kept hg4 (fun e => by have := Option.some.inj e; omega) (fun e => by have := Option.some.inj e; omega))
          have HRG4 := Lib.hid hrg4
          have hB4 : Below w.heap.size w w4 := hB3.grown hg4 hB3.size (fun j hj => by cases hj; exact hzr)
          have hr4 := hrg4.lt
          have hb4 := HD4.out.bml
          have c4 := HD4.out.c0
          have hmem := SM.look_some hlk
          have hsl : s.size ≤ 4398046511104 := by
            have := HLP.out _ hmem
            simpa using this
          obtain ⟨q, hq⟩ : ∃ q, q = Disk.parent s.data.toList := ⟨_, rfl⟩
          have HPAR := Lib.hid (parent_any s (by omega))
          rw [← hq] at HPAR
          have hql : (bs q).size ≤ maxLen := by
            have h1 : q.length ≤ s.size + 1 := by
              rw [hq]
              have : ∀ k, (Disk.parTo s.data.toList k).length ≤ s.data.toList.length + 1 := fun k => by
                induction k with
                | zero => simp [Disk.parTo]
                | succ k ih =>
                  unfold Disk.parTo
                  split
                  · rw [List.length_take]; omega
                  · exact ih
              have h2 := this s.data.toList.length
              have h3 : s.data.toList.length = s.size := by simp
              unfold Disk.parent
              omega
            show q.toArray.size ≤ maxLen
            simp [maxLen]
            omega
          have HKI := Lib.hid (kind_any c4 HD4.out.things (bs q) hql)
          rw [bs_list] at HKI
          have HNX : Hid (Disk.kind l q = 2 → ∀ x ∈ l, (left x.1 && !(x.1 == s.data.toList)) = false → Disk.kind l (Disk.parent x.1) = 2) := Lib.hid (fun h x hx h2 => by
            by_cases he : x.1 = s.data.toList
            · rw [he, ← hq]; exact h
            · rw [beq_eq_false_iff_ne.2 he] at h2
              exact HALL.out x hx (by simpa using h2))
          have HNO : Hid (Disk.kind l q ≠ 2 → Disk.load fs = none) := Lib.hid (fun h => by
            rw [HLD.out, if_neg]
            unfold Disk.housed
            rw [List.all_eq_true]
            intro hh
            have := hh _ hmem
            rw [← hq] at this
            exact h (by simpa using this))
          obtain ⟨kk, hkk⟩ : ∃ kk, kk = Disk.kind l q := ⟨_, rfl⟩
          rw [← hkk] at HKI HNX HNO
          clear hls hlk hrg4 hmem hq hkk
          by_cases hk2 : kk = 2
          · have hne : (kk != 2) = false := by rw [bne_eq_false_iff_eq]; exact hk2
            have HK := Lib.hid (HNX.out hk2)
            clear hk2
            go_wp2_with fail
            refine (HPAR.out _).mono ?_
            rintro e w5 ⟨rfl, rfl⟩
            go_wp2_with fail
            refine (HKI.out).mono ?_
            rintro e w6 ⟨rfl, hb6⟩
            go_wp2
            go_roundw
            case rel => exact ⟨_, cnt1, HRG4.out.below hb6 hb4 hr4, HK.out, HD4.out.sized hb6, hB4.trans (hb6.mono hB4.size)⟩
            case measure => rw [(HRG4.out.below hb6 hb4 hr4).left_eq, HRG.out.left_eq]; exact hlt
          · have hne : (kk != 2) = true := by rw [bne_iff_ne]; exact hk2
            have HK := Lib.hid (HNO.out hk2)
            clear hk2
            go_wp2_with fail
            refine (HPAR.out _).mono ?_
            rintro e w5 ⟨rfl, rfl⟩
            go_wp2_with fail
            refine (HKI.out).mono ?_
            rintro e w6 ⟨rfl, hb6⟩
            go_wp2
            go_returns
            exact LoadPost.bad HK.out (hB4.trans (hb6.mono hB4.size))
end Go.Proofs.YtdogacgpfnolfaaGreatDoor
