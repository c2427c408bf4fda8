/- May a path be? The program's walk. -/
import Derived.Test.YtnbjdfiembbmmaaDoorPlanSeq
import Derived.Test.YtnbjdfiembbmmaaDoorScanN
import Derived.Shelf.Strings.SlTrimAscii
import Derived.RangeFuncBound
import Derived.Handy
import Derived.RangeFuncNested
import Derived.Lib.Builder
namespace Go.Proofs.YtnbjdfiembbmmaaDoor
open Go.RowKit Go.Shelf
set_option linter.unusedSimpArgs false
set_option linter.unusedVariables false
namespace Plan
def letterP (c : UInt8) : Bool := Scan.small c || ((decide (48 ≤ c.toNat) && decide (c.toNat ≤ 57)) || (decide (c.toNat = 46) || decide (c.toNat = 45)))
/-- May a part of a path be? -/
def partOk (p : List UInt8) : Bool := !p.isEmpty && (decide (p.length ≤ 24) && (decide (p ≠ [46]) && (decide (p ≠ [46, 46]) && p.all letterP)))
/-- May a path be? -/
def pathOk : List UInt8 → Bool
  | [] => false
  | c :: r => decide (c = 47) && (decide ((c :: r).length ≤ 4096) && (Cut.cuts 47 r).all partOk)
end Plan
def lettersP : ByteArray := ⟨#[97, 98, 99, 100, 101, 102, 103, 104, 105, 106, 107, 108, 109, 110, 111, 112, 113, 114, 115, 116, 117, 118, 119, 120, 121, 122, 48, 49, 50, 51, 52, 53, 54, 55, 56, 57, 46, 45]⟩
theorem lettersP_contains (c : UInt8) : lettersP.data.toList.contains c = Plan.letterP c := by
  have := u8_all (p := fun c => lettersP.data.toList.contains c == Plan.letterP c) (by decide +kernel) c
  simpa using this
theorem TrimP (s : ByteArray) (hs : s.size ≤ 9223372036854775807) (w : World) : Calls Tryd.prog 51 #[.string s, .string lettersP] w fun e w' => ∃ r, e = .returned (.string r) ∧ (r.toList == ([] : List UInt8)) = s.data.toList.all Plan.letterP ∧ Below w.heap.size w w' :=
  (Any.strings_Trim_laid Tryd.lays160 info116' s lettersP w hs (by decide) (ascii_of_all (by decide))).mono fun e w' ⟨he, hb⟩ => ⟨_, he, by
    have e1 : (⟨(Go.Lib.trimS s.data.toList lettersP.data.toList).toArray⟩ : ByteArray) = bs (Go.Lib.trimS s.data.toList lettersP.data.toList) := rfl
    rw [e1, sv_eq_empty', trimS_nil]
    congr 1
    funext c
    exact lettersP_contains c, hb⟩
set_option maxHeartbeats 1000000 in
set_option maxRecDepth 100000 in
theorem splitSeq_any (s : ByteArray) (w : World) :
    Calls Tryd.prog 77 #[.string s, .string ⟨#[47]⟩, .int .i64 0] w fun e w' => e = .returned (.func (.func 90) #[] #[.pointer (some ⟨w.heap.size + 1, 0, none⟩), .pointer (some ⟨w.heap.size, 0, none⟩), .pointer (some ⟨w.heap.size + 2, 0, none⟩)]) ∧
      w' = ((w.alloc (.cells #[.string s] 9)).alloc (.cells #[.string ⟨#[47]⟩] 9)).alloc (.cells #[.int .i64 0] 3) := by
  go_enter Tryd.func77, Tryd.ntmps77
  go_wp2
  go_returns
  exact ⟨rfl, rfl⟩
set_option maxHeartbeats 1000000 in
set_option maxRecDepth 100000 in
theorem SplitSeq_any (s : ByteArray) (w : World) :
    Calls Tryd.prog 59 #[.string s, .string ⟨#[47]⟩] w fun e w' => e = .returned (.func (.func 90) #[] #[.pointer (some ⟨w.heap.size + 1, 0, none⟩), .pointer (some ⟨w.heap.size, 0, none⟩), .pointer (some ⟨w.heap.size + 2, 0, none⟩)]) ∧
      w' = ((w.alloc (.cells #[.string s] 9)).alloc (.cells #[.string ⟨#[47]⟩] 9)).alloc (.cells #[.int .i64 0] 3) := by
  go_enter Tryd.func59, Tryd.ntmps59
  go_wp2_with fail
  refine (splitSeq_any s _).mono ?_
  rintro e w1 ⟨rfl, rfl⟩
  go_wp2
  go_returns
  exact ⟨rfl, rfl⟩
theorem pieces_size (r x : ByteArray) (h : x ∈ pieces r) : x.size ≤ r.size := by
  unfold pieces at h
  obtain ⟨p, hp, rfl⟩ := List.mem_map.1 h
  have := Cut.cuts_le 47 _ p hp
  rw [bal_length] at this
  show p.toArray.size ≤ _
  simpa using this
theorem four_allocs (w : World) (a b c d : Obj) :
    ((((w.alloc a).alloc b).alloc c).alloc d).heap[w.heap.size]? = some a ∧ ((((w.alloc a).alloc b).alloc c).alloc d).heap[w.heap.size + 1]? = some b ∧
    ((((w.alloc a).alloc b).alloc c).alloc d).heap[w.heap.size + 1 + 1]? = some c ∧ ((((w.alloc a).alloc b).alloc c).alloc d).heap[w.heap.size + 1 + 2]? = some d := by
  have h1 := World.alloc_heap_new (w.alloc a) b
  have h2 := World.alloc_heap_new ((w.alloc a).alloc b) c
  have h3 := World.alloc_heap_new (((w.alloc a).alloc b).alloc c) d
  simp only [World.size_alloc] at h1 h2 h3
  refine ⟨?_, ?_, ?_, h3⟩
  · exact (Below.heap_alloc _ _ _ (by simp; omega)).trans ((Below.heap_alloc _ _ _ (by simp; omega)).trans ((Below.heap_alloc _ _ _ (by simp)).trans (World.alloc_heap_new w a)))
  · exact (Below.heap_alloc _ _ _ (by simp)).trans ((Below.heap_alloc _ _ _ (by simp)).trans h1)
  · exact (Below.heap_alloc _ _ _ (by simp)).trans h2
theorem cell_put {W : World} {b l : Nat} {o : Obj} (h : b ≠ l) : (W.putObj l o).cell? ⟨b, 0, none⟩ = W.cell? ⟨b, 0, none⟩ := World.cell?_of_block (World.putObj_heap_other h)
theorem frozen_put {W : World} {b l : Nat} {o : Obj} (h : b ≠ l) : (W.putObj l o).frozen? ⟨b, 0, none⟩ = W.frozen? ⟨b, 0, none⟩ := World.frozen?_of_block (World.putObj_heap_other h)
theorem cell_set {W : World} {b c : Nat} {u : Value} (h : b ≠ c) : (W.setCell ⟨c, 0, none⟩ u).cell? ⟨b, 0, none⟩ = W.cell? ⟨b, 0, none⟩ := World.cell?_of_block (Below.heap_setCell _ _ _ _ h)
theorem below_put {B : Nat} {a W : World} (h : Below B a W) {l : Nat} (o : Obj) (hl : B ≤ l) (hB : B ≤ W.heap.size) : Below B a (W.putObj l o) :=
  h.grown (grownBy_putObj' W l o) hB (fun k e => by cases e; exact hl)
theorem keeps_below {W W' : World} (h : Below W.heap.size W W') : KeepsOthers W W' :=
  ⟨h.size, fun k o hk _ => (h.block k (Array.getElem?_eq_some_iff.1 hk).1).trans hk⟩
theorem str_eq_lit (x : ByteArray) (l : List UInt8) : (x.toList == l) = decide (x.data.toList = l) := by
  rw [ByteArray.toList_eq]
  by_cases h : x.data.toList = l
  · rw [h, decide_eq_true rfl]; exact beq_self_eq_true _
  · rw [beq_eq_false_iff_ne.2 h, decide_eq_false h]
theorem partOk_eq (x : ByteArray) : Plan.partOk x.data.toList = (!(x.toList == ([] : List UInt8)) && (decide (x.size ≤ 24) && (!(x.toList == [46]) && (!(x.toList == [46, 46]) && x.data.toList.all Plan.letterP)))) := by
  rw [str_eq_lit, str_eq_lit, str_eq_lit]
  unfold Plan.partOk
  rw [bal_length]
  congr 1
  · cases x.data.toList <;> simp
  · congr 1
    congr 1
    · simp
    · congr 1; simp
attribute [local go_sem] Oper.semAt_some
set_option maxHeartbeats 2000000 in
set_option maxRecDepth 100000 in
theorem path_loop (r : ByteArray) (s : ByteArray) (hs : s.size ≤ 4096) (hp : Go.Lib.hasPrefix s.data.toList [47] = true) (hr : Go.Lib.trimPrefix s.data.toList [47] = r.data.toList) (hrs : r.size ≤ 4096) (w : World) :
    Calls Tryd.prog 35 #[.string s] w fun e w' => e = .returned (.bool ((pieces r).all fun x => Plan.partOk x.data.toList)) ∧ Below w.heap.size w w' := by
  have hcut : ∀ w, Calls Tryd.prog 58 #[.string s, .string ⟨#[47]⟩] w fun e w' => e = .returned (.tuple #[.string r, .bool true]) ∧ w' = w := fun w => by
    have := Tryd.strings_CutPrefix s ⟨#[47]⟩ w
    rw [show (⟨#[47]⟩ : ByteArray).data.toList = [47] from rfl, hp, hr] at this
    exact this
  refine (callsIn_wide (n := 4)).1 ?_
  refine callsIn_of_wp_marks Tryd.func35 rfl trivial ?_ rfl
  simp only [Tryd.ntmps35, List.size_toArray, List.length_cons, List.length_nil, Nat.reduceAdd, Nat.reduceSub, Array.replicate_succ, Array.replicate_zero, List.push_toArray, List.append_toArray, List.nil_append, List.cons_append]
  gi_wp2
  refine ⟨trivial, ?_⟩
  refine (callsIn_wide.2 (hcut _)).mono ?_
  rintro e w1 ⟨rfl, rfl⟩
  gi_wp2
  refine ⟨trivial, ?_⟩
  refine (callsIn_wide.2 (SplitSeq_any r _)).mono ?_
  rintro e w1 ⟨rfl, rfl⟩
  gi_wp2
  obtain ⟨W0, hW0⟩ : ∃ W0, W0 = ((((w.alloc (.cells #[.bool false] 4)).alloc (.cells #[.string r] 9)).alloc (.cells #[.string ⟨#[47]⟩] 9)).alloc (.cells #[.int .i64 0] 3)) := ⟨_, rfl⟩
  rw [← hW0]
  have hs0 : W0.heap.size = w.heap.size + 4 := by rw [hW0]; simp
  obtain ⟨k0, k1, k2, k3⟩ := four_allocs w (.cells #[.bool false] 4) (.cells #[.string r] 9) (.cells #[.string ⟨#[47]⟩] 9) (.cells #[.int .i64 0] 3)
  rw [← hW0] at k0 k1 k2 k3
  have hR : W0.cell? ⟨w.heap.size, 0, none⟩ = some (.bool false) ∧ W0.frozen? ⟨w.heap.size, 0, none⟩ = false := ⟨by rw [Go.Lib.cell_of_heap k0]; rfl, Go.Lib.frozen_of_heap k0 0⟩
  have hBx : Boxes (w.heap.size + 1) (w.heap.size + 1 + 1) (w.heap.size + 1 + 2) r W0 :=
    ⟨by rw [Go.Lib.cell_of_heap k1]; rfl, Go.Lib.frozen_of_heap k1 0, by rw [Go.Lib.cell_of_heap k2]; rfl, by rw [Go.Lib.cell_of_heap k3]; rfl⟩
  clear k0 k1 k2 k3
  have hB0 : Below w.heap.size w W0 := by
    rw [hW0]
    exact ((((Below.refl _ w).alloc (Nat.le_refl _) _).alloc (by simp) _).alloc (by simp; omega) _).alloc (by simp; omega) _
  have HBX := Lib.hid hBx
  have HR := Lib.hid hR
  have HB0 := Lib.hid hB0
  clear hBx hR hB0 hW0
  refine wpIn_rangeFunc_box rfl (by omega) (gf := 90) (lb := #[.pointer (some ⟨w.heap.size + 1 + 1, 0, none⟩), .pointer (some ⟨w.heap.size + 1, 0, none⟩), .pointer (some ⟨w.heap.size + 1 + 2, 0, none⟩)]) rfl trivial (enters_of Tryd.func90 (by kernel_rfl) rfl)
    (w.heap.size + 1) (by omega) [w.heap.size + 1, w.heap.size + 1 + 1, w.heap.size + 1 + 2] (fun b hb => by simp at hb; omega) (pieces r)
    (fun l J Jx W hW hJs hY h0 => splitIter 3 (by omega) l (w.heap.size + 1) (w.heap.size + 1 + 1) (w.heap.size + 1 + 2) (by omega) (by omega) r (by omega) J Jx W (HBX.out.same hW) hJs hY h0)
    (fun pre W => (∀ x ∈ pre, Plan.partOk x.data.toList = true) ∧ (W.cell? ⟨w.heap.size, 0, none⟩ = some (.bool false) ∧ W.frozen? ⟨w.heap.size, 0, none⟩ = false) ∧ Below w.heap.size w W ∧ w.heap.size + 4 ≤ W.heap.size)
    (fun pre W => (∃ x ∈ pre, Plan.partOk x.data.toList = false) ∧ W.cell? ⟨w.heap.size, 0, none⟩ = some (.bool false) ∧ Below w.heap.size w W)
    ?ia ?ip ?is ?xp ⟨fun x hx => by simp at hx, HR.out, HB0.out, by omega⟩
    (fun x => { tmps := #[.string s, undef, .pointer (some ⟨w.heap.size, 0, none⟩), .string r, .bool true, .string x, .tuple #[.string r, .bool true], .string s, .tuple #[.string r, .bool true], .string r, .bool true, .bool true, .bool false, .bool false, .string s, .int .i64 s.size, .bool (decide (4096 < (s.size : Int))), .bool (decide (4096 < (s.size : Int))), .string r, .func (.func 90) #[] #[.pointer (some ⟨w.heap.size + 1 + 1, 0, none⟩), .pointer (some ⟨w.heap.size + 1, 0, none⟩), .pointer (some ⟨w.heap.size + 1 + 2, 0, none⟩)], .string x, undef, undef, undef, undef, undef, undef, undef, undef, undef, undef, undef, undef, undef, undef, undef, undef, undef, undef, undef, undef], defers := [] }) ?assign ?body ?done ?stop
  case ia =>
    rintro pre W o ⟨h1, ⟨h2, h3⟩, h4, h5⟩
    exact ⟨h1, ⟨cell_kept h2 (World.grownBy_alloc W o none) (fun r e => by cases e), (frozen_kept h2 (World.grownBy_alloc W o none) (fun r e => by cases e)).trans h3⟩, h4.alloc h4.size o, by simp; omega⟩
  case ip =>
    rintro pre W l o ⟨h1, ⟨h2, h3⟩, h4, h5⟩ hl
    exact ⟨h1, ⟨(cell_put (by omega)).trans h2, (frozen_put (by omega)).trans h3⟩, below_put h4 o (by omega) h4.size, by simpa using h5⟩
  case is =>
    rintro pre W u ⟨h1, ⟨h2, h3⟩, h4, h5⟩
    exact ⟨h1, ⟨(cell_set (by omega)).trans h2, by rw [World.frozen?_setCell]; exact h3⟩, h4.setCell (p := ⟨w.heap.size + 1, 0, none⟩) (by show w.heap.size ≤ w.heap.size + 1; omega) u, by simpa using h5⟩
  case xp =>
    rintro pre W l o ⟨h1, h2, h4⟩ hl
    exact ⟨h1, (cell_put (by omega)).trans h2, below_put h4 o (by omega) h4.size⟩
  case assign =>
    intro l x W K hK
    gi_wp2
    exact hK
  case body =>
    rintro l pre x W ⟨hall, ⟨hc, hf⟩, hB, h4W⟩ hpre
    have hxs : x.size ≤ 9223372036854775807 := by have := pieces_size r x (hpre.subset (by simp)); omega
    have hpo := partOk_eq x
    have bad : Plan.partOk x.data.toList = false → ∀ a, boxPost [w.heap.size + 1, w.heap.size + 1 + 1, w.heap.size + 1 + 2] (fun pre W => (∀ x ∈ pre, Plan.partOk x.data.toList = true) ∧ (W.cell? ⟨w.heap.size, 0, none⟩ = some (.bool false) ∧ W.frozen? ⟨w.heap.size, 0, none⟩ = false) ∧ Below w.heap.size w W ∧ w.heap.size + 4 ≤ W.heap.size) (fun pre W => (∃ x ∈ pre, Plan.partOk x.data.toList = false) ∧ W.cell? ⟨w.heap.size, 0, none⟩ = some (.bool false) ∧ Below w.heap.size w W) (pre ++ [x]) W .ret a (W.setCell ⟨w.heap.size, 0, none⟩ (.bool false))   := fun h a =>
      ⟨KeepsOthers.setCell _ _ _, ⟨x, by simp, h⟩, World.cell?_setCell_same' _ _ _ (by rw [hc]; rfl), hB.setCell (p := ⟨w.heap.size, 0, none⟩) (Nat.le_refl _) _⟩
    have HBAD := Lib.hid bad
    clear bad
    cases hq1 : (x.toList == ([] : List UInt8))
    · by_cases h24 : x.size ≤ 24
      · cases hq2 : (x.toList == [46])
        · cases hq3 : (x.toList == [46, 46])
          · rw [hq1, hq2, hq3, decide_eq_true h24] at hpo
            gi_wp2
            refine ⟨trivial, ?_⟩
            refine (CallsIn.inRound l (callsIn_wide.2 (TrimP x hxs _))).mono ?_
            rintro e W2 ⟨t, rfl, ht, hb2⟩
            have hz2 := hb2.size
            have hBw := hB.size
            have hc2 : W2.cell? ⟨w.heap.size, 0, none⟩ = some (.bool false) := by rw [hb2.cell (p := ⟨w.heap.size, 0, none⟩) (size_of_cell hc)]; exact hc
            have hf2 : W2.frozen? ⟨w.heap.size, 0, none⟩ = false := by rw [hb2.frozen (p := ⟨w.heap.size, 0, none⟩) (size_of_cell hc)]; exact hf
            cases hall2 : x.data.toList.all Plan.letterP
            · rw [hall2] at ht hpo
              have HP := Lib.hid hpo
              clear hpo hall2
              gi_wp2
              exact ⟨(keeps_below hb2).trans (KeepsOthers.setCell _ _ _), ⟨x, by simp, HP.out⟩, World.cell?_setCell_same' _ _ _ (by rw [hc2]; rfl), (hB.trans (hb2.mono hBw)).setCell (p := ⟨w.heap.size, 0, none⟩) (Nat.le_refl _) _⟩
            · rw [hall2] at ht hpo
              have HP := Lib.hid hpo
              clear hpo hall2
              gi_wp2
              refine ⟨keeps_below hb2, fun b hb => hb2.block b ?_, ⟨fun y hy => ?_, ⟨hc2, hf2⟩, hB.trans (hb2.mono hBw), by omega⟩⟩
              · simp at hb; omega
              · rcases List.mem_append.1 hy with hy | hy
                · exact hall y hy
                · simp at hy; subst hy; exact HP.out
          · rw [hq1, hq2, hq3] at hpo
            have HF := Lib.hid (HBAD.out (by rw [hpo]; simp))
            gi_wp2
            refine ⟨trivial, ?_⟩
            gi_wp2
            exact HF.out _
        · rw [hq1, hq2] at hpo
          have HF := Lib.hid (HBAD.out (by rw [hpo]; simp))
          gi_wp2
          refine ⟨trivial, ?_⟩
          gi_wp2
          exact HF.out _
      · rw [hq1, decide_eq_false h24] at hpo
        have HF := Lib.hid (HBAD.out (by rw [hpo]; simp))
        gi_wp2
        refine ⟨trivial, ?_⟩
        gi_wp2
        exact HF.out _
    · rw [hq1] at hpo
      have HF := Lib.hid (HBAD.out (by rw [hpo]; simp))
      gi_wp2
      refine ⟨trivial, ?_⟩
      gi_wp2
      exact HF.out _
  case done =>
    rintro D W hD ⟨hall, ⟨hcr, hfr⟩, hB, _⟩ hK
    have hhas : ((pieces r).all fun x => Plan.partOk x.data.toList) = true := List.all_eq_true.2 hall
    have hK' := (KeepsOthers.setCell W ⟨w.heap.size, 0, none⟩ (.bool true)).same D _ hK rfl
    have hBD := below_put (hB.setCell (p := ⟨w.heap.size, 0, none⟩) (Nat.le_refl _) (.bool true)) (.deferred none) (l := D) (by omega) (by have := hB.size; simpa using this)
    have hc5 := cell_kept (World.cell?_setCell_same' W ⟨w.heap.size, 0, none⟩ (.bool true) (by rw [hcr]; rfl)) (grownBy_putObj' _ D (.deferred none)) (fun r e => by cases e; exact ⟨_, hK', rfl⟩)
    gi_wp2
    refine ⟨by simp, .inl ⟨_, _, rfl, run_takeDeferred hK', ?_⟩⟩
    refine ⟨.bool true, ?_, by rw [hhas], hBD⟩
    simp [results, Tryd.results35, go_sem, hc5]
  case stop =>
    rintro D pre W hD hpre ⟨⟨x, hx, hbad⟩, hcr, hB⟩ hK
    have hhas : ((pieces r).all fun x => Plan.partOk x.data.toList) = false := List.all_eq_false.2 ⟨x, hpre.subset hx, by rw [hbad]; exact Bool.false_ne_true⟩
    have hBD := below_put hB (.deferred none) (l := D) (by omega) hB.size
    have hc5 := cell_kept hcr (grownBy_putObj' _ D (.deferred none)) (fun r e => by cases e; exact ⟨_, hK, rfl⟩)
    gi_wp2
    refine ⟨by simp, .inl ⟨_, _, rfl, run_takeDeferred hK, ?_⟩⟩
    refine ⟨.bool false, ?_, by rw [hhas], hBD⟩
    simp [results, Tryd.results35, go_sem, hc5]
set_option maxHeartbeats 1000000 in
set_option maxRecDepth 100000 in
/-- The ways out ahead of the loop. -/
theorem path_no (s r : ByteArray) (b : Bool) (hs : s.size ≤ 9223372036854775807) (hcut : ∀ w, Calls Tryd.prog 58 #[.string s, .string ⟨#[47]⟩] w fun e w' => e = .returned (.tuple #[.string r, .bool b]) ∧ w' = w) (h : b = false ∨ 4096 < s.size) (w : World) :
    Calls Tryd.prog 35 #[.string s] w fun e w' => e = .returned (.bool false) ∧ Below w.heap.size w w' := by
  have hB : Below w.heap.size w ((w.alloc (.cells #[.bool false] 4)).setCell ⟨w.heap.size, 0, none⟩ (.bool false)) := ((Below.refl _ w).alloc (Nat.le_refl _) _).setCell (p := ⟨w.heap.size, 0, none⟩) (Nat.le_refl _) _
  have hc : (w.alloc (.cells #[.bool false] 4)).cell? ⟨w.heap.size, 0, none⟩ = some (.bool false) := by simp
  have hB0 : Below w.heap.size w (w.alloc (.cells #[.bool false] 4)) := (Below.refl _ w).alloc (Nat.le_refl _) _
  clear hB
  refine (callsIn_wide (n := 4)).1 ?_
  refine callsIn_of_wp_marks Tryd.func35 rfl trivial ?_ rfl
  simp only [Tryd.ntmps35, List.size_toArray, List.length_cons, List.length_nil, Nat.reduceAdd, Nat.reduceSub, Array.replicate_succ, Array.replicate_zero, List.push_toArray, List.append_toArray, List.nil_append, List.cons_append]
  cases b
  · gi_wp2
    refine ⟨trivial, ?_⟩
    refine (callsIn_wide.2 (hcut _)).mono ?_
    rintro e w1 ⟨rfl, rfl⟩
    gi_wp2
    exact ⟨.bool false, by simp [results, Tryd.results35, go_sem, hc], rfl, hB0⟩
  · have h9 : (4096 : Int) < (s.size : Int) := by rcases h with h | h; (exact absurd h (by simp)); omega
    gi_wp2
    refine ⟨trivial, ?_⟩
    refine (callsIn_wide.2 (hcut _)).mono ?_
    rintro e w1 ⟨rfl, rfl⟩
    gi_wp2
    exact ⟨.bool false, by simp [results, Tryd.results35, go_sem, hc], rfl, hB0⟩
theorem path_any (s : ByteArray) (hs : s.size ≤ 9223372036854775807) (w : World) :
    Calls Tryd.prog 35 #[.string s] w fun e w' => e = .returned (.bool (Plan.pathOk s.data.toList)) ∧ Below w.heap.size w w' := by
  have hcut := fun w => Tryd.strings_CutPrefix s ⟨#[47]⟩ w
  simp only [show (⟨#[47]⟩ : ByteArray).data.toList = [47] from rfl] at hcut
  have hsl := bal_length s
  cases hl : s.data.toList with
  | nil =>
    rw [hl] at hcut
    exact path_no s _ false hs (fun w => hcut w) (Or.inl rfl) w
  | cons c r =>
    by_cases hc : c = 47
    · subst hc
      have h1 : Go.Lib.hasPrefix (47 :: r) [47] = true := by simp [Go.Lib.hasPrefix]
      have h2 : Go.Lib.trimPrefix (47 :: r) [47] = r := by simp [Go.Lib.trimPrefix, Go.Lib.hasPrefix]
      by_cases h4 : s.size ≤ 4096
      · have hrl : (bs r).size ≤ 4096 := by
          show r.toArray.size ≤ _
          rw [hl] at hsl
          simp at hsl ⊢
          omega
        have := path_loop (bs r) s h4 (by rw [hl]; exact h1) (by rw [hl, h2]; rfl) hrl w
        refine this.mono fun e w' ⟨he, hb⟩ => ⟨?_, hb⟩
        rw [he]
        have e1 : Plan.pathOk (47 :: r) = (Cut.cuts 47 r).all Plan.partOk := by
          have : decide ((47 :: r).length ≤ 4096) = true := decide_eq_true (by rw [← hl, hsl]; exact h4)
          simp only [Plan.pathOk, this, decide_true, Bool.true_and]
        rw [e1]
        unfold pieces
        rw [List.all_map]
        rfl
      · rw [hl, h1, h2] at hcut
        have e1 : Plan.pathOk (47 :: r) = false := by
          have : decide ((47 :: r).length ≤ 4096) = false := decide_eq_false (by rw [← hl, hsl]; exact h4)
          simp only [Plan.pathOk, this, Bool.false_and, Bool.and_false]
        rw [e1]
        exact path_no s _ true hs (fun w => hcut w) (Or.inr (by omega)) w
    · have h1 : Go.Lib.hasPrefix (c :: r) [47] = false := by simp only [Go.Lib.hasPrefix, List.isPrefixOf, Bool.and_true]; rw [beq_eq_false_iff_ne]; exact fun e => hc e.symm
      rw [hl, h1] at hcut
      have e1 : Plan.pathOk (c :: r) = false := by simp [Plan.pathOk, hc]
      rw [e1]
      exact path_no s _ false hs (fun w => hcut w) (Or.inl rfl) w
end Go.Proofs.YtnbjdfiembbmmaaDoor
