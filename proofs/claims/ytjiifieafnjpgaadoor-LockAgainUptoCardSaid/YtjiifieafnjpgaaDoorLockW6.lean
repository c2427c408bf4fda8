/- lock.Parse: the walk, where the first two lines are not those asked for. -/
import Derived.Test.YtjiifieafnjpgaaDoorLockW4
import Derived.Test.YtjiifieafnjpgaaDoorLkM
import Derived.Test.YtjiifieafnjpgaaDoorScanAns
import Derived.Test.YtjiifieafnjpgaaDoorScL
namespace Go.Proofs.YtjiifieafnjpgaaDoor
open Go.RowKit
set_option linter.unusedSimpArgs false
set_option linter.unusedVariables false
namespace Lock
/-- A graph's nodes in memory of the call's own. -/
def GraphOwn (w : World) (base : Nat) (v : Value) (g : G) : Prop := (g = [] ∧ v = .slice none 0 0) ∨ ∃ Bw pre cs x cv ev, g = pre ++ [x] ∧ NodesOwn 38 42 40 w base Bw v pre cs x cv ev
theorem GraphOwn.at {w : World} {base : Nat} {v : Value} {g : G} (h : GraphOwn w base v g) : NodesAt w w.heap.size v g := by
  rcases h with ⟨rfl, rfl⟩ | ⟨Bw, pre, cs, x, cv, ev, rfl, h⟩
  · exact NodesAt.nil _ _
  · exact h.at
theorem ans_some {s : ByteArray} {ls : List (List (List UInt8))} (h1 : ¬ 1048576 < s.size) (h : Scan.spec s.data.toList = .inr ls) : Scan.ans s 1048576 = (0, 0, ls) := by
  unfold Scan.ans
  rw [if_neg (by omega), h]
/-- What lines are read as. -/
def rest (ls : List (List (List UInt8))) : Int × G := match ls with
    | a :: b :: r => if a = [wLock] ∧ b = [wRoot] then (match steps [nd0] r with
      | some g => if may g then (0, g) else (22, [])
      | none => (22, [])) else (22, [])
    | _ => (22, [])
theorem parse_some {s : ByteArray} {ls : List (List (List UInt8))} (h1 : ¬ 1048576 < s.size) (h : Scan.spec s.data.toList = .inr ls) : parse s.data.toList = rest ls := by
  unfold parse
  rw [if_neg (by rw [bal_length]; exact h1), h]
  rfl
end Lock
open Lock
/-- What Parse answers. -/
def GParsePost (T : List UInt8) (w : World) (e : Ending) (w' : World) : Prop := ∃ v, e = .returned (.tuple #[.agg #[v], .int .i64 (Lock.parse T).1]) ∧ GraphOwn w' w.heap.size v (Lock.parse T).2 ∧ Below w.heap.size w w'
theorem GParsePost.bad {T : List UInt8} {w w' : World} {c : Int} (h : Lock.parse T = (c, [])) (hb : Below w.heap.size w w') : GParsePost T w (.returned (.tuple #[.agg #[.slice none 0 0], .int .i64 c])) w' :=
  ⟨_, by rw [h], by rw [h]; exact Or.inl ⟨rfl, rfl⟩, hb⟩
theorem lit_eq (a b : List UInt8) : ((bs a).toList == b) = decide (a = b) := by
  rw [bs_toList, Bool.eq_iff_iff]; simp
set_option maxHeartbeats 4000000 in
set_option maxRecDepth 100000 in
theorem gparse_long (s : ByteArray) (hs : s.size ≤ 4398046511104) (w : World) (hbig : 1048576 < s.size) :
    Calls Tryd.prog 11 #[.string s] w (GParsePost s.data.toList w) := by
  have HA : Hid (Scan.ans s 1048576 = (25, 0, [])) := Lib.hid (by unfold Scan.ans; rw [if_pos (by omega)])
  have HP : Hid (Lock.parse s.data.toList = (25, [])) := Lib.hid (by unfold Lock.parse; rw [if_pos (by rw [bal_length]; exact hbig)])
  clear hbig
  go_enter Tryd.func11, Tryd.ntmps11
  go_wp2_with fail
  refine (lines_ans s _ (by omega) _).mono ?_
  rintro e w1 ⟨va, hsa, rfl, hla, hb1⟩
  rw [HA.out] at hla ⊢
  have c2 : w1.cell? ⟨w.heap.size, 0, none⟩ = some (.slice none 0 0) := by rw [hb1.cell (p := ⟨w.heap.size, 0, none⟩) (by show w.heap.size < _; simp)]; exact World.cell?_alloc_at _ _ _ _ rfl
  have f2 : w1.frozen? ⟨w.heap.size, 0, none⟩ = false := by rw [hb1.frozen (p := ⟨w.heap.size, 0, none⟩) (by show w.heap.size < _; simp)]; exact World.frozen?_alloc_at _ _ _ _ rfl
  have HBW : Hid (Below w.heap.size w w1) := Lib.hid (Below.trans (by go_grown) (hb1.mono (by simp)))
  have hzw : w.heap.size < w1.heap.size := by have := hb1.size; simp at this; omega
  clear hb1
  clear hla
  have c3 : (w1.setCell ⟨w.heap.size, 0, none⟩ (.slice none 0 0)).cell? ⟨w.heap.size, 0, none⟩ = some (.slice none 0 0) := World.cell?_setCell_same _ _ _ c2
  go_wp2_with fail
  refine bodyPost_ret (v := .tuple #[.agg #[.slice none 0 0], .int .i64 25]) (by simp [results, Tryd.results11, go_sem, c3]) rfl ?_
  exact GParsePost.bad HP.out (HBW.out.setCell (p := ⟨w.heap.size, 0, none⟩) (Nat.le_refl _) _)
set_option maxHeartbeats 4000000 in
set_option maxRecDepth 100000 in
theorem gparse_no (s : ByteArray) (hs : s.size ≤ 4398046511104) (w : World) (hno : ∀ r, Scan.spec s.data.toList ≠ .inr ([wLock] :: [wRoot] :: r)) :
    Calls Tryd.prog 11 #[.string s] w (GParsePost s.data.toList w) := by
  by_cases hbig : 1048576 < s.size
  · exact gparse_long s hs w hbig
  cases hsp : Scan.spec s.data.toList with
  | inl n =>
    have HA : Hid (Scan.ans s 1048576 = (22, (n : Int), [])) := Lib.hid (by unfold Scan.ans; rw [if_neg (by omega), hsp])
    have HP : Hid (Lock.parse s.data.toList = (22, [])) := Lib.hid (by unfold Lock.parse; rw [if_neg (by rw [bal_length]; exact hbig), hsp])
    clear hno hbig hsp
    go_enter Tryd.func11, Tryd.ntmps11
    go_wp2_with fail
    refine (lines_ans s _ (by omega) _).mono ?_
    rintro e w1 ⟨va, hsa, rfl, hla, hb1⟩
    rw [HA.out] at hla ⊢
    have c2 : w1.cell? ⟨w.heap.size, 0, none⟩ = some (.slice none 0 0) := by rw [hb1.cell (p := ⟨w.heap.size, 0, none⟩) (by show w.heap.size < _; simp)]; exact World.cell?_alloc_at _ _ _ _ rfl
    have f2 : w1.frozen? ⟨w.heap.size, 0, none⟩ = false := by rw [hb1.frozen (p := ⟨w.heap.size, 0, none⟩) (by show w.heap.size < _; simp)]; exact World.frozen?_alloc_at _ _ _ _ rfl
    have HBW : Hid (Below w.heap.size w w1) := Lib.hid (Below.trans (by go_grown) (hb1.mono (by simp)))
    have hzw : w.heap.size < w1.heap.size := by have := hb1.size; simp at this; omega
    clear hb1
    clear hla
    have c3 : (w1.setCell ⟨w.heap.size, 0, none⟩ (.slice none 0 0)).cell? ⟨w.heap.size, 0, none⟩ = some (.slice none 0 0) := World.cell?_setCell_same _ _ _ c2
    go_wp2_with fail
    refine bodyPost_ret (v := .tuple #[.agg #[.slice none 0 0], .int .i64 22]) (by simp [results, Tryd.results11, go_sem, c3]) rfl ?_
    exact GParsePost.bad HP.out (HBW.out.setCell (p := ⟨w.heap.size, 0, none⟩) (Nat.le_refl _) _)
  | inr ls =>
    have HA := Lib.hid (ans_some hbig hsp)
    have HP := Lib.hid (parse_some hbig hsp)
    have hz := Scan.ans_sizes s 1048576
    rw [HA.out] at hz
    have HZ := Lib.hid hz.2
    have hlen : ls.length ≤ 1048577 := by have : ls.length ≤ s.size + 1 := hz.1; omega
    have hno2 : ∀ r, ls ≠ [wLock] :: [wRoot] :: r := fun r e => hno r (by rw [hsp, e])
    have hss : s.size ≤ 1048576 := by omega
    clear hz hsp hno hbig
    obtain ⟨N, hN⟩ : ∃ N, N = ls.length := ⟨_, rfl⟩
    by_cases hfew : N < 2
    · have HF : Hid (Lock.parse s.data.toList = (22, [])) := Lib.hid (by
        rw [HP.out]
        match ls, hN with
        | [], _ => rfl
        | [a], _ => rfl
        | a :: b :: r, h => simp at h; omega)
      have HN := Lib.hid hN
      clear hno2 hN
      go_enter Tryd.func11, Tryd.ntmps11
      go_wp2_with fail
      refine (lines_ans s _ (by omega) _).mono ?_
      rintro e w1 ⟨va, hsa, rfl, hla, hb1⟩
      rw [HA.out] at hla ⊢
      have c2 : w1.cell? ⟨w.heap.size, 0, none⟩ = some (.slice none 0 0) := by rw [hb1.cell (p := ⟨w.heap.size, 0, none⟩) (by show w.heap.size < _; simp)]; exact World.cell?_alloc_at _ _ _ _ rfl
      have f2 : w1.frozen? ⟨w.heap.size, 0, none⟩ = false := by rw [hb1.frozen (p := ⟨w.heap.size, 0, none⟩) (by show w.heap.size < _; simp)]; exact World.frozen?_alloc_at _ _ _ _ rfl
      have HBW : Hid (Below w.heap.size w w1) := Lib.hid (Below.trans (by go_grown) (hb1.mono (by simp)))
      have hzw : w.heap.size < w1.heap.size := by have := hb1.size; simp at this; omega
      clear hb1
      have hrow := hla.row
      rw [← HN.out] at hrow
      obtain ⟨ao, co, rfl⟩ := own_form hrow
      clear hla hrow
      have c3 : ((w1.setCell ⟨w.heap.size, 0, none⟩ (.slice none 0 0)).alloc (Obj.cells #[Value.slice none 0 0] 24)).cell? ⟨w.heap.size, 0, none⟩ = some (.slice none 0 0) := by
        rw [World.cell?_alloc_old _ _ _ (by show w.heap.size ≠ _; simp [World.setCell]; omega)]; exact World.cell?_setCell_same _ _ _ c2
      go_wp2_with fail
      refine bodyPost_ret (v := .tuple #[.agg #[.slice none 0 0], .int .i64 22]) (by simp [results, Tryd.results11, go_sem, c3]) rfl ?_
      exact GParsePost.bad HF.out ((HBW.out.setCell (p := ⟨w.heap.size, 0, none⟩) (Nat.le_refl _) _).alloc (by simp [World.setCell]; omega) _)
    obtain ⟨a, b, r, rfl⟩ : ∃ a b r, ls = a :: b :: r := by
      match ls, hN with
      | [], h => simp at h; omega
      | [a], h => simp at h; omega
      | a :: b :: r, _ => exact ⟨a, b, r, rfl⟩
    have HF : Hid (Lock.parse s.data.toList = (22, [])) := Lib.hid (by
      rw [HP.out]
      show (if a = [wLock] ∧ b = [wRoot] then _ else _) = _
      rw [if_neg]
      rintro ⟨e1, e2⟩
      exact hno2 r (by rw [e1, e2]))
    have HN := Lib.hid hN
    have ha := HZ.out a List.mem_cons_self
    have hb := HZ.out b (List.mem_cons_of_mem _ List.mem_cons_self)
    have hnot : ¬ (a = [wLock] ∧ b = [wRoot]) := fun h => hno2 r (by rw [h.1, h.2])
    clear hno2 hN
    go_enter Tryd.func11, Tryd.ntmps11
    go_wp2_with fail
    refine (lines_ans s _ (by omega) _).mono ?_
    rintro e w1 ⟨va, hsa, rfl, hla, hb1⟩
    rw [HA.out] at hla ⊢
    have c2 : w1.cell? ⟨w.heap.size, 0, none⟩ = some (.slice none 0 0) := by rw [hb1.cell (p := ⟨w.heap.size, 0, none⟩) (by show w.heap.size < _; simp)]; exact World.cell?_alloc_at _ _ _ _ rfl
    have f2 : w1.frozen? ⟨w.heap.size, 0, none⟩ = false := by rw [hb1.frozen (p := ⟨w.heap.size, 0, none⟩) (by show w.heap.size < _; simp)]; exact World.frozen?_alloc_at _ _ _ _ rfl
    have HBW : Hid (Below w.heap.size w w1) := Lib.hid (Below.trans (by go_grown) (hb1.mono (by simp)))
    have hzw : w.heap.size < w1.heap.size := by have := hb1.size; simp at this; omega
    clear hb1
    have hrow := hla.row
    rw [← HN.out] at hrow
    have hvs := Lines.grid_rows hla
    obtain ⟨g, cap, rfl, hg1, hg2⟩ := own_some hrow (by omega)
    obtain ⟨vs, hvsd⟩ : ∃ vs, vs = List.zipWith (fun h (l : List (List UInt8)) => rv h l.length) hsa (a :: b :: r) := ⟨_, rfl⟩
    rw [← hvsd] at hvs hrow
    obtain ⟨u0, hu0⟩ : ∃ u, vs[0]? = some u := ⟨_, List.getElem?_eq_getElem (by have := hvs.1; simp at this; omega)⟩
    obtain ⟨u1, hu1⟩ : ∃ u, vs[1]? = some u := ⟨_, List.getElem?_eq_getElem (by have := hvs.1; simp at this; omega)⟩
    have e0 : w1.cell? ⟨g, 0, none⟩ = some u0 := by rw [hrow.cellAt 0 (by omega)]; exact hu0
    have e1 : w1.cell? ⟨g, 1, none⟩ = some u1 := by rw [hrow.cellAt 1 (by omega)]; exact hu1
    obtain ⟨b0, o0, k0, rfl, hk0, hb0, hc0⟩ := (hvs.2 0 u0 a hu0 rfl).at (by simpa using ha.2)
    obtain ⟨b1, o1, k1, rfl, hk1, hb1, hc1⟩ := (hvs.2 1 u1 b hu1 rfl).at (by simpa using hb.2)
    have HC0 := Lib.hid hc0
    have HC1 := Lib.hid hc1
    rw [List.length_map] at e0 e1
    clear hu0 hu1 hla hvs hrow hvsd hc0 hc1 hk0 hk1
    have hab : a.length ≤ 1048577 := by omega
    have hbb : b.length ≤ 1048577 := by omega
    have ha1 : 1 ≤ a.length := ha.2
    have hb1 : 1 ≤ b.length := hb.2
    clear ha hb
    have hN2 : ¬ ((N : Int) < 2) := by omega
    have c3 : ((w1.setCell ⟨w.heap.size, 0, none⟩ (.slice none 0 0)).alloc (Obj.cells #[Value.slice none 0 0] 24)).cell? ⟨w.heap.size, 0, none⟩ = some (.slice none 0 0) := by
      rw [World.cell?_alloc_old _ _ _ (by show w.heap.size ≠ _; simp [World.setCell]; omega)]; exact World.cell?_setCell_same _ _ _ c2
    by_cases q1 : a.length = 1
    · obtain ⟨a0, rfl⟩ : ∃ x, a = [x] := List.length_eq_one_iff.1 q1
      have d0 : w1.cell? ⟨b0, o0, none⟩ = some (.string (bs a0)) := HC0.out 0 (sv a0) rfl
      have l1 : (([a0] : List (List UInt8)).length : Int) = 1 := rfl
      by_cases q2 : a0 = wLock
      · have x2 : ((bs a0).toList == [108, 111, 99, 107]) = true := by rw [lit_eq, q2]; rfl
        by_cases q3 : b.length = 1
        · obtain ⟨b9, rfl⟩ : ∃ x, b = [x] := List.length_eq_one_iff.1 q3
          have d1 : w1.cell? ⟨b1, o1, none⟩ = some (.string (bs b9)) := HC1.out 0 (sv b9) rfl
          have q4 : ¬ b9 = wRoot := fun e => hnot ⟨by rw [q2], by rw [e]⟩
          have x4 : ((bs b9).toList == [114, 111, 111, 116]) = false := by rw [lit_eq]; exact decide_eq_false q4
          clear q1 q2 q3 q4 hnot
          go_wp2_with fail
          refine bodyPost_ret (v := .tuple #[.agg #[.slice none 0 0], .int .i64 22]) (by simp [results, Tryd.results11, go_sem, c3]) rfl ?_
          exact GParsePost.bad HF.out ((HBW.out.setCell (p := ⟨w.heap.size, 0, none⟩) (Nat.le_refl _) _).alloc (by simp [World.setCell]; omega) _)
        · have x3 : ¬ ((b.length : Nat) : Int) = 1 := by omega
          clear q1 q2 q3 hnot
          go_wp2_with fail
          refine bodyPost_ret (v := .tuple #[.agg #[.slice none 0 0], .int .i64 22]) (by simp [results, Tryd.results11, go_sem, c3]) rfl ?_
          exact GParsePost.bad HF.out ((HBW.out.setCell (p := ⟨w.heap.size, 0, none⟩) (Nat.le_refl _) _).alloc (by simp [World.setCell]; omega) _)
      · have x2 : ((bs a0).toList == [108, 111, 99, 107]) = false := by rw [lit_eq]; exact decide_eq_false q2
        clear q1 q2 hnot
        go_wp2_with fail
        refine bodyPost_ret (v := .tuple #[.agg #[.slice none 0 0], .int .i64 22]) (by simp [results, Tryd.results11, go_sem, c3]) rfl ?_
        exact GParsePost.bad HF.out ((HBW.out.setCell (p := ⟨w.heap.size, 0, none⟩) (Nat.le_refl _) _).alloc (by simp [World.setCell]; omega) _)
    · have x1 : ¬ ((a.length : Nat) : Int) = 1 := by omega
      clear q1 hnot
      go_wp2_with fail
      refine bodyPost_ret (v := .tuple #[.agg #[.slice none 0 0], .int .i64 22]) (by simp [results, Tryd.results11, go_sem, c3]) rfl ?_
      exact GParsePost.bad HF.out ((HBW.out.setCell (p := ⟨w.heap.size, 0, none⟩) (Nat.le_refl _) _).alloc (by simp [World.setCell]; omega) _)
end Go.Proofs.YtjiifieafnjpgaaDoor
