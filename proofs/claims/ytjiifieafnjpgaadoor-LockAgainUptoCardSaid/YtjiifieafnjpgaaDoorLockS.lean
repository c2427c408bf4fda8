/- A graph's text, line by line. No program stands here but for sums of texts. -/
import Derived.Test.YtjiifieafnjpgaaDoorLkP
import Derived.Test.YtjiifieafnjpgaaDoorLkM
namespace Go.Proofs.YtjiifieafnjpgaaDoor
open Go.RowKit
set_option linter.unusedSimpArgs false
set_option linter.unusedVariables false
namespace Lock
/-- The text of the first k nodes. -/
def Tx (g : G) (k : Nat) : List UInt8 := Scan.unlines ([wLock] :: linesFrom 0 (g.take k))
theorem Tx_zero (g : G) : Tx g 0 = [108, 111, 99, 107, 10] := rfl
theorem Tx_full {g : G} {k : Nat} (h : g.length ≤ k) : Tx g k = text g := by
  unfold Tx text lines
  rw [List.take_of_length_le h]
theorem Tx_next {g : G} {k : Nat} {x : Nd} (h : g[k]? = some x) : Tx g (k + 1) = Tx g k ++ Scan.unline (headWords k x) ++ Scan.unlines (x.ctx.map pinWords) ++ Scan.unlines (x.edges.map edgeWords) := by
  have hk : k < g.length := (List.getElem?_eq_some_iff.1 h).1
  have hl : (g.take k).length = k := by rw [List.length_take]; omega
  unfold Tx
  rw [List.take_add_one, h]
  show Scan.unlines ([wLock] :: linesFrom 0 (g.take k ++ [x])) = _
  rw [linesFrom_snoc, Nat.zero_add, hl]
  unfold nodeLines
  rw [← List.cons_append, unlines_two]
  simp [Scan.unlines, List.append_assoc]
theorem unlines_next {α : Type} {f : α → List (List UInt8)} {l : List α} {i : Nat} {p : α} (h : l[i]? = some p) : Scan.unlines ((l.take (i + 1)).map f) = Scan.unlines ((l.take i).map f) ++ Scan.unline (f p) := by
  rw [List.take_add_one, h]
  show Scan.unlines ((l.take i ++ [p]).map f) = _
  rw [List.map_append, unlines_two]
  simp [Scan.unlines]
theorem Tx_len {g : G} (h : may g = true) (k : Nat) : (Tx g k).length ≤ 1048576 := by
  have hf := may_form h
  have h1 : nodesFrom g.length 0 (g.take k) = true := by
    have : ∀ (many : Nat) (g : G) (i k : Nat), nodesFrom many i g = true → nodesFrom many i (g.take k) = true := by
      intro many g
      induction g with
      | nil => intro i k _; simp [nodesFrom]
      | cons y r ih =>
        intro i k hh
        cases k with
        | zero => simp [nodesFrom]
        | succ k =>
          unfold nodesFrom at hh
          rw [Bool.and_eq_true] at hh
          rw [List.take_succ_cons]
          unfold nodesFrom
          rw [hh.1, ih (i + 1) k hh.2]
          rfl
    exact this _ _ _ _ hf.2.2
  have h2 := from_len hf.2.1 _ _ h1
  have h3 : (g.take k).length ≤ 128 := by rw [List.length_take]; omega
  have h4 : (Tx g k).length = 5 + (Scan.unlines (linesFrom 0 (g.take k))).length := by
    unfold Tx
    simp [Scan.unlines, Scan.unline, Cut.glue, wLock]
    omega
  have : 7458 * (g.take k).length ≤ 7458 * 128 := Nat.mul_le_mul_left _ h3
  omega
theorem pins_short {l : List Pn} (h : pins l = true) (i : Nat) : (Scan.unlines ((l.take i).map pinWords)).length ≤ 4352 := by
  have h1 := many_len 34 ((l.take i).map pinWords) (fun w hw => by
    obtain ⟨p, hp, rfl⟩ := List.mem_map.1 hw
    exact pin_fits (pin_in h p (List.mem_of_mem_take hp)))
  have h2 : l.length ≤ 128 := by
    unfold pins at h
    rw [Bool.and_eq_true] at h
    have := names_few h.1
    simpa using this
  rw [List.length_map, List.length_take] at h1
  have : 34 * min i l.length ≤ 34 * 128 := Nat.mul_le_mul_left _ (by omega)
  omega
theorem edges_short {many : Nat} (hm : many ≤ 128) {l : List Eg} (h : edges many l = true) (i : Nat) : (Scan.unlines ((l.take i).map edgeWords)).length ≤ 3072 := by
  have h1 := many_len 24 ((l.take i).map edgeWords) (fun w hw => by
    obtain ⟨p, hp, rfl⟩ := List.mem_map.1 hw
    have := edge_in h p (List.mem_of_mem_take hp)
    exact edge_fits ⟨this.1, this.2.1, by omega⟩)
  have h2 : l.length ≤ 128 := by
    unfold edges at h
    rw [Bool.and_eq_true] at h
    have := names_few h.1
    simpa using this
  rw [List.length_map, List.length_take] at h1
  have : 24 * min i l.length ≤ 24 * 128 := Nat.mul_le_mul_left _ (by omega)
  omega
end Lock
end Go.Proofs.YtjiifieafnjpgaaDoor
