/- A graph's nodes that are written over: what is kept. No program stands here. -/
import Derived.Test.YtjiifieafnjpgaaDoorLockW7I
namespace Go.Proofs.YtjiifieafnjpgaaDoor
open Go.RowKit
set_option linter.unusedSimpArgs false
set_option linter.unusedVariables false
namespace Lock
/-- A row of the call's own, whatever it holds. -/
def OwnAny (w : World) (base : Nat) (e : TypeId) (z : Nat) (v : Value) (n : Nat) : Prop := ∃ xs, w.ownsRow base e z v n xs
theorem OwnAny.kept {w w' : World} {base : Nat} {e : TypeId} {z : Nat} {v : Value} {n : Nat} (h : OwnAny w base e z v n) {row : Option Nat} (hg : w.grownBy w' row) (hr : v.ownBlock = none ∨ v.ownBlock ≠ row) : OwnAny w' base e z v n := by
  obtain ⟨xs, h⟩ := h
  exact ⟨xs, h.kept hg hr⟩
theorem OwnAny.below {w w' : World} {base : Nat} {e : TypeId} {z : Nat} {v : Value} {n : Nat} (h : OwnAny w base e z v n) (hb : Below w.heap.size w w') : OwnAny w' base e z v n :=
  h.kept (row := none) ⟨hb.os, hb.tape, hb.output, hb.size, fun k hk _ => hb.block k hk⟩ (by cases v.ownBlock <;> simp)
theorem OwnAny.stored {w : World} {base : Nat} {e : TypeId} {z : Nat} {v : Value} {n : Nat} (h : OwnAny w base e z v n) (g j : Nat) (u : Value) : OwnAny (w.setCell ⟨g, j, none⟩ u) base e z v n := by
  obtain ⟨xs, h⟩ := h
  by_cases hb : v.ownBlock = some g
  · rcases h.2 with ⟨rfl, _⟩ | ⟨g', cap, cur, rfl, _⟩
    · simp [Value.ownBlock] at hb
    · simp only [Value.ownBlock, Option.some.injEq] at hb
      subst hb
      exact ⟨_, (h.stored j u).1⟩
  · exact ⟨xs, h.kept (grown_set w g j u) (Or.inr hb)⟩
theorem OwnAny.form {w : World} {base : Nat} {e : TypeId} {z : Nat} {v : Value} {n : Nat} (h : OwnAny w base e z v n) : ∃ a cap, v = .slice a n cap ∧ ∀ k, k < n → ∃ g, a = some ⟨g, 0, none⟩ ∧ base ≤ g ∧ g < w.heap.size ∧ ∀ j, w.frozen? ⟨g, j, none⟩ = false ∧ (j < n * z → ∃ u, w.cell? ⟨g, j, none⟩ = some u) := by
  obtain ⟨xs, h⟩ := h
  rcases h.2 with ⟨rfl, rfl⟩ | ⟨g', cap, cur, rfl, hb, hg, _⟩
  · exact ⟨none, 0, rfl, fun k hk => absurd hk (by omega)⟩
  · refine ⟨_, cap, rfl, fun k hk => ⟨g', rfl, hb, heap_lt hg, fun j => ⟨h.frozenAt j, fun hj => ?_⟩⟩⟩
    rw [h.cellAt j hj]
    exact ⟨_, List.getElem?_eq_getElem (by rw [h.1]; exact hj)⟩
/-- The nodes' row, and what it tells of theirs. -/
structure Shape (w : World) (base : Nat) (v : Value) (ls : List (Nat × Nat)) : Prop where
  is : ∃ xs, w.ownsRow base 38 6 v ls.length xs ∧ ∀ (i nc ne : Nat), ls[i]? = some (nc, ne) → ∃ cv ev, xs[i * 6 + 4]? = some cv ∧ xs[i * 6 + 5]? = some ev ∧ OwnAny w base 42 4 cv nc ∧ OwnAny w base 40 2 ev ne
theorem Shape.form {w : World} {base : Nat} {v : Value} {ls : List (Nat × Nat)} (h : Shape w base v ls) (h0 : 0 < ls.length) : ∃ g cap, v = .slice (some ⟨g, 0, none⟩) ls.length cap ∧ base ≤ g ∧ g < w.heap.size := by
  obtain ⟨xs, h1, _⟩ := h.is
  exact h1.form h0
theorem Shape.below {w w' : World} {base : Nat} {v : Value} {ls : List (Nat × Nat)} (h : Shape w base v ls) (hb : Below w.heap.size w w') : Shape w' base v ls := by
  obtain ⟨xs, h1, h2⟩ := h.is
  refine ⟨xs, h1.kept (row := none) ⟨hb.os, hb.tape, hb.output, hb.size, fun k hk _ => hb.block k hk⟩ (by cases v.ownBlock <;> simp), fun i nc ne hi => ?_⟩
  obtain ⟨cv, ev, a1, a2, a3, a4⟩ := h2 i nc ne hi
  exact ⟨cv, ev, a1, a2, a3.below hb, a4.below hb⟩
/-- A node's cells, as they can be read and written. -/
theorem Shape.node {w : World} {base : Nat} {g cap : Nat} {ls : List (Nat × Nat)} (h : Shape w base (.slice (some ⟨g, 0, none⟩) ls.length cap) ls) {i nc ne : Nat} (hi : ls[i]? = some (nc, ne)) :
    ∃ cv ev u, w.cell? ⟨g, i * 6, none⟩ = some u ∧ w.frozen? ⟨g, i * 6, none⟩ = false ∧ w.cell? ⟨g, i * 6 + 4, none⟩ = some cv ∧ w.cell? ⟨g, i * 6 + 5, none⟩ = some ev ∧ OwnAny w base 42 4 cv nc ∧ OwnAny w base 40 2 ev ne := by
  obtain ⟨xs, h1, h2⟩ := h.is
  obtain ⟨cv, ev, a1, a2, a3, a4⟩ := h2 i nc ne hi
  have hl := (List.getElem?_eq_some_iff.1 hi).1
  have c0 := h1.cellAt (i * 6) (by omega)
  have c4 := h1.cellAt (i * 6 + 4) (by omega)
  have c5 := h1.cellAt (i * 6 + 5) (by omega)
  rw [a1] at c4
  rw [a2] at c5
  rw [List.getElem?_eq_getElem (by rw [h1.1]; omega)] at c0
  exact ⟨cv, ev, _, c0, h1.frozenAt _, c4, c5, a3, a4⟩
/-- A node's name is written over. -/
theorem Shape.name {w : World} {base : Nat} {g cap : Nat} {ls : List (Nat × Nat)} (h : Shape w base (.slice (some ⟨g, 0, none⟩) ls.length cap) ls) (i : Nat) (u : Value) : Shape (w.setCell ⟨g, i * 6, none⟩ u) base (.slice (some ⟨g, 0, none⟩) ls.length cap) ls := by
  obtain ⟨xs, h1, h2⟩ := h.is
  refine ⟨_, (h1.stored (i * 6) u).1, fun j nc ne hj => ?_⟩
  obtain ⟨cv, ev, a1, a2, a3, a4⟩ := h2 j nc ne hj
  exact ⟨cv, ev, by rw [List.getElem?_set_ne (by omega)]; exact a1, by rw [List.getElem?_set_ne (by omega)]; exact a2, a3.stored _ _ _, a4.stored _ _ _⟩
/-- Something that a list of a node's holds is written over. -/
theorem Shape.inner {w : World} {base : Nat} {v : Value} {ls : List (Nat × Nat)} (h : Shape w base v ls) {e : TypeId} {z n : Nat} {b cap : Nat} (ho : OwnAny w base e z (.slice (some ⟨b, 0, none⟩) n cap) n) (he : e ≠ 38) (j : Nat) (u : Value) : Shape (w.setCell ⟨b, j, none⟩ u) base v ls := by
  obtain ⟨xs, h1, h2⟩ := h.is
  obtain ⟨ys, ho⟩ := ho
  rcases ho.2 with ⟨hv, _⟩ | ⟨g', cap', cur, hv, hb, hg, _⟩
  · exact absurd hv (by simp)
  · injection hv with e1 _ _
    injection e1 with e1
    injection e1 with e1
    subst e1
    refine ⟨xs, h1.kept (grown_set w b j u) (own_not h1 hg he), fun j' nc ne hj => ?_⟩
    obtain ⟨cv, ev, a1, a2, a3, a4⟩ := h2 j' nc ne hj
    exact ⟨cv, ev, a1, a2, a3.stored _ _ _, a4.stored _ _ _⟩
/-- How many pins and edges the nodes have. -/
def sizes (g : G) : List (Nat × Nat) := g.map fun x => (x.ctx.length, x.edges.length)
theorem NodesOwn.shape {w : World} {base Bw : Nat} {v : Value} {pre : G} {cs : List (Value × Value)} {x : Nd} {cv ev : Value} (h : NOwn w base Bw v pre cs x cv ev) : Shape w base v (sizes (pre ++ [x])) := by
  have hz := zip_len pre cs h.len
  refine ⟨_, by unfold sizes; rw [List.length_map, List.length_append]; exact h.row, fun i nc ne hi => ?_⟩
  unfold sizes at hi
  rw [List.getElem?_map] at hi
  by_cases hp : i < pre.length
  · rw [List.getElem?_append_left hp, List.getElem?_eq_getElem hp] at hi
    simp only [Option.map_some, Option.some.injEq, Prod.mk.injEq] at hi
    obtain ⟨rfl, rfl⟩ := hi
    have hc : i < cs.length := by rw [h.len]; exact hp
    obtain ⟨a1, a2⟩ := h.old i _ _ (List.getElem?_eq_getElem hp) (List.getElem?_eq_getElem hc)
    have key : ∀ (pre : G) (cs : List (Value × Value)) (i : Nat) (y : Nd) (c : Value × Value), pre[i]? = some y → cs[i]? = some c → (List.zipWith nodeCells pre cs).flatten[i * 6 + 4]? = some c.1 ∧ (List.zipWith nodeCells pre cs).flatten[i * 6 + 5]? = some c.2 := by
      intro pre
      induction pre with
      | nil => intro cs i y c hy; simp at hy
      | cons y0 r ih =>
        intro cs i y c hy hc
        cases cs with
        | nil => simp at hc
        | cons c0 s =>
          rw [List.zipWith_cons_cons, List.flatten_cons]
          cases i with
          | zero =>
            simp only [List.getElem?_cons_zero, Option.some.injEq] at hy hc
            subst hy; subst hc
            exact ⟨rfl, rfl⟩
          | succ i =>
            obtain ⟨b1, b2⟩ := ih s i y c (by simpa using hy) (by simpa using hc)
            have hl : (nodeCells y0 c0).length = 6 := rfl
            rw [List.getElem?_append_right (by omega), List.getElem?_append_right (by omega), hl]
            rw [show (i + 1) * 6 + 4 - 6 = i * 6 + 4 by omega, show (i + 1) * 6 + 5 - 6 = i * 6 + 5 by omega]
            exact ⟨b1, b2⟩
    obtain ⟨b1, b2⟩ := key pre cs i _ _ (List.getElem?_eq_getElem hp) (List.getElem?_eq_getElem hc)
    refine ⟨_, _, ?_, ?_, ⟨_, a1⟩, ⟨_, a2⟩⟩
    · rw [List.getElem?_append_left (by omega)]; exact b1
    · rw [List.getElem?_append_left (by omega)]; exact b2
  · have hlt : i < (pre ++ [x]).length := by
      refine Decidable.byContradiction fun hh => ?_
      rw [List.getElem?_eq_none (by omega)] at hi
      simp at hi
    rw [List.length_append, List.length_singleton] at hlt
    have he : i = pre.length := by omega
    subst he
    rw [List.getElem?_append_right (by omega), Nat.sub_self] at hi
    simp only [List.getElem?_cons_zero, Option.map_some, Option.some.injEq, Prod.mk.injEq] at hi
    obtain ⟨rfl, rfl⟩ := hi
    refine ⟨cv, ev, ?_, ?_, ⟨_, own_mono h.pins h.bw⟩, ⟨_, own_mono h.edges h.bw⟩⟩
    · rw [List.getElem?_append_right (by omega), show pre.length * 6 + 4 - (List.zipWith nodeCells pre cs).flatten.length = 4 by omega]; rfl
    · rw [List.getElem?_append_right (by omega), show pre.length * 6 + 5 - (List.zipWith nodeCells pre cs).flatten.length = 5 by omega]; rfl
theorem GraphOwn.shape {w : World} {base : Nat} {v : Value} {g : G} (h : GraphOwn w base v g) : Shape w base v (sizes g) := by
  rcases h with ⟨rfl, rfl⟩ | ⟨Bw, pre, cs, x, cv, ev, rfl, h⟩
  · exact ⟨[], World.ownsRow_nil _ _ _ _, fun i nc ne hi => by simp [sizes] at hi⟩
  · exact h.shape
end Lock
end Go.Proofs.YtjiifieafnjpgaaDoor
