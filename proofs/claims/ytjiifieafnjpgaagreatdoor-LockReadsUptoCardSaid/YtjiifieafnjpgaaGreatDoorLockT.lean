/- The document's Parse: its nodes in memory, and what a line more does. -/
import Derived.Test.YtjiifieafnjpgaaGreatDoorLockW6
import Derived.Test.YtjiifieafnjpgaaGreatDoorLkM
namespace Go.Proofs.YtjiifieafnjpgaaGreatDoor
open Go.RowKit
set_option linter.unusedSimpArgs false
set_option linter.unusedVariables false
namespace Lock
/-- The nodes so far: none, or those of a graph, the last one's lists no longer than k. -/
def RS (w : World) (base k : Nat) (v : Value) (g : G) : Prop := (g = [] ∧ v = .slice none 0 0) ∨ ∃ Bw pre cs x cv ev, g = pre ++ [x] ∧ NodesOwn 40 47 49 w base Bw v pre cs x cv ev ∧ Bw ≤ w.heap.size ∧ x.ctx.length ≤ k ∧ x.edges.length ≤ k
theorem RS.at {w : World} {base k : Nat} {v : Value} {g : G} (h : RS w base k v g) : NodesAt w w.heap.size v g := by
  rcases h with ⟨rfl, rfl⟩ | ⟨Bw, pre, cs, x, cv, ev, rfl, h, _⟩
  · exact NodesAt.nil _ _
  · exact h.at
theorem RS.below {w w' : World} {base k : Nat} {v : Value} {g : G} (h : RS w base k v g) (hb : Below w.heap.size w w') : RS w' base k v g := by
  rcases h with ⟨rfl, rfl⟩ | ⟨Bw, pre, cs, x, cv, ev, rfl, h, h1, h2⟩
  · exact Or.inl ⟨rfl, rfl⟩
  · exact Or.inr ⟨Bw, pre, cs, x, cv, ev, rfl, h.below hb, Nat.le_trans h1 hb.size, h2⟩
theorem RS.mono {w : World} {base k k' : Nat} {v : Value} {g : G} (h : RS w base k v g) (hk : k ≤ k') : RS w base k' v g := by
  rcases h with ⟨rfl, rfl⟩ | ⟨Bw, pre, cs, x, cv, ev, rfl, h, h1, h2, h3⟩
  · exact Or.inl ⟨rfl, rfl⟩
  · exact Or.inr ⟨Bw, pre, cs, x, cv, ev, rfl, h, h1, by omega, by omega⟩
/-- Its row, and what one node more makes of it. -/
theorem RS.row {w : World} {base k : Nat} {v : Value} {g : G} (h : RS w base k v g) : ∃ xs, w.ownsRow base 40 6 v g.length xs ∧
    ∀ (w1 : World) (v' : Value) (n : List UInt8) (u : Ve) (k' : Nat), w.grownBy w1 v.ownBlock → w1.ownsRow base 40 6 v' (g.length + 1) (xs ++ nodeCells ⟨n, u, [], []⟩ (.slice none 0 0, .slice none 0 0)) → RS w1 base k' v' (g ++ [⟨n, u, [], []⟩]) := by
  rcases h with ⟨rfl, rfl⟩ | ⟨Bw, pre, cs, x, cv, ev, rfl, h, h1, h2, h3⟩
  · refine ⟨[], World.ownsRow_nil _ _ _ _, fun w1 v' n u k' hg ho => ?_⟩
    refine Or.inr ⟨w1.heap.size, [], [], ⟨n, u, [], []⟩, _, _, rfl, ⟨ho, rfl, fun i y c hy _ => by simp at hy, fun c hc => by simp at hc, World.ownsRow_nil _ _ _ _, World.ownsRow_nil _ _ _ _, ?_⟩, Nat.le_refl _, Nat.zero_le _, Nat.zero_le _⟩
    rcases ho.2 with ⟨_, h0⟩ | ⟨g, cap, cur, rfl, hb, hg', _⟩
    · exact absurd h0 (by simp)
    · have := ho.lt g rfl
      omega
  · refine ⟨_, by rw [List.length_append]; exact h.row, fun w1 v' n u k' hg ho => ?_⟩
    have := NodesOwn.addNode (by decide) (by decide) h (v' := v') (n := n) (u := u) (by rw [List.length_append] at ho; exact ho) hg
    exact Or.inr ⟨_, pre ++ [x], _, _, _, _, rfl, this, Nat.le_refl _, Nat.zero_le _, Nat.zero_le _⟩
theorem tk_drop {ls : List (List (List UInt8))} {i : Nat} {l : List (List UInt8)} (hi : 1 ≤ i) (hl : ls[i]? = some l) : (ls.take (i + 1)).drop 1 = (ls.take i).drop 1 ++ [l] := by
  have hk := (List.getElem?_eq_some_iff.1 hl).1
  rw [List.take_add_one, hl]
  show (ls.take i ++ [l]).drop 1 = _
  rw [List.drop_append_of_le_length (by rw [List.length_take]; omega)]
theorem rsteps_next {ls : List (List (List UInt8))} {i : Nat} {l : List (List UInt8)} {g g' : G} (hi : 1 ≤ i) (h : rsteps [] ((ls.take i).drop 1) = some g) (hl : ls[i]? = some l) (hs : rstep g l = some g') : rsteps [] ((ls.take (i + 1)).drop 1) = some g' := by
  rw [tk_drop hi hl, rsteps_append, h]
  show rsteps g [l] = _
  unfold rsteps
  rw [hs]
  rfl
theorem rsteps_stop {ls : List (List (List UInt8))} {i : Nat} {l : List (List UInt8)} {g : G} (hi : 1 ≤ i) (h : rsteps [] ((ls.take i).drop 1) = some g) (hl : ls[i]? = some l) (hs : rstep g l = none) : rsteps [] (ls.drop 1) = none := by
  have hk := (List.getElem?_eq_some_iff.1 hl).1
  have he : ls.drop 1 = (ls.take i).drop 1 ++ l :: ls.drop (i + 1) := by
    conv => lhs; rw [← List.take_append_drop i ls]
    rw [List.drop_append_of_le_length (by rw [List.length_take]; omega), List.drop_eq_getElem_cons hk, (List.getElem?_eq_some_iff.1 hl).2]
  rw [he, rsteps_append, h]
  show rsteps g (l :: _) = none
  unfold rsteps
  rw [hs]
  rfl
theorem rstep_root {g : G} {w : List (List UInt8)} {k : List UInt8} {r : List (List UInt8)} (h : w = k :: r) (hk : k = wRoot) : rstep g w = some (g ++ [nd0]) := by
  subst h; unfold rstep; simp only [if_pos hk]
theorem rstep_few {g : G} {k : List UInt8} {r : List (List UInt8)} (hk : ¬ k = wRoot) (h : (k :: r).length ≠ 3) : rstep g (k :: r) = none := by
  unfold rstep
  simp only [if_neg hk]
  match r, h with
  | [], _ => rfl
  | [a], _ => rfl
  | a :: b :: c :: d, _ => rfl
  | [a, b], h => exact absurd rfl h
theorem rstep_node {g : G} {n t : List UInt8} : rstep g [wNode, n, t] = some (g ++ [⟨n, (verOf t).1, [], []⟩]) := by
  rw [rstep_three, if_neg (by decide), if_pos rfl]
theorem rstep_none {k n t : List UInt8} (h1 : ¬ k = wRoot) (h2 : ¬ k = wNode) : rstep [] [k, n, t] = some [] := by
  rw [rstep_three, if_neg h1, if_neg h2, if_pos rfl]
theorem rstep_with {pre : G} {x : Nd} {n t : List UInt8} : rstep (pre ++ [x]) [wWith, n, t] = some (pre ++ [addPin ⟨n, (verOf t).1⟩ x]) := by
  rw [rstep_three, if_neg (by decide), if_neg (by decide), if_neg (by simp), if_pos rfl, upd_last]
theorem rstep_to {pre : G} {x : Nd} {k n t : List UInt8} (h1 : ¬ k = wRoot) (h2 : ¬ k = wNode) (h3 : ¬ k = wWith) : rstep (pre ++ [x]) [k, n, t] = some (pre ++ [addEdge ⟨n, (Num.numAns t 128).1⟩ x]) := by
  rw [rstep_three, if_neg h1, if_neg h2, if_neg (by simp), if_neg h3, upd_last]
/-- What the document reads of lines. -/
def rrest (T : List UInt8) (ls : List (List (List UInt8))) : Int × G := match rsteps [] (ls.drop 1) with
  | some g => if may g = true ∧ text g = T then (0, g) else (22, [])
  | none => (22, [])
theorem rparse_some {s : ByteArray} {ls : List (List (List UInt8))} (h1 : ¬ 1048576 < s.size) (h : Scan.spec s.data.toList = .inr ls) : rparse s.data.toList = rrest s.data.toList ls := by
  unfold rparse
  rw [if_neg (by rw [bal_length]; exact h1), h]
  rfl
theorem rrest_none {T : List UInt8} {ls : List (List (List UInt8))} (h : rsteps [] (ls.drop 1) = none) : rrest T ls = (22, []) := by unfold rrest; rw [h]
theorem rrest_no {T : List UInt8} {ls : List (List (List UInt8))} {g : G} (h : rsteps [] (ls.drop 1) = some g) (hn : ¬ (may g = true ∧ text g = T)) : rrest T ls = (22, []) := by unfold rrest; rw [h]; simp only [if_neg hn]
theorem rrest_yes {T : List UInt8} {ls : List (List (List UInt8))} {g : G} (h : rsteps [] (ls.drop 1) = some g) (hm : may g = true) (ht : text g = T) : rrest T ls = (0, g) := by unfold rrest; rw [h]; simp only [hm, ht, and_self, if_true]
end Lock
open Lock
/-- What the document's Parse answers. -/
def RParsePost (T : List UInt8) (w : World) (e : Ending) (w' : World) : Prop := ∃ v, e = .returned (.tuple #[.agg #[v], .int .i64 (Lock.rparse T).1]) ∧ NodesAt w' w'.heap.size v (Lock.rparse T).2 ∧ Below w.heap.size w w'
theorem RParsePost.bad {T : List UInt8} {w w' : World} {c : Int} (h : Lock.rparse T = (c, [])) (hb : Below w.heap.size w w') : RParsePost T w (.returned (.tuple #[.agg #[.slice none 0 0], .int .i64 c])) w' :=
  ⟨_, by rw [h], by rw [h]; exact NodesAt.nil _ _, hb⟩
end Go.Proofs.YtjiifieafnjpgaaGreatDoor
