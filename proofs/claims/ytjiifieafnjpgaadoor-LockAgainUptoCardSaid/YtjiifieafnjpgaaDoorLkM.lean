/- Rows of elements of several cells, that can be read; and graphs in them. No program stands here. -/
import Derived.Test.YtjiifieafnjpgaaDoorLkP
import Derived.Test.YtjiifieafnjpgaaDoorMem
import Derived.Deep.Quiet
import Derived.Below
namespace Go.Proofs.YtjiifieafnjpgaaDoor
open Go.RowKit
set_option linter.unusedSimpArgs false
set_option linter.unusedVariables false
/-- The slice v has elements of z cells each, in blocks below B. -/
structure RowZ (z : Nat) (w : World) (B : Nat) (v : Value) (xs : List (List Value)) : Prop where
  is : ∃ a cap, v = .slice a xs.length cap ∧ xs.length ≤ cap ∧ ∀ (i : Nat) (x : List Value), xs[i]? = some x → ∃ bk o, a = some ⟨bk, o, none⟩ ∧ bk < B ∧ ∀ (j : Nat) (u : Value), x[j]? = some u → w.cell? ⟨bk, o + i * z + j, none⟩ = some u
theorem RowZ.nil (z : Nat) (w : World) (B : Nat) : RowZ z w B (.slice none 0 0) [] := ⟨_, _, rfl, Nat.le_refl _, fun i u h => by simp at h⟩
theorem RowZ.form {z : Nat} {w : World} {B : Nat} {v : Value} {xs : List (List Value)} (h : RowZ z w B v xs) : ∃ a cap, v = .slice a xs.length cap := by
  obtain ⟨a, cap, rfl, _, _⟩ := h.is
  exact ⟨a, cap, rfl⟩
theorem RowZ.below {z : Nat} {w w' : World} {n B : Nat} {v : Value} {xs : List (List Value)} (h : RowZ z w B v xs) (hb : Below n w w') (hB : B ≤ n) : RowZ z w' B v xs := by
  obtain ⟨a, cap, rfl, hlc, hc⟩ := h.is
  refine ⟨a, cap, rfl, hlc, fun i x hx => ?_⟩
  obtain ⟨bk, o, ha, hk, hu⟩ := hc i x hx
  exact ⟨bk, o, ha, hk, fun j u hj => by rw [hb.cell (p := ⟨bk, o + i * z + j, none⟩) (Nat.lt_of_lt_of_le hk hB)]; exact hu j u hj⟩
theorem RowZ.mono {z : Nat} {w : World} {B B' : Nat} {v : Value} {xs : List (List Value)} (h : RowZ z w B v xs) (hB : B ≤ B') : RowZ z w B' v xs := by
  obtain ⟨a, cap, rfl, hlc, hc⟩ := h.is
  refine ⟨a, cap, rfl, hlc, fun i x hx => ?_⟩
  obtain ⟨bk, o, ha, hk, hu⟩ := hc i x hx
  exact ⟨bk, o, ha, by omega, hu⟩
theorem RowZ.some {z : Nat} {w : World} {B : Nat} {v : Value} {xs : List (List Value)} (h : RowZ z w B v xs) (hn : 0 < xs.length) : ∃ bk o cap, v = .slice (Option.some ⟨bk, o, none⟩) xs.length cap ∧ xs.length ≤ cap ∧ bk < B ∧ ∀ (i : Nat) (x : List Value), xs[i]? = Option.some x → ∀ (j : Nat) (u : Value), x[j]? = Option.some u → w.cell? ⟨bk, o + i * z + j, none⟩ = Option.some u := by
  obtain ⟨a, cap, rfl, hlc, hc⟩ := h.is
  obtain ⟨bk, o, ha, hk, _⟩ := hc 0 xs[0] (List.getElem?_eq_getElem hn)
  subst ha
  refine ⟨bk, o, cap, rfl, hlc, hk, fun i x hx j u hu => ?_⟩
  obtain ⟨bk', o', ha', _, h'⟩ := hc i x hx
  cases ha'
  exact h' j u hu
theorem RowZ.of_own {z : Nat} {w : World} {base : Nat} {e : TypeId} {v : Value} {n : Nat} {xs : List (List Value)} (hz : ∀ x ∈ xs, x.length = z) (hl : xs.length = n) (h : w.ownsRow base e z v n xs.flatten) : RowZ z w w.heap.size v xs := by
  rcases h.2 with ⟨rfl, h0⟩ | ⟨g, cap, cur, rfl, hb, hg, hnc, _⟩
  · have hx : xs = [] := List.length_eq_zero_iff.1 (by omega)
    subst hx
    subst h0
    exact ⟨none, 0, rfl, Nat.le_refl _, fun i u hu => by simp at hu⟩
  · have hgs : g < w.heap.size := by
      refine Decidable.byContradiction fun hh => ?_
      rw [Array.getElem?_eq_none (by omega)] at hg
      exact absurd hg (by simp)
    refine ⟨_, cap, by rw [hl], by omega, fun i x hx => ⟨g, 0, rfl, hgs, fun j u hu => ?_⟩⟩
    have hi : i < xs.length := (List.getElem?_eq_some_iff.1 hx).1
    have hxl := hz x (List.mem_of_getElem? hx)
    have hj : j < z := by have := (List.getElem?_eq_some_iff.1 hu).1; omega
    have key : ∀ (ys : List (List Value)), (∀ y ∈ ys, y.length = z) → ∀ (i : Nat), ys[i]? = Option.some x → ys.flatten[i * z + j]? = Option.some u := by
      intro ys
      induction ys with
      | nil => intro _ i hi; simp at hi
      | cons y r ih =>
        intro hy i hi
        have hyl := hy y List.mem_cons_self
        rw [List.flatten_cons]
        cases i with
        | zero =>
          simp only [List.getElem?_cons_zero, Option.some.injEq] at hi
          subst hi
          rw [Nat.zero_mul, Nat.zero_add, List.getElem?_append_left (by omega)]
          exact hu
        | succ i =>
          rw [List.getElem?_append_right (by rw [Nat.add_mul]; omega), show (i + 1) * z + j - y.length = i * z + j by rw [Nat.add_mul]; omega]
          exact ih (fun y hy' => hy y (List.mem_cons_of_mem _ hy')) i (by simpa using hi)
    have hk := key xs hz i hx
    have hlt : i * z + j < n * z := by
      have : (i + 1) * z ≤ n * z := Nat.mul_le_mul_right z (by omega)
      rw [Nat.add_mul] at this
      omega
    have := h.cellAt (i * z + j) hlt
    rw [hk] at this
    rw [show 0 + i * z + j = i * z + j by omega]
    exact this
namespace Lock
def pinCells (p : Pn) : List Value := [sv p.name, .int .i64 p.v.a, .int .i64 p.v.b, .int .i64 p.v.c]
def edgeCells (e : Eg) : List Value := [sv e.label, .int .i64 e.dst]
def PinsAt (w : World) (B : Nat) (v : Value) (l : List Pn) : Prop := RowZ 4 w B v (l.map pinCells)
def EdgesAt (w : World) (B : Nat) (v : Value) (l : List Eg) : Prop := RowZ 2 w B v (l.map edgeCells)
def nodeCells (x : Nd) (c : Value × Value) : List Value := [sv x.name, .int .i64 x.v.a, .int .i64 x.v.b, .int .i64 x.v.c, c.1, c.2]
/-- A graph's nodes, that can be read. -/
structure NodesAt (w : World) (B : Nat) (v : Value) (g : G) : Prop where
  is : ∃ cs : List (Value × Value), cs.length = g.length ∧ RowZ 6 w B v (List.zipWith nodeCells g cs) ∧ ∀ (i : Nat) (x : Nd) (c : Value × Value), g[i]? = some x → cs[i]? = some c → PinsAt w B c.1 x.ctx ∧ EdgesAt w B c.2 x.edges
theorem NodesAt.below {w w' : World} {n B : Nat} {v : Value} {g : G} (h : NodesAt w B v g) (hb : Below n w w') (hB : B ≤ n) : NodesAt w' B v g := by
  obtain ⟨cs, h1, h2, h3⟩ := h.is
  exact ⟨cs, h1, h2.below hb hB, fun i x c hx hc => ⟨RowZ.below (h3 i x c hx hc).1 hb hB, RowZ.below (h3 i x c hx hc).2 hb hB⟩⟩
theorem NodesAt.mono {w : World} {B B' : Nat} {v : Value} {g : G} (h : NodesAt w B v g) (hB : B ≤ B') : NodesAt w B' v g := by
  obtain ⟨cs, h1, h2, h3⟩ := h.is
  exact ⟨cs, h1, h2.mono hB, fun i x c hx hc => ⟨RowZ.mono (h3 i x c hx hc).1 hB, RowZ.mono (h3 i x c hx hc).2 hB⟩⟩
theorem NodesAt.nil (w : World) (B : Nat) : NodesAt w B (.slice none 0 0) [] := ⟨[], rfl, RowZ.nil _ _ _, fun i x c hx _ => by simp at hx⟩
theorem NodesAt.form {w : World} {B : Nat} {v : Value} {g : G} (h : NodesAt w B v g) : ∃ a cap, v = .slice a g.length cap := by
  obtain ⟨cs, h1, h2, h3⟩ := h.is
  obtain ⟨a, cap, e⟩ := h2.form
  refine ⟨a, cap, ?_⟩
  rw [e, List.length_zipWith, h1, Nat.min_self]
/-- Where a node's cells lie. -/
theorem NodesAt.at {w : World} {B : Nat} {v : Value} {g : G} (h : NodesAt w B v g) (hn : 0 < g.length) : ∃ bk o cap, v = .slice (some ⟨bk, o, none⟩) g.length cap ∧ g.length ≤ cap ∧ bk < B ∧ ∀ (i : Nat) (x : Nd), g[i]? = some x → ∃ cv ev, PinsAt w B cv x.ctx ∧ EdgesAt w B ev x.edges ∧
    w.cell? ⟨bk, o + i * 6, none⟩ = some (sv x.name) ∧ w.cell? ⟨bk, o + i * 6 + 1, none⟩ = some (.int .i64 x.v.a) ∧ w.cell? ⟨bk, o + i * 6 + 2, none⟩ = some (.int .i64 x.v.b) ∧ w.cell? ⟨bk, o + i * 6 + 3, none⟩ = some (.int .i64 x.v.c) ∧ w.cell? ⟨bk, o + i * 6 + 4, none⟩ = some cv ∧ w.cell? ⟨bk, o + i * 6 + 5, none⟩ = some ev := by
  obtain ⟨cs, h1, h2, h3⟩ := h.is
  have hl : (List.zipWith nodeCells g cs).length = g.length := by rw [List.length_zipWith, h1, Nat.min_self]
  obtain ⟨bk, o, cap, e, hc, hB, hu⟩ := h2.some (by omega)
  rw [hl] at e hc
  refine ⟨bk, o, cap, e, hc, hB, fun i x hx => ?_⟩
  have hi := (List.getElem?_eq_some_iff.1 hx).1
  have hcs : cs[i]? = some (cs[i]'(by omega)) := List.getElem?_eq_getElem (by omega)
  obtain ⟨hp, he⟩ := h3 i x _ hx hcs
  have hz : (List.zipWith nodeCells g cs)[i]? = some (nodeCells x (cs[i]'(by omega))) := by
    rw [List.getElem?_zipWith, hx, hcs]
  have hh := hu i _ hz
  refine ⟨_, _, hp, he, ?_, ?_, ?_, ?_, ?_, ?_⟩
  · exact hh 0 _ rfl
  · exact hh 1 _ rfl
  · exact hh 2 _ rfl
  · exact hh 3 _ rfl
  · exact hh 4 _ rfl
  · exact hh 5 _ rfl
end Lock
end Go.Proofs.YtjiifieafnjpgaaDoor

namespace Go.Proofs.YtjiifieafnjpgaaDoor
open Go.RowKit
set_option linter.unusedSimpArgs false
set_option linter.unusedVariables false
namespace Lock
theorem own_not {w : World} {b : Nat} {e : TypeId} {z : Nat} {v : Value} {n : Nat} {xs : List Value} (h : w.ownsRow b e z v n xs) {k : Nat} {cur : Array Value} {t : TypeId} {fr : Nat × Nat} (hk : w.heap[k]? = some (.cells cur t fr)) (ht : t ≠ e) : v.ownBlock = none ∨ v.ownBlock ≠ some k := by
  rcases h.2 with ⟨rfl, _⟩ | ⟨g, cap, cur', rfl, _, hg, _⟩
  · exact Or.inl rfl
  · refine Or.inr fun e' => ?_
    have : g = k := Option.some.inj e'
    subst this
    rw [hk] at hg
    simp only [Option.some.injEq, Obj.cells.injEq] at hg
    exact ht hg.2.1
theorem grown_set (w : World) (b i : Nat) (v : Value) : w.grownBy (w.setCell ⟨b, i, none⟩ v) (some b) :=
  ⟨rfl, rfl, rfl, by simp [World.setCell], fun k _ hk => Below.heap_setCell _ _ _ _ (fun e => hk (by rw [e]))⟩
/-- The nodes: those ahead, and the last one, whose rows are owned from Bw on. -/
structure NodesOwn (tn tp te : TypeId) (w : World) (base Bw : Nat) (v : Value) (pre : G) (cs : List (Value × Value)) (x : Nd) (cv ev : Value) : Prop where
  row : w.ownsRow base tn 6 v (pre.length + 1) ((List.zipWith nodeCells pre cs).flatten ++ nodeCells x (cv, ev))
  len : cs.length = pre.length
  old : ∀ (i : Nat) (y : Nd) (c : Value × Value), pre[i]? = some y → cs[i]? = some c → w.ownsRow base tp 4 c.1 y.ctx.length (y.ctx.map pinCells).flatten ∧ w.ownsRow base te 2 c.2 y.edges.length (y.edges.map edgeCells).flatten
  low : ∀ c ∈ cs, (∀ k, c.1.ownBlock = some k → k < Bw) ∧ (∀ k, c.2.ownBlock = some k → k < Bw)
  pins : w.ownsRow Bw tp 4 cv x.ctx.length (x.ctx.map pinCells).flatten
  edges : w.ownsRow Bw te 2 ev x.edges.length (x.edges.map edgeCells).flatten
  bw : base ≤ Bw
theorem NodesOwn.kept {tn tp te : TypeId} {w w' : World} {base Bw : Nat} {v : Value} {pre : G} {cs : List (Value × Value)} {x : Nd} {cv ev : Value} (h : NodesOwn tn tp te w base Bw v pre cs x cv ev) {row : Option Nat} (hg : w.grownBy w' row)
    (hr : ∀ k, row = some k → ∃ cur t fr, w.heap[k]? = some (.cells cur t fr) ∧ t ≠ tn ∧ t ≠ tp ∧ t ≠ te) : NodesOwn tn tp te w' base Bw v pre cs x cv ev := by
  have key : ∀ {b : Nat} {e : TypeId} {z : Nat} {u : Value} {n : Nat} {xs : List Value}, e = tn ∨ e = tp ∨ e = te → w.ownsRow b e z u n xs → w'.ownsRow b e z u n xs := fun {b e z u n xs} he hu => by
    refine hu.kept hg ?_
    cases row with
    | none => cases u.ownBlock <;> simp
    | some k =>
      obtain ⟨cur, t, fr, hk, h1, h2, h3⟩ := hr k rfl
      refine own_not hu hk ?_
      rcases he with rfl | rfl | rfl <;> assumption
  exact ⟨key (Or.inl rfl) h.row, h.len, fun i y c hy hc => ⟨key (Or.inr (Or.inl rfl)) (h.old i y c hy hc).1, key (Or.inr (Or.inr rfl)) (h.old i y c hy hc).2⟩, h.low, key (Or.inr (Or.inl rfl)) h.pins, key (Or.inr (Or.inr rfl)) h.edges, h.bw⟩
theorem NodesOwn.alloc {tn tp te : TypeId} {w : World} {base Bw : Nat} {v : Value} {pre : G} {cs : List (Value × Value)} {x : Nd} {cv ev : Value} (h : NodesOwn tn tp te w base Bw v pre cs x cv ev) (o : Obj) : NodesOwn tn tp te (w.alloc o) base Bw v pre cs x cv ev :=
  h.kept (World.grownBy_alloc w o none) fun k hk => by simp at hk
theorem NodesOwn.drew {tn tp te : TypeId} {w : World} {base Bw : Nat} {v : Value} {pre : G} {cs : List (Value × Value)} {x : Nd} {cv ev : Value} (h : NodesOwn tn tp te w base Bw v pre cs x cv ev) : NodesOwn tn tp te w.drew base Bw v pre cs x cv ev := ⟨h.row, h.len, h.old, h.low, h.pins, h.edges, h.bw⟩
theorem NodesOwn.below {tn tp te : TypeId} {w w' : World} {base Bw : Nat} {v : Value} {pre : G} {cs : List (Value × Value)} {x : Nd} {cv ev : Value} (h : NodesOwn tn tp te w base Bw v pre cs x cv ev) (hb : Below w.heap.size w w') : NodesOwn tn tp te w' base Bw v pre cs x cv ev :=
  h.kept (row := none) ⟨hb.os, hb.tape, hb.output, hb.size, fun k hk _ => hb.block k hk⟩ fun k hk => by simp at hk
theorem zip_len (pre : G) (cs : List (Value × Value)) (h : cs.length = pre.length) : (List.zipWith nodeCells pre cs).flatten.length = pre.length * 6 := by
  induction pre generalizing cs with
  | nil => simp
  | cons y r ih =>
    cases cs with
    | nil => simp at h
    | cons c s =>
      rw [List.zipWith_cons_cons, List.flatten_cons, List.length_append, ih s (by simpa using h)]
      show 6 + _ = _
      simp only [List.length_cons]
      omega
theorem set_behind {α : Type} : ∀ (a b : List α) (n i : Nat) (u : α), a.length = n → (a ++ b).set (n + i) u = a ++ b.set i u
  | [], b, n, i, u, h => by subst h; simp
  | y :: r, b, n, i, u, h => by
    subst h
    show (y :: (r ++ b)).set (r.length + 1 + i) u = _
    rw [show r.length + 1 + i = (r.length + i) + 1 by omega, List.set_cons_succ, set_behind r b r.length i u rfl]
    rfl
theorem NodesOwn.form {tn tp te : TypeId} {w : World} {base Bw : Nat} {v : Value} {pre : G} {cs : List (Value × Value)} {x : Nd} {cv ev : Value} (h : NodesOwn tn tp te w base Bw v pre cs x cv ev) : ∃ g cap, v = .slice (some ⟨g, 0, none⟩) (pre.length + 1) cap ∧ base ≤ g ∧ g < w.heap.size ∧ ∃ cur, w.heap[g]? = some (.cells cur tn (0, 0)) := by
  rcases h.row.2 with ⟨_, h0⟩ | ⟨g, cap, cur, rfl, hb, hg, _⟩
  · omega
  · refine ⟨g, cap, rfl, hb, ?_, cur, hg⟩
    refine Decidable.byContradiction fun hh => ?_
    rw [Array.getElem?_eq_none (by omega)] at hg
    exact absurd hg (by simp)
/-- A cell of the last node. -/
theorem NodesOwn.cell {tn tp te : TypeId} {w : World} {base Bw : Nat} {g cap : Nat} {pre : G} {cs : List (Value × Value)} {x : Nd} {cv ev : Value} (h : NodesOwn tn tp te w base Bw (.slice (some ⟨g, 0, none⟩) (pre.length + 1) cap) pre cs x cv ev) :
    w.cell? ⟨g, pre.length * 6 + 4, none⟩ = some cv ∧ w.cell? ⟨g, pre.length * 6 + 5, none⟩ = some ev := by
  have h1 := h.row.cellAt (pre.length * 6 + 4) (by omega)
  have h2 := h.row.cellAt (pre.length * 6 + 5) (by omega)
  have hz := zip_len pre cs h.len
  rw [List.getElem?_append_right (by omega), show pre.length * 6 + 4 - (List.zipWith nodeCells pre cs).flatten.length = 4 by omega] at h1
  rw [List.getElem?_append_right (by omega), show pre.length * 6 + 5 - (List.zipWith nodeCells pre cs).flatten.length = 5 by omega] at h2
  exact ⟨h1, h2⟩
theorem NodesOwn.free {tn tp te : TypeId} {w : World} {base Bw : Nat} {g cap : Nat} {pre : G} {cs : List (Value × Value)} {x : Nd} {cv ev : Value} (h : NodesOwn tn tp te w base Bw (.slice (some ⟨g, 0, none⟩) (pre.length + 1) cap) pre cs x cv ev) (j : Nat) : w.frozen? ⟨g, j, none⟩ = false := h.row.frozenAt j
/-- One pin more. -/
theorem NodesOwn.addPin {tn tp te : TypeId} (h1 : tn ≠ tp) (h2 : tn ≠ te) (h3 : tp ≠ te) {w w1 : World} {base Bw : Nat} {g cap : Nat} {pre : G} {cs : List (Value × Value)} {x : Nd} {cv ev : Value} (h : NodesOwn tn tp te w base Bw (.slice (some ⟨g, 0, none⟩) (pre.length + 1) cap) pre cs x cv ev)
    {p : Pn} {cv' : Value} (hown : w1.ownsRow Bw tp 4 cv' (x.ctx.length + 1) ((x.ctx.map pinCells).flatten ++ pinCells p)) (hg : w.grownBy w1 cv.ownBlock) :
    NodesOwn tn tp te (w1.setCell ⟨g, pre.length * 6 + 4, none⟩ cv') base Bw (.slice (some ⟨g, 0, none⟩) (pre.length + 1) cap) pre cs (Lock.addPin p x) cv' ev := by
  have hrow1 := h.row.kept hg (own_apart h.row h.pins h1)
  obtain ⟨cur, hcur⟩ : ∃ cur, w1.heap[g]? = some (.cells cur tn (0, 0)) := by
    rcases hrow1.2 with ⟨_, h0⟩ | ⟨g', cap', cur, hv, hb, hg', _⟩
    · omega
    · injection hv with e1 _ _
      injection e1 with e1
      injection e1 with e1
      subst e1
      exact ⟨cur, hg'⟩
  have hset := hrow1.stored (pre.length * 6 + 4) cv'
  rw [set_behind _ _ _ 4 cv' (zip_len pre cs h.len)] at hset
  have oldp : ∀ {b : Nat} {u : Value} {n : Nat} {xs : List Value}, (∀ k, u.ownBlock = some k → k < Bw) → w.ownsRow b tp 4 u n xs → w1.ownsRow b tp 4 u n xs := fun {b u n xs} hu ho => by
    refine ho.kept hg ?_
    cases hb : u.ownBlock with
    | none => exact Or.inl rfl
    | some k =>
      refine Or.inr fun e => ?_
      have := h.pins.lt k e.symm
      have := hu k hb
      omega
  have olde : ∀ {b : Nat} {u : Value} {n : Nat} {xs : List Value}, w.ownsRow b te 2 u n xs → w1.ownsRow b te 2 u n xs := fun {b u n xs} ho => ho.kept hg (own_apart ho h.pins h3.symm)
  have put : ∀ {b : Nat} {e : TypeId} {z : Nat} {u : Value} {n : Nat} {xs : List Value}, tn ≠ e → w1.ownsRow b e z u n xs → (w1.setCell ⟨g, pre.length * 6 + 4, none⟩ cv').ownsRow b e z u n xs := fun {b e z u n xs} he ho => ho.kept hset.2 (own_not ho hcur he)
  refine ⟨hset.1, h.len, fun i y c hy hc => ?_, h.low, ?_, ?_, h.bw⟩
  · obtain ⟨a1, a2⟩ := h.old i y c hy hc
    exact ⟨put h1 (oldp (h.low c (List.mem_of_getElem? hc)).1 a1), put h2 (olde a2)⟩
  · show World.ownsRow _ Bw tp 4 cv' (x.ctx ++ [p]).length ((x.ctx ++ [p]).map pinCells).flatten
    rw [List.length_append, List.map_append, List.flatten_append]
    have := put h1 hown
    simpa using this
  · exact put h2 (olde h.edges)
/-- One edge more. -/
theorem NodesOwn.addEdge {tn tp te : TypeId} (h1 : tn ≠ tp) (h2 : tn ≠ te) (h3 : tp ≠ te) {w w1 : World} {base Bw : Nat} {g cap : Nat} {pre : G} {cs : List (Value × Value)} {x : Nd} {cv ev : Value} (h : NodesOwn tn tp te w base Bw (.slice (some ⟨g, 0, none⟩) (pre.length + 1) cap) pre cs x cv ev)
    {p : Eg} {ev' : Value} (hown : w1.ownsRow Bw te 2 ev' (x.edges.length + 1) ((x.edges.map edgeCells).flatten ++ edgeCells p)) (hg : w.grownBy w1 ev.ownBlock) :
    NodesOwn tn tp te (w1.setCell ⟨g, pre.length * 6 + 5, none⟩ ev') base Bw (.slice (some ⟨g, 0, none⟩) (pre.length + 1) cap) pre cs (Lock.addEdge p x) cv ev' := by
  have hrow1 := h.row.kept hg (own_apart h.row h.edges h2)
  obtain ⟨cur, hcur⟩ : ∃ cur, w1.heap[g]? = some (.cells cur tn (0, 0)) := by
    rcases hrow1.2 with ⟨_, h0⟩ | ⟨g', cap', cur, hv, hb, hg', _⟩
    · omega
    · injection hv with e1 _ _
      injection e1 with e1
      injection e1 with e1
      subst e1
      exact ⟨cur, hg'⟩
  have hset := hrow1.stored (pre.length * 6 + 5) ev'
  rw [set_behind _ _ _ 5 ev' (zip_len pre cs h.len)] at hset
  have olde : ∀ {b : Nat} {u : Value} {n : Nat} {xs : List Value}, (∀ k, u.ownBlock = some k → k < Bw) → w.ownsRow b te 2 u n xs → w1.ownsRow b te 2 u n xs := fun {b u n xs} hu ho => by
    refine ho.kept hg ?_
    cases hb : u.ownBlock with
    | none => exact Or.inl rfl
    | some k =>
      refine Or.inr fun e => ?_
      have := h.edges.lt k e.symm
      have := hu k hb
      omega
  have oldp : ∀ {b : Nat} {u : Value} {n : Nat} {xs : List Value}, w.ownsRow b tp 4 u n xs → w1.ownsRow b tp 4 u n xs := fun {b u n xs} ho => ho.kept hg (own_apart ho h.edges h3)
  have put : ∀ {b : Nat} {e : TypeId} {z : Nat} {u : Value} {n : Nat} {xs : List Value}, tn ≠ e → w1.ownsRow b e z u n xs → (w1.setCell ⟨g, pre.length * 6 + 5, none⟩ ev').ownsRow b e z u n xs := fun {b e z u n xs} he ho => ho.kept hset.2 (own_not ho hcur he)
  refine ⟨hset.1, h.len, fun i y c hy hc => ?_, h.low, ?_, ?_, h.bw⟩
  · obtain ⟨a1, a2⟩ := h.old i y c hy hc
    exact ⟨put h1 (oldp a1), put h2 (olde (h.low c (List.mem_of_getElem? hc)).2 a2)⟩
  · exact put h1 (oldp h.pins)
  · show World.ownsRow _ Bw te 2 ev' (x.edges ++ [p]).length ((x.edges ++ [p]).map edgeCells).flatten
    rw [List.length_append, List.map_append, List.flatten_append]
    have := put h2 hown
    simpa using this
/-- One node more. -/
theorem NodesOwn.addNode {tn tp te : TypeId} (h1 : tn ≠ tp) (h2 : tn ≠ te) {w w1 : World} {base Bw : Nat} {v v' : Value} {pre : G} {cs : List (Value × Value)} {x : Nd} {cv ev : Value} (h : NodesOwn tn tp te w base Bw v pre cs x cv ev)
    {n : List UInt8} {u : Ve} (hown : w1.ownsRow base tn 6 v' (pre.length + 1 + 1) (((List.zipWith nodeCells pre cs).flatten ++ nodeCells x (cv, ev)) ++ nodeCells ⟨n, u, [], []⟩ (.slice none 0 0, .slice none 0 0))) (hg : w.grownBy w1 v.ownBlock) :
    NodesOwn tn tp te w1 base w1.heap.size v' (pre ++ [x]) (cs ++ [(cv, ev)]) ⟨n, u, [], []⟩ (.slice none 0 0) (.slice none 0 0) := by
  have key : ∀ {b : Nat} {e : TypeId} {z : Nat} {u : Value} {n : Nat} {xs : List Value}, tn ≠ e → w.ownsRow b e z u n xs → w1.ownsRow b e z u n xs := fun {b e z u n xs} he ho => ho.kept hg (own_apart ho h.row (fun e' => he e'.symm))
  have hs := hg.size
  refine ⟨?_, by simp [h.len], fun i y c hy hc => ?_, fun c hc => ?_, World.ownsRow_nil _ _ _ _, World.ownsRow_nil _ _ _ _, ?_⟩
  · rw [List.length_append, List.zipWith_append h.len.symm, List.flatten_append]
    simpa using hown
  · by_cases hi : i < pre.length
    · rw [List.getElem?_append_left hi] at hy
      rw [List.getElem?_append_left (by rw [h.len]; exact hi)] at hc
      obtain ⟨a1, a2⟩ := h.old i y c hy hc
      exact ⟨key h1 a1, key h2 a2⟩
    · rw [List.getElem?_append_right (by omega)] at hy
      rw [List.getElem?_append_right (by have := h.len; omega)] at hc
      have e0 : i - pre.length = 0 := by
        have := (List.getElem?_eq_some_iff.1 hy).1
        simp at this
        omega
      rw [e0] at hy
      rw [show i - cs.length = 0 by have := h.len; omega] at hc
      simp only [List.getElem?_cons_zero, Option.some.injEq] at hy hc
      subst hy
      subst hc
      exact ⟨key h1 (own_mono h.pins h.bw), key h2 (own_mono h.edges h.bw)⟩
  · rcases List.mem_append.1 hc with hc | hc
    · obtain ⟨i, hi, rfl⟩ := List.mem_iff_getElem.1 hc
      have hp : i < pre.length := by have := h.len; omega
      obtain ⟨a1, a2⟩ := h.old i pre[i] cs[i] (List.getElem?_eq_getElem hp) (List.getElem?_eq_getElem hi)
      exact ⟨fun k hk => by have := (a1.lt k hk).2; omega, fun k hk => by have := (a2.lt k hk).2; omega⟩
    · simp only [List.mem_singleton] at hc
      subst hc
      exact ⟨fun k hk => by have := (h.pins.lt k hk).2; omega, fun k hk => by have := (h.edges.lt k hk).2; omega⟩
  · have : v'.ownBlock ≠ none := by
      rcases hown.2 with ⟨_, h0⟩ | ⟨g, cap, cur, rfl, _⟩
      · omega
      · simp [Value.ownBlock]
    cases hv : v'.ownBlock with
    | none => exact absurd hv this
    | some k => have := hown.lt k hv; omega
/-- Of a row of rows: each element's cells. -/
theorem flat_len {α : Type} {f : α → List Value} {z : Nat} (hf : ∀ a, (f a).length = z) (l : List α) : (l.map f).flatten.length = l.length * z := by
  induction l with
  | nil => simp
  | cons a r ih => rw [List.map_cons, List.flatten_cons, List.length_append, ih, hf, List.length_cons, Nat.add_mul]; omega
theorem NodesOwn.at {tn tp te : TypeId} {w : World} {base Bw : Nat} {v : Value} {pre : G} {cs : List (Value × Value)} {x : Nd} {cv ev : Value} (h : NodesOwn tn tp te w base Bw v pre cs x cv ev) : NodesAt w w.heap.size v (pre ++ [x]) := by
  have pin : ∀ {b : Nat} {u : Value} {l : List Pn}, w.ownsRow b tp 4 u l.length (l.map pinCells).flatten → PinsAt w w.heap.size u l := fun {b u l} ho =>
    RowZ.of_own (by
      intro y hy
      obtain ⟨p, _, rfl⟩ := List.mem_map.1 hy
      rfl) (by rw [List.length_map]) ho
  have edg : ∀ {b : Nat} {u : Value} {l : List Eg}, w.ownsRow b te 2 u l.length (l.map edgeCells).flatten → EdgesAt w w.heap.size u l := fun {b u l} ho =>
    RowZ.of_own (by
      intro y hy
      obtain ⟨p, _, rfl⟩ := List.mem_map.1 hy
      rfl) (by rw [List.length_map]) ho
  refine ⟨cs ++ [(cv, ev)], by simp [h.len], ?_, fun i y c hy hc => ?_⟩
  · refine RowZ.of_own (n := pre.length + 1) (base := base) (e := tn) ?_ ?_ ?_
    · intro y hy
      obtain ⟨i, hi, rfl⟩ := List.mem_iff_getElem.1 hy
      rw [List.getElem_zipWith]
      rfl
    · rw [List.length_zipWith]; simp [h.len]
    · rw [List.zipWith_append h.len.symm, List.flatten_append]
      have := h.row
      simpa using this
  · by_cases hi : i < pre.length
    · rw [List.getElem?_append_left hi] at hy
      rw [List.getElem?_append_left (by rw [h.len]; exact hi)] at hc
      obtain ⟨a1, a2⟩ := h.old i y c hy hc
      exact ⟨pin a1, edg a2⟩
    · rw [List.getElem?_append_right (by omega)] at hy
      rw [List.getElem?_append_right (by have := h.len; omega)] at hc
      have e0 : i - pre.length = 0 := by
        have := (List.getElem?_eq_some_iff.1 hy).1
        simp at this
        omega
      rw [e0] at hy
      rw [show i - cs.length = 0 by have := h.len; omega] at hc
      simp only [List.getElem?_cons_zero, Option.some.injEq] at hy hc
      subst hy
      subst hc
      exact ⟨pin h.pins, edg h.edges⟩
end Lock
end Go.Proofs.YtjiifieafnjpgaaDoor

namespace Go.Proofs.YtjiifieafnjpgaaDoor
open Go.RowKit
set_option linter.unusedSimpArgs false
set_option linter.unusedVariables false
namespace Lock
theorem NodesOwn.mono {tn tp te : TypeId} {w : World} {base base' Bw : Nat} {v : Value} {pre : G} {cs : List (Value × Value)} {x : Nd} {cv ev : Value} (h : NodesOwn tn tp te w base Bw v pre cs x cv ev) (hb : base' ≤ base) : NodesOwn tn tp te w base' Bw v pre cs x cv ev :=
  ⟨own_mono h.row hb, h.len, fun i y c hy hc => ⟨own_mono (h.old i y c hy hc).1 hb, own_mono (h.old i y c hy hc).2 hb⟩, h.low, h.pins, h.edges, Nat.le_trans hb h.bw⟩
theorem steps_next {r : List (List (List UInt8))} {k : Nat} {l : List (List UInt8)} {g g' : G} (h : steps [nd0] (r.take k) = some g) (hl : r[k]? = some l) (hs : step g l = some g') : steps [nd0] (r.take (k + 1)) = some g' := by
  rw [List.take_add_one, hl]
  show steps [nd0] (r.take k ++ [l]) = _
  rw [steps_append, h]
  show steps g [l] = _
  unfold steps
  rw [hs]
  rfl
theorem steps_stop {r : List (List (List UInt8))} {k : Nat} {l : List (List UInt8)} {g : G} (h : steps [nd0] (r.take k) = some g) (hl : r[k]? = some l) (hs : step g l = none) : steps [nd0] r = none := by
  have hk := (List.getElem?_eq_some_iff.1 hl).1
  have he : r = r.take k ++ l :: r.drop (k + 1) := by
    conv => lhs; rw [← List.take_append_drop k r]
    rw [List.drop_eq_getElem_cons hk, (List.getElem?_eq_some_iff.1 hl).2]
  rw [he, steps_append, h]
  show steps g (l :: _) = none
  unfold steps
  rw [hs]
  rfl
theorem step_few {g : G} {l : List (List UInt8)} (h : l.length ≠ 3) : step g l = none := by
  match l, h with
  | [], _ => rfl
  | [a], _ => rfl
  | [a, b], _ => rfl
  | a :: b :: c :: d :: r, _ => rfl
  | [a, b, c], h => exact absurd rfl h
theorem step_node {pre : G} {x : Nd} {n t : List UInt8} (hv : (verOf t).2 = true) : step (pre ++ [x]) [wNode, n, t] = some ((pre ++ [x]) ++ [⟨n, (verOf t).1, [], []⟩]) := by
  rw [step_three]; unfold step3; rw [if_pos ⟨rfl, hv⟩]
theorem step_with {pre : G} {x : Nd} {n t : List UInt8} (hv : (verOf t).2 = true) (he : x.edges.length = 0) : step (pre ++ [x]) [wWith, n, t] = some (pre ++ [addPin ⟨n, (verOf t).1⟩ x]) := by
  rw [step_three]; unfold step3; rw [if_neg (by rintro ⟨e, _⟩; exact absurd e (by decide)), if_pos ⟨rfl, hv, by rw [lastEdges_snoc, he]⟩, upd_last]
theorem step_to {pre : G} {x : Nd} {n t : List UInt8} (hv : (Num.numAns t 128).2 = true) : step (pre ++ [x]) [wTo, n, t] = some (pre ++ [addEdge ⟨n, (Num.numAns t 128).1⟩ x]) := by
  rw [step_three]; unfold step3; rw [if_neg (by rintro ⟨e, _⟩; exact absurd e (by decide)), if_neg (by rintro ⟨e, _⟩; exact absurd e (by decide)), if_pos ⟨rfl, hv⟩, upd_last]
theorem step_bad {pre : G} {x : Nd} {k n t : List UInt8} (h1 : ¬ (k = wNode ∧ (verOf t).2 = true)) (h2 : ¬ (k = wWith ∧ (verOf t).2 = true ∧ x.edges.length = 0)) (h3 : ¬ (k = wTo ∧ (Num.numAns t 128).2 = true)) : step (pre ++ [x]) [k, n, t] = none := by
  rw [step_three]; unfold step3; rw [if_neg h1, if_neg (by rw [lastEdges_snoc]; exact h2), if_neg h3]
/-- What three lines' first two and the rest are read as. -/
def rest2 (r : List (List (List UInt8))) : Int × G := match steps [nd0] r with
  | some g => if may g then (0, g) else (22, [])
  | none => (22, [])
theorem rest2_none {r : List (List (List UInt8))} (h : steps [nd0] r = none) : rest2 r = (22, []) := by unfold rest2; rw [h]
theorem rest2_no {r : List (List (List UInt8))} {g : G} (h : steps [nd0] r = some g) (hm : may g = false) : rest2 r = (22, []) := by unfold rest2; rw [h]; simp [hm]
theorem rest2_yes {r : List (List (List UInt8))} {g : G} (h : steps [nd0] r = some g) (hm : may g = true) : rest2 r = (0, g) := by unfold rest2; rw [h]; simp [hm]
/-- The first node's cells, as they are made. -/
theorem NodesOwn.start {tn tp te : TypeId} {w : World} (o : Obj) : NodesOwn tn tp te ((w.alloc (.cells #[.string ⟨#[]⟩, .int .i64 0, .int .i64 0, .int .i64 0, .slice none 0 0, .slice none 0 0] tn)).alloc o) w.heap.size w.heap.size (.slice (some ⟨w.heap.size, 0, none⟩) 1 1) [] [] nd0 (.slice none 0 0) (.slice none 0 0) := by
  have h := World.ownsRow_lit (e := tn) (size := 6) (base := w.heap.size) w #[.string ⟨#[]⟩, .int .i64 0, .int .i64 0, .int .i64 0, .slice none 0 0, .slice none 0 0] 1 (Nat.le_refl _) (by decide) rfl
  exact ⟨h.alloc o, rfl, fun i y c hy _ => by simp at hy, fun c hc => by simp at hc, World.ownsRow_nil _ _ _ _, World.ownsRow_nil _ _ _ _, Nat.le_refl _⟩
/-- What is stored to behind an append. -/
theorem NodesOwn.ctx_free {tn tp te : TypeId} (h1 : tn ≠ tp) {w w1 : World} {base Bw : Nat} {g cap : Nat} {pre : G} {cs : List (Value × Value)} {x : Nd} {cv ev : Value} (h : NodesOwn tn tp te w base Bw (.slice (some ⟨g, 0, none⟩) (pre.length + 1) cap) pre cs x cv ev) (hg : w.grownBy w1 cv.ownBlock) :
    w1.cell? ⟨g, pre.length * 6 + 4, none⟩ = some cv ∧ w1.frozen? ⟨g, pre.length * 6 + 4, none⟩ = false := by
  have hrow := h.row.kept hg (own_apart h.row h.pins h1)
  have h2 := hrow.cellAt (pre.length * 6 + 4) (by omega)
  have hz := zip_len pre cs h.len
  rw [List.getElem?_append_right (by omega), show pre.length * 6 + 4 - (List.zipWith nodeCells pre cs).flatten.length = 4 by omega] at h2
  exact ⟨h2, hrow.frozenAt _⟩
theorem NodesOwn.edges_free {tn tp te : TypeId} (h1 : tn ≠ te) {w w1 : World} {base Bw : Nat} {g cap : Nat} {pre : G} {cs : List (Value × Value)} {x : Nd} {cv ev : Value} (h : NodesOwn tn tp te w base Bw (.slice (some ⟨g, 0, none⟩) (pre.length + 1) cap) pre cs x cv ev) (hg : w.grownBy w1 ev.ownBlock) :
    w1.cell? ⟨g, pre.length * 6 + 5, none⟩ = some ev ∧ w1.frozen? ⟨g, pre.length * 6 + 5, none⟩ = false := by
  have hrow := h.row.kept hg (own_apart h.row h.edges h1)
  have h2 := hrow.cellAt (pre.length * 6 + 5) (by omega)
  have hz := zip_len pre cs h.len
  rw [List.getElem?_append_right (by omega), show pre.length * 6 + 5 - (List.zipWith nodeCells pre cs).flatten.length = 5 by omega] at h2
  exact ⟨h2, hrow.frozenAt _⟩
theorem own_far' {w : World} {b : Nat} {e : TypeId} {z : Nat} {v : Value} {m : Nat} {xs : List Value} (h : w.ownsRow b e z v m xs) {k : Nat} {cur : Array Value} {t : TypeId} {fr : Nat × Nat} (hk : w.heap[k]? = some (.cells cur t fr)) (ht : t ≠ e) : some k ≠ v.ownBlock := fun e' => by
  rcases own_not h hk ht with h' | h'
  · rw [h'] at e'; exact absurd e' (by simp)
  · exact h' e'.symm
end Lock
end Go.Proofs.YtjiifieafnjpgaaDoor
