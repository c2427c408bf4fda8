/- A graph that came in: what its rows hold, and its bulk. -/
import Derived.Test.YtjiifieafnjpgaaDoorRows
import Derived.Test.YtjiifieafnjpgaaDoorLkM
import Derived.WideShapes
import Derived.DataShut
import Derived.Deep.Strs
import Derived.OpenShut
namespace Go.Proofs.YtjiifieafnjpgaaDoor
open Go.RowKit Go.Deep Go.ChangeShapes Go.WideShapes
set_option linter.unusedSimpArgs false
set_option linter.unusedVariables false
namespace Opg
open Lock
instance : Inhabited Pn := ⟨⟨[], v0⟩⟩
instance : Inhabited Eg := ⟨⟨[], 0⟩⟩
instance : Inhabited Nd := ⟨nd0⟩
theorem cell_lt {w : World} {a : Addr} {v : Value} (h : w.cell? a = some v) : a.block < w.heap.size := by
  refine Decidable.byContradiction fun hh => ?_
  unfold World.cell? at h
  rw [Array.getElem?_eq_none (by simpa using hh)] at h
  exact absurd h (by simp)
theorem add_form {bk o i : Nat} : (⟨bk, o, none⟩ : Addr).add i = ⟨bk, o + i, none⟩ := by
  simp only [Addr.add]
  split
  · next h0 => rw [h0]; rfl
  · rfl
theorem fld {fs : Array Field} {L : List (TypeId × Nat)} (hs : fs.toList.map (fun f => (f.type, f.offset)) = L) {i : Nat} {t : TypeId} {o : Nat} (hL : L[i]? = some (t, o)) : ∃ f, fs[i]? = some f ∧ f.type = t ∧ f.offset = o := by
  rw [← hs, List.getElem?_map] at hL
  cases h : fs.toList[i]? with
  | none => rw [h] at hL; simp at hL
  | some f =>
    rw [h] at hL
    simp only [Option.map_some, Option.some.injEq, Prod.mk.injEq] at hL
    exact ⟨f, by simpa using h, hL.1, hL.2⟩
/-- A struct's fields, one by one. -/
theorem open_fields {H : Type} {enc : TypeId × Value → H} {W : World} {base fuel : Nat} {spare : Nat → Bool} {held : Bool} {t : TypeId} {cs : List Value} {x : DataW H × List MemPlace} {L : List (TypeId × Nat)}
    (ht : Tryd.prog.underlying t = some (.struct (Tryd.prog.fieldsOf t))) (hs : (Tryd.prog.fieldsOf t).toList.map (fun f => (f.type, f.offset)) = L)
    (h : DataW.trod enc Tryd.prog W base spare held fuel t cs = some x) :
    ∃ (xs : List (DataW H × List MemPlace)) (n : Nat), x.1 = .agg (xs.map (·.1)) ∧ cs.length = Tryd.prog.cellsOf t ∧ xs.length = L.length ∧
      ∀ (i : Nat) (u : TypeId) (o : Nat), L[i]? = some (u, o) → DataW.trod enc Tryd.prog W base spare held n u ((cs.drop o).take (Tryd.prog.cellsOf u)) = xs[i]? := by
  obtain ⟨xs, n, _, rfl, hl, hlen, hf⟩ := DataW.trod_struct ht h
  refine ⟨xs, n, rfl, hl, by rw [hlen, ← hs]; simp, fun i u o hL => ?_⟩
  obtain ⟨f, h1, rfl, rfl⟩ := fld hs hL
  exact hf i f h1
theorem bulk_each {H : Type} (D : Nat → DataW H) (n : Nat) (c : Nat) (h : ∀ i, i < n → c ≤ Rows.uptoBulk (D i)) : n * c ≤ Rows.uptoBulkAll ((List.range n).map D) ∧ ∀ i, i < n → Rows.uptoBulk (D i) ≤ Rows.uptoBulkAll ((List.range n).map D) := by
  have key : ∀ l : List Nat, (∀ i ∈ l, i < n) → l.length * c ≤ Rows.uptoBulkAll (l.map D) ∧ ∀ i ∈ l, Rows.uptoBulk (D i) ≤ Rows.uptoBulkAll (l.map D) := by
    intro l
    induction l with
    | nil => intro _; exact ⟨by simp, fun d hd => by simp at hd⟩
    | cons x r ih =>
      intro hx
      have h1 := h x (hx x List.mem_cons_self)
      have h2 := ih fun i hi => hx i (List.mem_cons_of_mem _ hi)
      simp only [List.map_cons, Rows.uptoBulkAll, List.length_cons]
      refine ⟨by rw [Nat.add_mul]; omega, fun i hi => ?_⟩
      rcases List.mem_cons.1 hi with rfl | hi
      · omega
      · have := h2.2 i hi; omega
  have := key (List.range n) fun i hi => List.mem_range.1 hi
  rw [List.length_range] at this
  exact ⟨this.1, fun i hi => this.2 i (List.mem_range.2 hi)⟩
/-- A slice whose elements are opened by f. -/
theorem open_rowz {H : Type} {enc : TypeId × Value → H} {W : World} {base fuel : Nat} {spare : Nat → Bool} {held : Bool} {α : Type} [Inhabited α] {t e : TypeId} {z : Nat} (f : α → List Value) (q : α → DataW H → Prop) {v : Value} {d : DataW H} {p : List MemPlace}
    (ht : Tryd.prog.underlying t = some (.slice e)) (hz : Tryd.prog.cellsOf e = z) (hz0 : 0 < z) (hf : ∀ a, (f a).length = z)
    (hop : ∀ (n : Nat) (cs : List Value) (x : DataW H × List MemPlace), DataW.trod enc Tryd.prog W base spare held n e cs = some x → ∃ a, cs = f a ∧ q a x.1)
    (h : DataW.trod enc Tryd.prog W base spare held fuel t [v] = some (d, p)) :
    ∃ l : List α, RowZ z W W.heap.size v (l.map f) ∧ (∃ D : Nat → DataW H, Rows.uptoBulkAll ((List.range l.length).map D) ≤ Rows.uptoBulk d ∧ ∀ (i : Nat) (a : α), l[i]? = some a → q a (D i)) := by
  rcases open_slice ht h with ⟨hv, hx⟩ | ⟨a, len, cap, m, n, D, Pl, hv, hb, hl, hm, hmm, hx, hc⟩
  · simp only [List.cons.injEq, and_true] at hv
    subst hv
    exact ⟨[], RowZ.nil _ _ _, fun _ => .nil, by simp [Rows.uptoBulkAll], fun i a ha => by simp at ha⟩
  · simp only [List.cons.injEq, and_true] at hv
    subst hv
    simp only [Prod.mk.injEq] at hx
    obtain ⟨rfl, _⟩ := hx
    have hlm : len ≤ m := by rw [hmm]; split <;> omega
    rw [hz] at hc
    obtain ⟨L, hL⟩ := choose_lt (α := α) (n := len) (p := fun i x => (∀ j, j < z → W.cell? ((a.add (i * z)).add j) = (f x)[j]?) ∧ q x (D i)) fun i hi => by
      obtain ⟨cs, hcs, htr⟩ := hc i (by omega)
      obtain ⟨x, rfl, hbk⟩ := hop _ _ _ htr
      obtain ⟨_, _, hcell⟩ := World.cells?_some hcs
      exact ⟨x, hcell, hbk⟩
    rw [Rows.uptoBulk]
    refine ⟨(List.range len).map L, ?_, D, by rw [List.length_map, List.length_range]; omega, fun i a ha => ?_⟩
    rotate_left
    · rw [List.getElem?_map] at ha
      by_cases hi : i < len
      · rw [List.getElem?_range hi] at ha
        simp only [Option.map_some, Option.some.injEq] at ha
        subst ha
        exact (hL i hi).2
      · rw [List.getElem?_eq_none (by simpa using hi)] at ha
        simp at ha
    rcases Nat.eq_zero_or_pos len with h0 | h0
    · subst h0
      exact ⟨⟨some a, cap, rfl, Nat.zero_le _, fun i d hd => by simp at hd⟩⟩
    have c00 := (hL 0 h0).1 0 hz0
    rw [List.getElem?_eq_getElem (by rw [hf]; exact hz0)] at c00
    obtain ⟨bk, o, sp⟩ := a
    have hsp : sp = none := by
      cases sp with
      | none => rfl
      | some x =>
        rw [show ((⟨bk, o, some x⟩ : Addr).add (0 * z)).add 0 = ⟨bk, o, some x⟩ by simp [Addr.add]] at c00
        unfold World.cell? at c00
        simp only at c00
        cases hh : W.heap[bk]? with
        | none => rw [hh] at c00; simp at c00
        | some ob => rw [hh] at c00; cases ob <;> simp at c00
    subst hsp
    refine ⟨⟨some ⟨bk, o, none⟩, cap, by simp, by simpa using hl, fun i x hx => ⟨bk, o, rfl, ?_, fun j u hu => ?_⟩⟩⟩
    · rw [add_form, add_form] at c00
      exact cell_lt c00
    · rw [List.getElem?_map, List.getElem?_map] at hx
      by_cases hi : i < len
      · rw [List.getElem?_range hi] at hx
        simp only [Option.map_some, Option.some.injEq] at hx
        subst hx
        have hj : j < z := by
          have := (List.getElem?_eq_some_iff.1 hu).1
          rwa [hf] at this
        have := (hL i hi).1 j hj
        rw [add_form, add_form, hu] at this
        exact this
      · rw [List.getElem?_eq_none (by simpa using hi)] at hx
        simp at hx
theorem cellsInt : Tryd.prog.cellsOf 3 = 1 := by kernel_rfl
theorem cellsStr : Tryd.prog.cellsOf 9 = 1 := by kernel_rfl
theorem cellsVer : Tryd.prog.cellsOf 34 = 3 := by kernel_rfl
theorem cellsPin : Tryd.prog.cellsOf 42 = 4 := by kernel_rfl
theorem cellsEdge : Tryd.prog.cellsOf 40 = 2 := by kernel_rfl
theorem cellsNode : Tryd.prog.cellsOf 38 = 6 := by kernel_rfl
theorem cellsPins : Tryd.prog.cellsOf 35 = 1 := by kernel_rfl
theorem cellsEdges : Tryd.prog.cellsOf 36 = 1 := by kernel_rfl
theorem cellsNodes : Tryd.prog.cellsOf 22 = 1 := by kernel_rfl
theorem verStruct : Tryd.prog.underlying 34 = some (.struct (Tryd.prog.fieldsOf 34)) := by kernel_rfl
theorem pinStruct : Tryd.prog.underlying 42 = some (.struct (Tryd.prog.fieldsOf 42)) := by kernel_rfl
theorem edgeStruct : Tryd.prog.underlying 40 = some (.struct (Tryd.prog.fieldsOf 40)) := by kernel_rfl
theorem nodeStruct : Tryd.prog.underlying 38 = some (.struct (Tryd.prog.fieldsOf 38)) := by kernel_rfl
theorem graphStruct : Tryd.prog.underlying 24 = some (.struct (Tryd.prog.fieldsOf 24)) := by kernel_rfl
theorem verFields : (Tryd.prog.fieldsOf 34).toList.map (fun f => (f.type, f.offset)) = [(3, 0), (3, 1), (3, 2)] := by kernel_rfl
theorem pinFields : (Tryd.prog.fieldsOf 42).toList.map (fun f => (f.type, f.offset)) = [(9, 0), (34, 1)] := by kernel_rfl
theorem edgeFields : (Tryd.prog.fieldsOf 40).toList.map (fun f => (f.type, f.offset)) = [(9, 0), (3, 1)] := by kernel_rfl
theorem nodeFields : (Tryd.prog.fieldsOf 38).toList.map (fun f => (f.type, f.offset)) = [(9, 0), (34, 1), (35, 4), (36, 5)] := by kernel_rfl
theorem graphFields : (Tryd.prog.fieldsOf 24).toList.map (fun f => (f.type, f.offset)) = [(22, 0)] := by kernel_rfl
section
variable {H : Type} {enc : TypeId × Value → H} {W : World} {base fuel : Nat} {spare : Nat → Bool} {held : Bool} {cs : List Value} {x : DataW H × List MemPlace}
theorem len_1 {α : Type} {l : List α} (h : l.length = 1) : ∃ x0, l = [x0] := by
  match l, h with
  | [x0], _ => exact ⟨x0, rfl⟩
theorem len_2 {α : Type} {l : List α} (h : l.length = 2) : ∃ x0 x1, l = [x0, x1] := by
  match l, h with
  | [x0, x1], _ => exact ⟨x0, x1, rfl⟩
theorem len_3 {α : Type} {l : List α} (h : l.length = 3) : ∃ x0 x1 x2, l = [x0, x1, x2] := by
  match l, h with
  | [x0, x1, x2], _ => exact ⟨x0, x1, x2, rfl⟩
theorem len_4 {α : Type} {l : List α} (h : l.length = 4) : ∃ x0 x1 x2 x3, l = [x0, x1, x2, x3] := by
  match l, h with
  | [x0, x1, x2, x3], _ => exact ⟨x0, x1, x2, x3, rfl⟩
theorem len_6 {α : Type} {l : List α} (h : l.length = 6) : ∃ x0 x1 x2 x3 x4 x5, l = [x0, x1, x2, x3, x4, x5] := by
  match l, h with
  | [x0, x1, x2, x3, x4, x5], _ => exact ⟨x0, x1, x2, x3, x4, x5, rfl⟩
theorem some_of {n : Nat} {xs : List (DataW H × List MemPlace)} (h : xs.length = n) {i : Nat} (hi : i < n) : ∃ y, xs[i]? = some y := ⟨_, List.getElem?_eq_getElem (by omega)⟩
theorem open_ve (h : DataW.trod enc Tryd.prog W base spare held fuel 34 cs = some x) : ∃ v : Ve, cs = [.int .i64 v.a, .int .i64 v.b, .int .i64 v.c] := by
  obtain ⟨xs, n, hx, hl, hlen, hf⟩ := open_fields verStruct verFields h
  rw [cellsVer] at hl
  obtain ⟨c0, c1, c2, rfl⟩ := len_3 hl
  obtain ⟨y0, h0⟩ := some_of hlen (i := 0) (by decide)
  obtain ⟨y1, h1⟩ := some_of hlen (i := 1) (by decide)
  obtain ⟨y2, h2⟩ := some_of hlen (i := 2) (by decide)
  have k0 := hf 0 _ _ rfl
  have k1 := hf 1 _ _ rfl
  have k2 := hf 2 _ _ rfl
  rw [cellsInt] at k0 k1 k2
  rw [h0] at k0
  rw [h1] at k1
  rw [h2] at k2
  simp only [List.drop_zero, List.drop_succ_cons, List.take_succ_cons, List.take_zero] at k0 k1 k2
  obtain ⟨m0, e0, _, _⟩ := DataW.trod_int Tryd.underlying3 k0
  obtain ⟨m1, e1, _, _⟩ := DataW.trod_int Tryd.underlying3 k1
  obtain ⟨m2, e2, _, _⟩ := DataW.trod_int Tryd.underlying3 k2
  simp only [List.cons.injEq, and_true] at e0 e1 e2
  subst e0 e1 e2
  exact ⟨⟨m0, m1, m2⟩, rfl⟩
theorem open_pin (h : DataW.trod enc Tryd.prog W base spare held fuel 42 cs = some x) : ∃ p : Pn, cs = pinCells p ∧ p.name.length + 1 ≤ Rows.uptoBulk x.1 := by
  obtain ⟨xs, n, hx, hl, hlen, hf⟩ := open_fields pinStruct pinFields h
  rw [cellsPin] at hl
  obtain ⟨c0, c1, c2, c3, rfl⟩ := len_4 hl
  obtain ⟨y0, y1, rfl⟩ := len_2 hlen
  have k0 := hf 0 _ _ rfl
  have k1 := hf 1 _ _ rfl
  rw [cellsStr] at k0
  rw [cellsVer] at k1
  simp only [List.drop_zero, List.drop_succ_cons, List.take_succ_cons, List.take_zero, List.getElem?_cons_zero, List.getElem?_cons_succ] at k0 k1
  obtain ⟨s0, e0, g0, _⟩ := DataW.trod_string Tryd.underlying9 k0
  obtain ⟨u, e1⟩ := open_ve k1
  simp only [List.cons.injEq, and_true] at e0 e1
  obtain ⟨rfl, rfl, rfl⟩ := e1
  subst e0 g0
  refine ⟨⟨s0.data.toList, u⟩, rfl, ?_⟩
  rw [hx]
  simp only [List.map_cons, List.map_nil, Rows.uptoBulk, Rows.uptoBulkAll]
  omega
theorem open_edge (h : DataW.trod enc Tryd.prog W base spare held fuel 40 cs = some x) : ∃ p : Eg, cs = edgeCells p ∧ p.label.length + 1 ≤ Rows.uptoBulk x.1 := by
  obtain ⟨xs, n, hx, hl, hlen, hf⟩ := open_fields edgeStruct edgeFields h
  rw [cellsEdge] at hl
  obtain ⟨c0, c1, rfl⟩ := len_2 hl
  obtain ⟨y0, y1, rfl⟩ := len_2 hlen
  have k0 := hf 0 _ _ rfl
  have k1 := hf 1 _ _ rfl
  rw [cellsStr] at k0
  rw [cellsInt] at k1
  simp only [List.drop_zero, List.drop_succ_cons, List.take_succ_cons, List.take_zero, List.getElem?_cons_zero, List.getElem?_cons_succ] at k0 k1
  obtain ⟨s0, e0, g0, _⟩ := DataW.trod_string Tryd.underlying9 k0
  obtain ⟨m1, e1, _, _⟩ := DataW.trod_int Tryd.underlying3 k1
  simp only [List.cons.injEq, and_true] at e0 e1
  subst e0 e1 g0
  refine ⟨⟨s0.data.toList, m1⟩, rfl, ?_⟩
  rw [hx]
  simp only [List.map_cons, List.map_nil, Rows.uptoBulk, Rows.uptoBulkAll]
  omega
/-- How long what a node has may be. -/
def NdIn (n : Nat) (x : Nd) : Prop := x.name.length ≤ n ∧ x.ctx.length ≤ n ∧ x.edges.length ≤ n ∧ (∀ p ∈ x.ctx, p.name.length ≤ n) ∧ ∀ e ∈ x.edges, e.label.length ≤ n
theorem NdIn.mono {n m : Nat} {x : Nd} (h : NdIn n x) (hm : n ≤ m) : NdIn m x :=
  ⟨Nat.le_trans h.1 hm, Nat.le_trans h.2.1 hm, Nat.le_trans h.2.2.1 hm, fun p hp => Nat.le_trans (h.2.2.2.1 p hp) hm, fun p hp => Nat.le_trans (h.2.2.2.2 p hp) hm⟩
theorem open_pins {v : Value} {d : DataW H} {p : List MemPlace} (h : DataW.trod enc Tryd.prog W base spare held fuel 35 [v] = some (d, p)) : ∃ l : List Pn, PinsAt W W.heap.size v l ∧ l.length ≤ Rows.uptoBulk d ∧ ∀ p ∈ l, p.name.length ≤ Rows.uptoBulk d := by
  obtain ⟨l, hr, D, hD, hq⟩ := open_rowz pinCells (fun p d => p.name.length + 1 ≤ Rows.uptoBulk d) Tryd.underlying35 cellsPin (by decide) (fun _ => rfl) (fun _ _ _ h => open_pin h) h
  have hb := bulk_each D l.length 1 fun i hi => by have := hq i _ (List.getElem?_eq_getElem hi); omega
  refine ⟨l, hr, by omega, fun p hp => ?_⟩
  obtain ⟨i, hi, rfl⟩ := List.mem_iff_getElem.1 hp
  have := hq i _ (List.getElem?_eq_getElem hi)
  have := hb.2 i hi
  omega
theorem open_edges {v : Value} {d : DataW H} {p : List MemPlace} (h : DataW.trod enc Tryd.prog W base spare held fuel 36 [v] = some (d, p)) : ∃ l : List Eg, EdgesAt W W.heap.size v l ∧ l.length ≤ Rows.uptoBulk d ∧ ∀ p ∈ l, p.label.length ≤ Rows.uptoBulk d := by
  obtain ⟨l, hr, D, hD, hq⟩ := open_rowz edgeCells (fun p d => p.label.length + 1 ≤ Rows.uptoBulk d) Tryd.underlying36 cellsEdge (by decide) (fun _ => rfl) (fun _ _ _ h => open_edge h) h
  have hb := bulk_each D l.length 1 fun i hi => by have := hq i _ (List.getElem?_eq_getElem hi); omega
  refine ⟨l, hr, by omega, fun p hp => ?_⟩
  obtain ⟨i, hi, rfl⟩ := List.mem_iff_getElem.1 hp
  have := hq i _ (List.getElem?_eq_getElem hi)
  have := hb.2 i hi
  omega
theorem open_node (h : DataW.trod enc Tryd.prog W base spare held fuel 38 cs = some x) :
    ∃ a : Nd × (Value × Value), cs = nodeCells a.1 a.2 ∧ (PinsAt W W.heap.size a.2.1 a.1.ctx ∧ EdgesAt W W.heap.size a.2.2 a.1.edges) ∧ 1 ≤ Rows.uptoBulk x.1 ∧ NdIn (Rows.uptoBulk x.1) a.1 := by
  obtain ⟨xs, n, hx, hl, hlen, hf⟩ := open_fields nodeStruct nodeFields h
  rw [cellsNode] at hl
  obtain ⟨c0, c1, c2, c3, c4, c5, rfl⟩ := len_6 hl
  obtain ⟨y0, y1, y2, y3, rfl⟩ := len_4 hlen
  have k0 := hf 0 _ _ rfl
  have k1 := hf 1 _ _ rfl
  have k2 := hf 2 _ _ rfl
  have k3 := hf 3 _ _ rfl
  rw [cellsStr] at k0
  rw [cellsVer] at k1
  rw [cellsPins] at k2
  rw [cellsEdges] at k3
  simp only [List.drop_zero, List.drop_succ_cons, List.take_succ_cons, List.take_zero, List.getElem?_cons_zero, List.getElem?_cons_succ] at k0 k1 k2 k3
  obtain ⟨s0, e0, g0, _⟩ := DataW.trod_string Tryd.underlying9 k0
  obtain ⟨u, e1⟩ := open_ve k1
  obtain ⟨d2, p2⟩ := y2
  obtain ⟨d3, p3⟩ := y3
  obtain ⟨ps, hp, hp1, hp2⟩ := open_pins k2
  obtain ⟨es, he, he1, he2⟩ := open_edges k3
  simp only [List.cons.injEq, and_true] at e0 e1
  obtain ⟨rfl, rfl, rfl⟩ := e1
  subst e0 g0
  refine ⟨(⟨s0.data.toList, u, ps, es⟩, (c4, c5)), rfl, ⟨hp, he⟩, ?_⟩
  rw [hx]
  simp only [List.map_cons, List.map_nil, Rows.uptoBulk, Rows.uptoBulkAll]
  refine ⟨by omega, by show s0.data.toList.length ≤ _; omega, by show ps.length ≤ _; omega, by show es.length ≤ _; omega, fun p hp => ?_, fun p hp => ?_⟩
  · have := hp2 p hp; omega
  · have := he2 p hp; omega
theorem open_nodes {v : Value} {d : DataW H} {p : List MemPlace} (h : DataW.trod enc Tryd.prog W base spare held fuel 22 [v] = some (d, p)) : ∃ g : G, NodesAt W W.heap.size v g ∧ g.length ≤ Rows.uptoBulk d ∧ ∀ x ∈ g, NdIn (Rows.uptoBulk d) x := by
  obtain ⟨l, hr, D, hD, hq⟩ := open_rowz (fun a : Nd × (Value × Value) => nodeCells a.1 a.2) (fun a d => (PinsAt W W.heap.size a.2.1 a.1.ctx ∧ EdgesAt W W.heap.size a.2.2 a.1.edges) ∧ 1 ≤ Rows.uptoBulk d ∧ NdIn (Rows.uptoBulk d) a.1) Tryd.underlying22 cellsNode (by decide) (fun _ => rfl) (fun _ _ _ h => open_node h) h
  have hb := bulk_each D l.length 1 fun i hi => (hq i _ (List.getElem?_eq_getElem hi)).2.1
  refine ⟨l.map (·.1), ⟨l.map (·.2), by simp, ?_, fun i x c hx hc => ?_⟩, by rw [List.length_map]; omega, fun x hx => ?_⟩
  · rw [List.zipWith_map]
    have : (List.zipWith (fun (a b : Nd × (Value × Value)) => nodeCells a.1 b.2) l l) = l.map fun a => nodeCells a.1 a.2 := by rw [List.zipWith_self]
    rw [this]
    exact hr
  · rw [List.getElem?_map] at hx hc
    cases ha : l[i]? with
    | none => rw [ha] at hx; simp at hx
    | some a =>
      rw [ha] at hx hc
      simp only [Option.map_some, Option.some.injEq] at hx hc
      subst hx
      subst hc
      exact (hq i a ha).1
  · obtain ⟨a, ha, rfl⟩ := List.mem_map.1 hx
    obtain ⟨i, hi, rfl⟩ := List.mem_iff_getElem.1 ha
    have h1 := (hq i _ (List.getElem?_eq_getElem hi)).2.2
    have h2 := hb.2 i hi
    exact h1.mono (by omega)
end
end Opg
open Lock in
set_option maxRecDepth 100000 in
theorem open_graph {H : Type} {enc : TypeId × Value → H} {W : World} {base : Nat} {v : Value} {d : DataW H} {p : List MemPlace}
    (hv : Value.okWide Tryd.prog W .any base 24 v) (h : DataW.Trod enc Tryd.prog W 0 (fun _ => true) true 24 v d p) :
    ∃ a : Value × G, v = .agg #[a.1] ∧ (NodesAt W W.heap.size a.1 a.2 ∧ a.2.length ≤ Rows.uptoBulk d ∧ ∀ x ∈ a.2, Opg.NdIn (Rows.uptoBulk d) x) := by
  obtain ⟨fuel, hf⟩ := h
  obtain ⟨cs, rfl, hcs⟩ := okWide_struct Opg.graphStruct hv
  obtain ⟨xs, n, hx, hl, hlen, hfs⟩ := Opg.open_fields Opg.graphStruct Opg.graphFields hf
  obtain ⟨cl⟩ := cs
  have e : (Value.agg ⟨cl⟩).cells.toList = cl := rfl
  rw [e] at hfs hl
  have hc1 : Tryd.prog.cellsOf 24 = 1 := by kernel_rfl
  rw [hc1] at hl
  obtain ⟨c0, rfl⟩ := Opg.len_1 hl
  obtain ⟨y0, rfl⟩ := Opg.len_1 hlen
  have k0 := hfs 0 _ _ rfl
  rw [Opg.cellsNodes] at k0
  simp only [List.drop_zero, List.take_succ_cons, List.take_zero, List.getElem?_cons_zero] at k0
  obtain ⟨d0, p0⟩ := y0
  obtain ⟨g, h1, h2, h3⟩ := Opg.open_nodes k0
  refine ⟨(c0, g), rfl, h1, ?_⟩
  have hd : d = .agg [d0] := hx
  rw [hd]
  simp only [Rows.uptoBulk, Rows.uptoBulkAll]
  exact ⟨by show g.length ≤ _; omega, fun x hx => (h3 x hx).mono (by omega)⟩
end Go.Proofs.YtjiifieafnjpgaaDoor
