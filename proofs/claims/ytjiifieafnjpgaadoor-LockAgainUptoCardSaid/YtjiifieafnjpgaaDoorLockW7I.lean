/- lock.Parse: what the walk stands on. -/
import Derived.Test.YtjiifieafnjpgaaDoorLockW6
import Derived.Test.YtjiifieafnjpgaaDoorLkM
import Derived.Test.YtjiifieafnjpgaaDoorScanJP
import Derived.Deep.RegionHeld3
import Derived.Lib.BufferWrite
import Derived.Deep.AppendLies
import Derived.OwnWalk
namespace Go.Proofs.YtjiifieafnjpgaaDoor
open Go.RowKit
set_option linter.unusedSimpArgs false
set_option linter.unusedVariables false
open Lock
theorem infoNode : (Tryd.prog.info? 38).map (fun i => (i.zero, i.size, i.bytes)) = some (some (.agg #[.string ByteArray.empty, .int .i64 0, .int .i64 0, .int .i64 0, .slice none 0 0, .slice none 0 0]), 6, 88) := by kernel_rfl
theorem infoPin : (Tryd.prog.info? 42).map (fun i => (i.zero, i.size, i.bytes)) = some (some (.agg #[.string ByteArray.empty, .int .i64 0, .int .i64 0, .int .i64 0]), 4, 40) := by kernel_rfl
theorem infoEdge : (Tryd.prog.info? 40).map (fun i => (i.zero, i.size, i.bytes)) = some (some (.agg #[.string ByteArray.empty, .int .i64 0]), 2, 24) := by kernel_rfl
abbrev NOwn := NodesOwn 38 42 40
theorem heap_below {w w' : World} {n k : Nat} {o : Obj} (hb : Below n w w') (hk : k < n) (h : w.heap[k]? = some o) : w'.heap[k]? = some o := (hb.block k hk).trans h
theorem heap_lt {w : World} {k : Nat} {o : Obj} (h : w.heap[k]? = some o) : k < w.heap.size := by
  refine Decidable.byContradiction fun hh => ?_
  rw [Array.getElem?_eq_none (by omega)] at h
  exact absurd h (by simp)
theorem own_far {w : World} {b : Nat} {e : TypeId} {z : Nat} {g n c : Nat} {m : Nat} {xs : List Value} (h : w.ownsRow b e z (.slice (some ⟨g, 0, none⟩) n c) m xs) {k : Nat} {cur : Array Value} {t : TypeId} {fr : Nat × Nat} (hk : w.heap[k]? = some (.cells cur t fr)) (ht : t ≠ e) : some k ≠ (Value.slice (some ⟨g, 0, none⟩) n c).ownBlock := fun e' => by
  rcases own_not h hk ht with h' | h'
  · simp [Value.ownBlock] at h'
  · exact h' e'.symm
/-- What stands at a round's head. -/
structure LHead (r : List (List (List UInt8))) (w1 : World) (p q : Value) (wr : World) (k : Nat) (pre : G) (x : Nd) (cs : List (Value × Value)) (cv ev : Value) (Bw gg cp : Nat) : Prop where
  hp : p = .int .i64 k
  hq : q = .pointer (some ⟨gg, pre.length * 6, none⟩)
  hk : k ≤ r.length
  hs : steps [nd0] (r.take k) = some (pre ++ [x])
  h1 : pre.length ≤ k
  h2 : x.ctx.length ≤ k
  h3 : x.edges.length ≤ k
  own : NOwn wr (w1.heap.size + 1) Bw (.slice (some ⟨gg, 0, none⟩) (pre.length + 1) cp) pre cs x cv ev
  hG : wr.heap[w1.heap.size + 1 + 1]? = some (.cells #[.slice (some ⟨gg, 0, none⟩) (pre.length + 1) cp] 24 (0, 0))
  hN : wr.heap[w1.heap.size]? = some (.cells #[.slice none 0 0] 24 (0, 0))
  hb : Below w1.heap.size w1 wr
  hBw : Bw ≤ wr.heap.size
  hz : ∀ y ∈ pre ++ [x], NdSize y
/-- The end, whatever code: the result's cell is written. -/
theorem GParsePost.out {T : List UInt8} {w w1 wr : World} {v : Value} {g : G} {c : Int} (hp : Lock.parse T = (c, g)) (hw1 : Below w.heap.size w w1) (hb : Below w1.heap.size w1 wr) (hr : w1.heap[w.heap.size]? = some (.cells #[.slice none 0 0] 24 (0, 0)))
    (hg : GraphOwn wr (w1.heap.size + 1) v g) : GParsePost T w (.returned (.tuple #[.agg #[v], .int .i64 c])) (wr.setCell ⟨w.heap.size, 0, none⟩ v) := by
  have hlt := heap_lt hr
  refine ⟨v, by rw [hp], ?_, (hw1.trans (hb.mono hw1.size)).setCell (p := ⟨w.heap.size, 0, none⟩) (Nat.le_refl _) _⟩
  rw [hp]
  rcases hg with ⟨e1, e2⟩ | ⟨Bw, pre, cs, x, cv, ev, e1, h⟩
  · exact Or.inl ⟨e1, e2⟩
  · refine Or.inr ⟨Bw, pre, cs, x, cv, ev, e1, (h.kept (grown_set wr w.heap.size 0 v) fun k hk => ?_).mono (by have := hw1.size; omega)⟩
    cases hk
    exact ⟨_, _, _, heap_below hb hlt hr, by decide, by decide, by decide⟩
end Go.Proofs.YtjiifieafnjpgaaDoor
