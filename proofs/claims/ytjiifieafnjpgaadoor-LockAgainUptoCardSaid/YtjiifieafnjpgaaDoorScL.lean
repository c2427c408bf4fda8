/- append of a row that may be nil to a row of the call's own: no program stands here. -/
import Derived.Laws.AppendOwnNone
import Derived.Test.YtjiifieafnjpgaaDoorMem
import Derived.Test.YtjiifieafnjpgaaDoorScanAns
import Derived.Test.YtjiifieafnjpgaaDoorWild
import Derived.Test.YtjiifieafnjpgaaDoorScanPlain
namespace Go
theorem wpList_append_src {P : Program} {w : World} {ops : Array Oper} {rest : List Oper} {o : Oper} {a : Act} {Q : Exit → Act → World → Prop} (hgd : o.guard = none) (s x : Operand) (t : TypeId)
    (ho : o.op = .call { callee := .builtin .append, args := #[s, x], argTypes := #[t, t] })
    (base : Nat) (e : TypeId) (i : TypeInfo) (z : Value) (size bytes : Nat) (ht : P.underlying t = some (.slice e)) (hi : P.info? e = some i) (hz : i.zero = some z)
    (hsize : i.size = size) (hby : i.bytes = bytes) (hzs : z.cells.size = size) (hsz : 0 < size)
    (v : Value) (n : Nat) (xs : List Value) (hs : a.eval s = v) (hown : w.ownsRow base e size v n xs)
    (vx : Value) (m : Nat) (news : List Value) (hx : a.eval x = vx)
    (hsrc : (vx = .slice none 0 0 ∧ m = 0 ∧ news = []) ∨ ∃ ad c, vx = .slice (some ad) m c ∧ news.length = m * size ∧ ∀ (j : Nat) u, news[j]? = some u → w.cell? (ad.add j) = some u) (h1 : ∀ u ∈ news, u.oneCell' = true)
    (h63 : n + m ≤ maxLen) (hbytes : (n + m) * bytes ≤ 140737488355328) (hbase : base ≤ w.heap.size)
    (h : ∀ v' w', w'.ownsRow base e size v' (n + m) (xs ++ news) → w.grownBy w' v.ownBlock → wpList P ops Q rest (a.put o.dst v') w') : wpList P ops Q (o :: rest) a w := by
  rcases hsrc with ⟨hv, rfl, rfl⟩ | ⟨ad, c, hv, hl, hc⟩
  · subst hv
    refine wpList_append_own_none hgd s x t ho base e i size ht hi v n xs hs hown hx ?_
    exact h v w (by simpa using hown) ⟨rfl, rfl, rfl, Nat.le_refl _, fun _ _ _ => rfl⟩
  · subst hv
    exact wpList_append_own _ hgd s x t ho base e i z size bytes ht hi hz hsize hby hzs hsz v n xs hs hown ad m c news hx hl hc h1 h63 hbytes hbase fun v' w' h2 h3 _ => h v' w' h2 h3
/-- A row of the call's own as a source. -/
theorem World.ownsRow.src {w : World} {base : Nat} {e : TypeId} {v : Value} {n : Nat} {xs : List Value} (h : w.ownsRow base e 1 v n xs) :
    (v = .slice none 0 0 ∧ n = 0 ∧ xs = []) ∨ ∃ ad c, v = .slice (some ad) n c ∧ xs.length = n * 1 ∧ ∀ (j : Nat) u, xs[j]? = some u → w.cell? (ad.add j) = some u := by
  have hl := h.1
  rcases h.2 with ⟨rfl, rfl⟩ | ⟨g, cap, cur, rfl, _⟩
  · exact Or.inl ⟨rfl, rfl, List.eq_nil_of_length_eq_zero (by simpa using hl)⟩
  · exact Or.inr ⟨_, _, rfl, hl, h.cells (g := g) rfl⟩
end Go

namespace Go.Proofs.YtjiifieafnjpgaaDoor
open Go.RowKit
set_option linter.unusedSimpArgs false
set_option linter.unusedVariables false
theorem drewN_grown (w : World) (m : Nat) : w.grownBy (w.drewN m) none := ⟨rfl, rfl, rfl, Nat.le_refl _, fun _ _ _ => rfl⟩
end Go.Proofs.YtjiifieafnjpgaaDoor

namespace Go.Proofs.YtjiifieafnjpgaaDoor
open Go.RowKit
set_option linter.unusedSimpArgs false
set_option linter.unusedVariables false
/-- What Lines answers where its bound is the text's size. -/
theorem ans_ok {s : ByteArray} {most : Int} {ls : List (List (List UInt8))} (hm : ¬ most < s.size) (h : Scan.spec s.data.toList = .inr ls) : Scan.ans s most = (0, 0, ls) := by
  unfold Scan.ans; rw [if_neg hm, h]
theorem ans_bad {s : ByteArray} {most : Int} {n : Nat} (hm : ¬ most < s.size) (h : Scan.spec s.data.toList = .inl n) : Scan.ans s most = (22, (n : Int), []) := by
  unfold Scan.ans; rw [if_neg hm, h]
theorem Lines.grid_rows {ts tl : TypeId} {w : World} {base Bw : Nat} {v : Value} {hs : List (Nat × Nat)} {ls : List (List (List UInt8))} (h : Lines ts tl w base Bw v hs ls) :
    (List.zipWith (fun h (l : List (List UInt8)) => rv h l.length) hs ls).length = ls.length ∧ ∀ (i : Nat) (u : Value) (l : List (List UInt8)), (List.zipWith (fun h (l : List (List UInt8)) => rv h l.length) hs ls)[i]? = some u → ls[i]? = some l → Row w w.heap.size u (l.map sv) := by
  refine ⟨by simp [h.len], fun i u l hu hl => ?_⟩
  simp only [List.getElem?_zipWith] at hu
  cases hh : hs[i]? with
  | none => rw [hh] at hu; simp at hu
  | some x =>
    rw [hh, hl] at hu
    simp at hu
    subst hu
    exact Row.of_own (h.rows i x l hh hl)
theorem Lines.below {ts tl : TypeId} {w w' : World} {base Bw : Nat} {v : Value} {hs : List (Nat × Nat)} {ls : List (List (List UInt8))} (h : Lines ts tl w base Bw v hs ls) (hb : Below w.heap.size w w') : Lines ts tl w' base Bw v hs ls :=
  h.kept (Below.grow hb) (fun g e => by simp at e)
theorem rv_one (hs : List (Nat × Nat)) (ls : List (List (List UInt8))) : ∀ u ∈ List.zipWith (fun h (l : List (List UInt8)) => rv h l.length) hs ls, u.oneCell' = true := by
  intro u hu
  obtain ⟨i, hi, rfl⟩ := List.mem_iff_getElem.1 hu
  simp only [List.getElem_zipWith]
  rfl
/-- Rows of two lists, one behind the other. -/
theorem Grid.two {w : World} {B : Nat} {v : Value} {va vb : List Value} {la lb : List (List (List UInt8))} (h : Row w B v (va ++ vb)) (ha : va.length = la.length) (hb : vb.length = lb.length)
    (hA : ∀ (i : Nat) (u : Value) (l : List (List UInt8)), va[i]? = some u → la[i]? = some l → Row w B u (l.map sv)) (hB : ∀ (i : Nat) (u : Value) (l : List (List UInt8)), vb[i]? = some u → lb[i]? = some l → Row w B u (l.map sv)) : Grid w B v (la ++ lb) := by
  refine ⟨va ++ vb, h, by simp [ha, hb], fun i u l hu hl => ?_⟩
  by_cases hi : i < va.length
  · rw [List.getElem?_append_left hi] at hu
    rw [List.getElem?_append_left (by omega)] at hl
    exact hA i u l hu hl
  · rw [List.getElem?_append_right (by omega)] at hu
    rw [List.getElem?_append_right (by omega)] at hl
    rw [← ha] at hl
    exact hB _ u l hu hl
end Go.Proofs.YtjiifieafnjpgaaDoor
