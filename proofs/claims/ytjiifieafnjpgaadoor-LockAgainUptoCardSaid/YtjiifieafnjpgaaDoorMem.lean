/- Rows of texts, and a row of such rows, in memory that the call has made: no program stands here. -/
import Derived.Laws.AppendOwn
import Derived.Laws.OwnMore
import Derived.Below
import Derived.Laws.Strings
namespace Go.Proofs.YtjiifieafnjpgaaDoor
open Go.RowKit
/-- A text as a value. -/
def bs (l : List UInt8) : ByteArray := ⟨l.toArray⟩
theorem bs_list (l : List UInt8) : (bs l).data.toList = l := rfl
theorem bs_toList (l : List UInt8) : (bs l).toList = l := by rw [ByteArray.toList_eq]; rfl
theorem bs_of (s : ByteArray) : bs s.data.toList = s := rfl
def sv (l : List UInt8) : Value := .string (bs l)
theorem own_some {w : World} {base : Nat} {e : TypeId} {size : Nat} {v : Value} {n : Nat} {xs : List Value} (h : w.ownsRow base e size v n xs) (hn : 0 < n) : ∃ g cap, v = .slice (some ⟨g, 0, none⟩) n cap ∧ base ≤ g ∧ g < w.heap.size := by
  rcases h.2 with ⟨rfl, rfl⟩ | ⟨g, cap, cur, rfl, hb, hg, _⟩
  · omega
  · refine ⟨g, cap, rfl, hb, ?_⟩
    refine Decidable.byContradiction fun hh => ?_
    rw [Array.getElem?_eq_none (by omega)] at hg
    exact absurd hg (by simp)
theorem own_form {w : World} {base : Nat} {e : TypeId} {size : Nat} {v : Value} {n : Nat} {xs : List Value} (h : w.ownsRow base e size v n xs) : ∃ a cap, v = .slice a n cap := by
  rcases h.2 with ⟨rfl, rfl⟩ | ⟨g, cap, cur, rfl, _⟩
  · exact ⟨_, _, rfl⟩
  · exact ⟨_, _, rfl⟩
theorem own_ne {x g n cap : Nat} (h : x < g) : some x ≠ (Value.slice (some ⟨g, 0, none⟩) n cap).ownBlock := fun e => by
  have : x = g := Option.some.inj e
  omega
theorem own_le {x g n cap : Nat} (h : x ≤ g) : ∀ j, (Value.slice (some ⟨g, 0, none⟩) n cap).ownBlock = some j → x ≤ j := fun j e => by
  have : g = j := Option.some.inj e
  omega
/-- Two owned rows of two types lie in two blocks. -/
theorem own_apart {w : World} {b b' : Nat} {e e' : TypeId} {z z' : Nat} {v v' : Value} {n n' : Nat} {xs xs' : List Value} (h : w.ownsRow b e z v n xs) (h' : w.ownsRow b' e' z' v' n' xs') (he : e ≠ e') : v.ownBlock = none ∨ v.ownBlock ≠ v'.ownBlock := by
  rcases h.2 with ⟨rfl, rfl⟩ | ⟨g, cap, cur, rfl, _, hg, _⟩
  · exact Or.inl rfl
  · refine Or.inr fun k => ?_
    rcases h'.2 with ⟨rfl, rfl⟩ | ⟨g', cap', cur', rfl, _, hg', _⟩
    · exact absurd k (by simp [Value.ownBlock])
    · have : g = g' := Option.some.inj k
      subst this
      rw [hg] at hg'
      simp only [Option.some.injEq, Obj.cells.injEq] at hg'
      exact he hg'.2.1
/-- What is owned from a number on is owned from each smaller one on. -/
theorem own_mono {w : World} {b b' : Nat} {e : TypeId} {z : Nat} {v : Value} {n : Nat} {xs : List Value} (h : w.ownsRow b e z v n xs) (hb : b' ≤ b) : w.ownsRow b' e z v n xs := by
  refine ⟨h.1, ?_⟩
  rcases h.2 with h2 | ⟨g, cap, cur, hv, hg, r⟩
  · exact Or.inl h2
  · exact Or.inr ⟨g, cap, cur, hv, by omega, r⟩
/-- A row's slice value. -/
def rv (h : Nat × Nat) (n : Nat) : Value := .slice (some ⟨h.1, 0, none⟩) n h.2
/-- LINES: a row of rows of texts: the row's blocks lie below Bw. -/
structure Lines (ts tl : TypeId) (w : World) (base Bw : Nat) (v : Value) (hs : List (Nat × Nat)) (ls : List (List (List UInt8))) : Prop where
  row : w.ownsRow base tl 1 v ls.length (List.zipWith (fun h (l : List (List UInt8)) => rv h l.length) hs ls)
  len : hs.length = ls.length
  rows : ∀ (i : Nat) (h : Nat × Nat) (l : List (List UInt8)), hs[i]? = some h → ls[i]? = some l → w.ownsRow base ts 1 (rv h l.length) l.length (l.map sv)
  sorted : hs.Pairwise fun a b => a.1 < b.1
  low : ∀ h ∈ hs, h.1 < Bw
  top : ∀ g, v.ownBlock = some g → g < Bw
theorem Lines.nil (ts tl : TypeId) (w : World) (base Bw : Nat) : Lines ts tl w base Bw (.slice none 0 0) [] [] :=
  ⟨World.ownsRow_nil w base tl 1, rfl, fun i h l hh _ => by simp at hh, List.Pairwise.nil, fun h hh => by simp at hh, fun g hg => by simp [Value.ownBlock] at hg⟩
theorem Lines.kept {ts tl : TypeId} {w w' : World} {base Bw : Nat} {v : Value} {hs : List (Nat × Nat)} {ls : List (List (List UInt8))} (h : Lines ts tl w base Bw v hs ls) {row : Option Nat} (hg : w.grownBy w' row) (hr : ∀ g, row = some g → Bw ≤ g) : Lines ts tl w' base Bw v hs ls := by
  refine ⟨h.row.kept hg ?_, h.len, fun i x l hx hl => (h.rows i x l hx hl).kept hg ?_, h.sorted, h.low, h.top⟩
  · cases hv : v.ownBlock with
    | none => exact Or.inl rfl
    | some g =>
      refine Or.inr fun e => ?_
      have := h.top g hv
      have := hr g e.symm
      omega
  · refine Or.inr fun e => ?_
    have h1 := h.low x (List.mem_of_getElem? hx)
    have h2 := hr x.1 e.symm
    omega
theorem Lines.alloc {ts tl : TypeId} {w : World} {base Bw : Nat} {v : Value} {hs : List (Nat × Nat)} {ls : List (List (List UInt8))} (h : Lines ts tl w base Bw v hs ls) (o : Obj) : Lines ts tl (w.alloc o) base Bw v hs ls :=
  h.kept (World.grownBy_alloc w o none) (fun g e => by simp at e)
theorem Lines.mono {ts tl : TypeId} {w : World} {base Bw Bw' : Nat} {v : Value} {hs : List (Nat × Nat)} {ls : List (List (List UInt8))} (h : Lines ts tl w base Bw v hs ls) (hB : Bw ≤ Bw') : Lines ts tl w base Bw' v hs ls :=
  ⟨h.row, h.len, h.rows, h.sorted, fun x hx => Nat.lt_of_lt_of_le (h.low x hx) hB, fun g hg => Nat.lt_of_lt_of_le (h.top g hg) hB⟩
/-- One line more: its row of texts, owned from Bw on, is put behind the others. -/
theorem Lines.snoc {ts tl : TypeId} (hne : ts ≠ tl) {w w1 w2 : World} {base Bw : Nat} {v v' : Value} {hs : List (Nat × Nat)} {ls : List (List (List UInt8))} (h : Lines ts tl w base Bw v hs ls)
    {g cap : Nat} {l : List (List UInt8)} (hl : w.ownsRow Bw ts 1 (rv (g, cap) l.length) l.length (l.map sv)) (hb : base ≤ Bw)
    (h1 : w.grownBy w1 none) (hv' : w2.ownsRow base tl 1 v' (ls.length + 1) (List.zipWith (fun h (l : List (List UInt8)) => rv h l.length) hs ls ++ [rv (g, cap) l.length])) (h2 : w1.grownBy w2 v.ownBlock) :
    Lines ts tl w2 base w2.heap.size v' (hs ++ [(g, cap)]) (ls ++ [l]) := by
  have hlow := h
  have hg2 : Bw ≤ g ∧ g < w.heap.size := by
    obtain ⟨k1, k2⟩ := hl.lt g rfl
    exact ⟨k1, k2⟩
  have hrow1 : w1.ownsRow base tl 1 v ls.length _ := h.row.kept h1 (by cases hv : v.ownBlock <;> simp)
  have keep : ∀ {x : Nat × Nat} {y : List (List UInt8)} {b : Nat}, w.ownsRow b ts 1 (rv x y.length) y.length (y.map sv) → w2.ownsRow b ts 1 (rv x y.length) y.length (y.map sv) := fun {x y b} hx => by
    have hx1 := hx.kept h1 (Or.inr (by simp [rv, Value.ownBlock]))
    exact hx1.kept h2 (own_apart hx1 hrow1 hne)
  have hlk := keep hl
  refine ⟨?_, by simp [h.len], ?_, ?_, ?_, ?_⟩
  · rw [List.length_append, List.length_singleton, List.zipWith_append h.len]
    exact hv'
  · intro i x y hx hy
    by_cases hi : i < hs.length
    · rw [List.getElem?_append_left hi] at hx
      rw [List.getElem?_append_left (by rw [← h.len]; exact hi)] at hy
      exact keep (h.rows i x y hx hy)
    · rw [List.getElem?_append_right (by omega)] at hx
      rw [List.getElem?_append_right (by have := h.len; omega)] at hy
      have e0 : i - hs.length = 0 := by
        have := (List.getElem?_eq_some_iff.1 hx).1
        simp at this
        omega
      rw [e0] at hx
      rw [show i - ls.length = 0 by have := h.len; omega] at hy
      simp only [List.getElem?_cons_zero, Option.some.injEq] at hx hy
      subst hx
      subst hy
      exact own_mono hlk hb
  · rw [List.pairwise_append]
    refine ⟨h.sorted, by simp, fun a ha b hb => ?_⟩
    simp only [List.mem_singleton] at hb
    subst hb
    have := h.low a ha
    show a.1 < g
    omega
  · have s1 := h1.size
    have s2 := h2.size
    intro x hx
    rcases List.mem_append.1 hx with hx | hx
    · have := h.low x hx; omega
    · simp only [List.mem_singleton] at hx
      subst hx
      show g < _
      omega
  · intro k hk
    exact (hv'.lt k hk).2
end Go.Proofs.YtjiifieafnjpgaaDoor
