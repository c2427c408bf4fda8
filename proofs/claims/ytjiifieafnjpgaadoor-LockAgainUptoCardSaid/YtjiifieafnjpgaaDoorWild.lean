/- Lines in memory of the call's own, whose words are written over: no program stands here. -/
import Derived.Test.YtjiifieafnjpgaaDoorMem
import Derived.Below
namespace Go.Proofs.YtjiifieafnjpgaaDoor
open Go.RowKit
set_option linter.unusedVariables false
set_option linter.unusedSimpArgs false
theorem setCell_grown (w : World) (a : Addr) (u : Value) : w.grownBy (w.setCell a u) (some a.block) :=
  ⟨rfl, rfl, rfl, by simp [World.setCell], fun k hk hne => Below.heap_setCell w a u k (fun e => hne (by rw [e]))⟩
/-- From line i on the rows stand as they came; what their words are is not said. -/
structure Wild (ts tl : TypeId) (w : World) (base : Nat) (v : Value) (hs : List (Nat × Nat)) (ns : List Nat) (i : Nat) : Prop where
  len : hs.length = ns.length
  row : ∃ vs, w.ownsRow base tl 1 v ns.length vs ∧ ∀ (j : Nat) h n, i ≤ j → hs[j]? = some h → ns[j]? = some n → vs[j]? = some (rv h n)
  rows : ∀ (j : Nat) h n, i ≤ j → hs[j]? = some h → ns[j]? = some n → ∃ xs, w.ownsRow base ts 1 (rv h n) n xs
  sorted : hs.Pairwise fun a b => a.1 < b.1
theorem Wild.of_lines {ts tl : TypeId} {w : World} {base Bw : Nat} {v : Value} {hs : List (Nat × Nat)} {ls : List (List (List UInt8))} (h : Lines ts tl w base Bw v hs ls) : Wild ts tl w base v hs (ls.map List.length) 0 := by
  refine ⟨by simp [h.len], ⟨_, by simpa using h.row, fun j x n _ hx hn => ?_⟩, fun j x n _ hx hn => ?_, h.sorted⟩
  · rw [List.getElem?_map] at hn
    cases hl : ls[j]? with
    | none => rw [hl] at hn; simp at hn
    | some l =>
      rw [hl] at hn; simp at hn; subst hn
      simp only [List.getElem?_zipWith, hx, hl]
  · rw [List.getElem?_map] at hn
    cases hl : ls[j]? with
    | none => rw [hl] at hn; simp at hn
    | some l =>
      rw [hl] at hn; simp at hn; subst hn
      exact ⟨_, h.rows j x l hx hl⟩
theorem Wild.lt {ts tl : TypeId} {w : World} {base : Nat} {v : Value} {hs : List (Nat × Nat)} {ns : List Nat} {i : Nat} (h : Wild ts tl w base v hs ns i) {j k : Nat} {x y : Nat × Nat} (hjk : j < k) (hx : hs[j]? = some x) (hy : hs[k]? = some y) : x.1 < y.1 := by
  obtain ⟨h1, rfl⟩ := List.getElem?_eq_some_iff.1 hx
  obtain ⟨h2, rfl⟩ := List.getElem?_eq_some_iff.1 hy
  exact List.pairwise_iff_getElem.1 h.sorted j k h1 h2 hjk
/-- A word of line i is written over. -/
theorem Wild.store {ts tl : TypeId} (hne : ts ≠ tl) {w : World} {base : Nat} {v : Value} {hs : List (Nat × Nat)} {ns : List Nat} {i : Nat} (h : Wild ts tl w base v hs ns i) {x : Nat × Nat} {n : Nat} (hx : hs[i]? = some x) (hn : ns[i]? = some n) {k : Nat} (hk : k < n) (u : Value) :
    Wild ts tl (w.setCell ⟨x.1, k, none⟩ u) base v hs ns i := by
  obtain ⟨vs, hv, hvj⟩ := h.row
  obtain ⟨xs, hxs⟩ := h.rows i x n (Nat.le_refl _) hx hn
  have hg := setCell_grown w ⟨x.1, k, none⟩ u
  refine ⟨h.len, ⟨vs, hv.kept hg ?_, hvj⟩, fun j y m hj hy hm => ?_, h.sorted⟩
  · rcases own_apart hv hxs (fun e => hne e.symm) with e | e
    · exact Or.inl e
    · exact Or.inr (by simpa [rv, Value.ownBlock] using e)
  · by_cases hij : j = i
    · subst hij
      rw [hx] at hy; rw [hn] at hm
      cases hy; cases hm
      exact ⟨_, (hxs.stored k u).1⟩
    · obtain ⟨ys, hys⟩ := h.rows j y m hj hy hm
      refine ⟨ys, hys.kept hg (Or.inr ?_)⟩
      have := h.lt (show i < j by omega) hx hy
      simp [rv, Value.ownBlock]
      omega
/-- Line i has grown, and its place holds what it is now. -/
theorem Wild.next {ts tl : TypeId} (hne : ts ≠ tl) {w w1 w2 : World} {base : Nat} {gv cv : Nat} {hs : List (Nat × Nat)} {ns : List Nat} {i : Nat} (h : Wild ts tl w base (.slice (some ⟨gv, 0, none⟩) ns.length cv) hs ns i) {x : Nat × Nat} {n : Nat} (hx : hs[i]? = some x) (hn : ns[i]? = some n)
    (h1 : w.grownBy w1 none) (h2 : w1.grownBy w2 (some x.1)) (u : Value) : Wild ts tl (w2.setCell ⟨gv, i, none⟩ u) base (.slice (some ⟨gv, 0, none⟩) ns.length cv) hs ns (i + 1) := by
  obtain ⟨vs, hv, hvj⟩ := h.row
  obtain ⟨xs, hxs⟩ := h.rows i x n (Nat.le_refl _) hx hn
  have hi : i < ns.length := (List.getElem?_eq_some_iff.1 hn).1
  have hv1 := hv.kept h1 (Or.inr (by simp [Value.ownBlock]))
  have hv2 := hv1.kept h2 (by
    rcases own_apart hv hxs (fun e => hne e.symm) with e | e
    · exact Or.inl e
    · exact Or.inr (by simpa [rv, Value.ownBlock] using e))
  have hg := setCell_grown w2 ⟨gv, i, none⟩ u
  refine ⟨h.len, ⟨_, (hv2.stored i u).1, fun j y m hj hy hm => ?_⟩, fun j y m hj hy hm => ?_, h.sorted⟩
  · rw [List.getElem?_set_ne (by omega)]
    exact hvj j y m (by omega) hy hm
  · obtain ⟨ys, hys⟩ := h.rows j y m (by omega) hy hm
    have hys1 := hys.kept h1 (Or.inr (by simp [rv, Value.ownBlock]))
    have hys2 := hys1.kept h2 (Or.inr (by
      have := h.lt (show i < j by omega) hx hy
      simp [rv, Value.ownBlock]
      omega))
    refine ⟨ys, hys2.kept hg ?_⟩
    rcases own_apart hys2 hv2 hne with e | e
    · exact Or.inl e
    · exact Or.inr (by simpa [rv, Value.ownBlock] using e)
end Go.Proofs.YtjiifieafnjpgaaDoor
