/- A row of values that can be read: each element one cell: no program stands here. -/
import Derived.Test.YtjiifieafnjpgaaDoorMem
import Derived.Deep.Quiet
namespace Go.Proofs.YtjiifieafnjpgaaDoor
open Go.RowKit
theorem add_block (b : Addr) (i : Nat) : (b.add i).block = b.block := by
  unfold Addr.add; split <;> rfl
/-- The slice v has the cells xs, in blocks below B. -/
structure Row (w : World) (B : Nat) (v : Value) (xs : List Value) : Prop where
  is : ∃ a cap, v = .slice a xs.length cap ∧ xs.length ≤ cap ∧ ∀ i u, xs[i]? = some u → ∃ b, a = some b ∧ b.block < B ∧ w.cell? (b.add i) = some u
theorem Row.nil (w : World) (B : Nat) : Row w B (.slice none 0 0) [] := ⟨_, _, rfl, Nat.le_refl _, fun i u h => by simp at h⟩
theorem Row.some {w : World} {B : Nat} {v : Value} {xs : List Value} (h : Row w B v xs) (hn : 0 < xs.length) : ∃ b cap, v = .slice (Option.some b) xs.length cap ∧ b.block < B ∧ ∀ i u, xs[i]? = Option.some u → w.cell? (b.add i) = Option.some u := by
  obtain ⟨a, cap, rfl, hlc, hc⟩ := h.is
  obtain ⟨b, hb, hB, _⟩ := hc 0 xs[0] (List.getElem?_eq_getElem hn)
  subst hb
  exact ⟨b, cap, rfl, hB, fun i u hu => by
    obtain ⟨b', hb', _, hc'⟩ := hc i u hu
    cases hb'
    exact hc'⟩
theorem Row.form {w : World} {B : Nat} {v : Value} {xs : List Value} (h : Row w B v xs) : ∃ a cap, v = .slice a xs.length cap := by
  obtain ⟨a, cap, rfl, hlc, hc⟩ := h.is
  exact ⟨a, cap, rfl⟩
theorem Row.below {w w' : World} {n B : Nat} {v : Value} {xs : List Value} (h : Row w B v xs) (hb : Below n w w') (hB : B ≤ n) : Row w' B v xs := by
  obtain ⟨a, cap, rfl, hlc, hc⟩ := h.is
  refine ⟨a, cap, rfl, hlc, fun i u hu => ?_⟩
  obtain ⟨b, hb', hB', hc'⟩ := hc i u hu
  refine ⟨b, hb', hB', ?_⟩
  rw [hb.cell (p := b.add i) (by rw [add_block]; omega)]
  exact hc'
theorem Row.mono {w : World} {B B' : Nat} {v : Value} {xs : List Value} (h : Row w B v xs) (hB : B ≤ B') : Row w B' v xs := by
  obtain ⟨a, cap, rfl, hlc, hc⟩ := h.is
  refine ⟨a, cap, rfl, hlc, fun i u hu => ?_⟩
  obtain ⟨b, hb', hB', hc'⟩ := hc i u hu
  exact ⟨b, hb', by omega, hc'⟩
theorem Row.of_own {w : World} {base : Nat} {e : TypeId} {v : Value} {n : Nat} {xs : List Value} (h : w.ownsRow base e 1 v n xs) : Row w w.heap.size v xs := by
  have hl : xs.length = n := by have := h.1; omega
  rcases h.2 with ⟨rfl, h0⟩ | ⟨g, cap, cur, rfl, hb, hg, hnc, _⟩
  · have hx : xs = [] := List.length_eq_zero_iff.1 (by omega)
    subst hx
    subst h0
    exact ⟨none, 0, rfl, Nat.le_refl _, fun i u hu => by simp at hu⟩
  · have hgs : g < w.heap.size := by
      refine Decidable.byContradiction fun hh => ?_
      rw [Array.getElem?_eq_none (by omega)] at hg
      exact absurd hg (by simp)
    refine ⟨_, cap, by rw [hl], by omega, fun i u hu => ⟨⟨g, 0, none⟩, rfl, hgs, ?_⟩⟩
    have hi : i < n := by have := (List.getElem?_eq_some_iff.1 hu).1; omega
    have := h.cellAt i (by omega)
    rw [hu] at this
    rw [← this]
    simp only [Addr.add]
    split
    · next h0 => rw [h0]
    · simp
/-- Where the cells lie. -/
theorem Row.at {w : World} {B : Nat} {v : Value} {xs : List Value} (h : Row w B v xs) (hn : 0 < xs.length) : ∃ bk o cap, v = .slice (Option.some ⟨bk, o, none⟩) xs.length cap ∧ xs.length ≤ cap ∧ bk < B ∧ ∀ (i : Nat) u, xs[i]? = Option.some u → w.cell? ⟨bk, o + i, none⟩ = Option.some u := by
  obtain ⟨a, cap, rfl, hlc, hc⟩ := h.is
  obtain ⟨b, hb, hB, h0⟩ := hc 0 xs[0] (List.getElem?_eq_getElem hn)
  subst hb
  obtain ⟨bk, o, sp⟩ := b
  have hsp : sp = none := by
    cases sp with
    | none => rfl
    | some x =>
      rw [show (⟨bk, o, Option.some x⟩ : Addr).add 0 = ⟨bk, o, Option.some x⟩ from rfl] at h0
      unfold World.cell? at h0
      simp only at h0
      cases hh : w.heap[bk]? with
      | none => rw [hh] at h0; simp at h0
      | some ob => rw [hh] at h0; cases ob <;> simp at h0
  subst hsp
  refine ⟨bk, o, cap, rfl, hlc, hB, fun i u hu => ?_⟩
  obtain ⟨b', hb', _, hc'⟩ := hc i u hu
  cases hb'
  rw [← hc']
  simp only [Addr.add]
  split
  · next h0 => rw [h0]; rfl
  · rfl
theorem Row.drewN {w : World} {B : Nat} {v : Value} {xs : List Value} (h : Row w B v xs) (m : Nat) : Row (w.drewN m) B v xs := by
  obtain ⟨a, cap, rfl, hlc, hc⟩ := h.is
  exact ⟨a, cap, rfl, hlc, fun i u hu => by
    obtain ⟨b, hb', hB', hc'⟩ := hc i u hu
    exact ⟨b, hb', hB', hc'⟩⟩
/-- A row of rows of texts. -/
structure Grid (w : World) (B : Nat) (v : Value) (ls : List (List (List UInt8))) : Prop where
  is : ∃ vs : List Value, Row w B v vs ∧ vs.length = ls.length ∧ ∀ (i : Nat) (u : Value) (l : List (List UInt8)), vs[i]? = some u → ls[i]? = some l → Row w B u (l.map sv)
theorem Grid.below {w w' : World} {n B : Nat} {v : Value} {ls : List (List (List UInt8))} (h : Grid w B v ls) (hb : Below n w w') (hB : B ≤ n) : Grid w' B v ls := by
  obtain ⟨vs, h1, h2, h3⟩ := h.is
  exact ⟨vs, h1.below hb hB, h2, fun i u l hu hl => (h3 i u l hu hl).below hb hB⟩
theorem Grid.of_lines {ts tl : TypeId} {w : World} {base Bw : Nat} {v : Value} {hs : List (Nat × Nat)} {ls : List (List (List UInt8))} (h : Lines ts tl w base Bw v hs ls) : Grid w w.heap.size v ls := by
  refine ⟨_, Row.of_own h.row, by simp [h.len], fun i u l hu hl => ?_⟩
  simp only [List.getElem?_zipWith] at hu
  cases hh : hs[i]? with
  | none => rw [hh] at hu; simp at hu
  | some x =>
    rw [hh, hl] at hu
    simp at hu
    subst hu
    exact Row.of_own (h.rows i x l hh hl)
theorem sv_inj {a b : List UInt8} : ((bs a).toList == (bs b).toList) = decide (a = b) := by
  rw [bs_toList, bs_toList]
  by_cases h : a = b
  · simp [h]
  · simp [h]
end Go.Proofs.YtjiifieafnjpgaaDoor
