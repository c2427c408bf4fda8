/- The document's Lines: the same answer. -/
import Derived.Test.YtjiifieafnjpgaaDoorChecked
import Derived.Test.YtjiifieafnjpgaaDoorScC
import Derived.Handy
import Derived.WalkMore
import Derived.WalkLawsBesides
import Derived.WalkSpells
import Derived.Outline
import Derived.Lib.Hide
import Derived.BigQuiet
namespace Go.Proofs.YtjiifieafnjpgaaDoor
open Go.RowKit
set_option linter.unusedSimpArgs false
set_option linter.unusedVariables false
theorem Below.grow {w w' : World} (h : Below w.heap.size w w') : w.grownBy w' none := ⟨h.os, h.tape, h.output, h.size, fun k hk _ => h.block k hk⟩
namespace Scan
open Cut
def comb (done : List (List (List UInt8))) : Nat ⊕ List (List (List UInt8)) → Nat ⊕ List (List (List UInt8))
  | .inl n => .inl n
  | .inr ls => .inr (done ++ ls)
/-- Where a run of the document's Lines stands. -/
structure Ln (P : List (List UInt8)) (k : Nat) (done : List (List (List UInt8))) : Prop where
  eq : scanL 1 P = comb done (scanL (k + 1) (P.drop k))
  le : k < P.length
  len : done.length = k
theorem Ln.start {P : List (List UInt8)} (h : 0 < P.length) : Ln P 0 [] := by
  refine ⟨?_, h, rfl⟩
  rw [List.drop_zero]
  cases scanL (0 + 1) P <;> rfl
theorem Ln.next {P k done x} (h : Ln P k done) (hk : k + 1 < P.length) (hx : P[k]? = some x) (hl : lineOk x = true) : Ln P (k + 1) (done ++ [cuts 32 x]) := by
  refine ⟨?_, hk, by simp [h.len]⟩
  have h1 := List.getElem?_eq_some_iff.1 hx
  obtain ⟨q, r, hqr⟩ : ∃ q r, P.drop (k + 1) = q :: r := by
    cases hd : P.drop (k + 1) with
    | nil => have := congrArg List.length hd; simp at this; omega
    | cons q r => exact ⟨q, r, rfl⟩
  rw [h.eq, List.drop_eq_getElem_cons h1.1, h1.2, hqr]
  simp only [scanL, hl, if_true]
  cases scanL (k + 1 + 1) (q :: r) with
  | inl n => rfl
  | inr ls => simp [comb]
theorem Ln.bad {P k done x} (h : Ln P k done) (hk : k + 1 < P.length) (hx : P[k]? = some x) (hl : lineOk x = false) : scanL 1 P = .inl (k + 1) := by
  have h1 := List.getElem?_eq_some_iff.1 hx
  obtain ⟨q, r, hqr⟩ : ∃ q r, P.drop (k + 1) = q :: r := by
    cases hd : P.drop (k + 1) with
    | nil => have := congrArg List.length hd; simp at this; omega
    | cons q r => exact ⟨q, r, rfl⟩
  rw [h.eq, List.drop_eq_getElem_cons h1.1, h1.2, hqr]
  simp only [scanL, hl]
  rfl
theorem Ln.last {P k done x} (h : Ln P k done) (hk : ¬ k + 1 < P.length) (hx : P[P.length - 1]? = some x) : scanL 1 P = if x.isEmpty then .inr done else .inl P.length := by
  have hl := h.le
  have hkk : k = P.length - 1 := by omega
  rw [← hkk] at hx
  have h1 := List.getElem?_eq_some_iff.1 hx
  rw [h.eq, List.drop_eq_getElem_cons h1.1, h1.2]
  have hd : P.drop (k + 1) = [] := List.drop_eq_nil_iff.2 (by omega)
  rw [hd]
  simp only [scanL]
  cases x with
  | nil => simp [comb]
  | cons c r => simp [comb]; omega
end Scan
theorem sv_eq_empty (x : List UInt8) : ((bs x).toList == ([] : List UInt8)) = x.isEmpty := by
  rw [bs_toList]; cases x <;> rfl
end Go.Proofs.YtjiifieafnjpgaaDoor
