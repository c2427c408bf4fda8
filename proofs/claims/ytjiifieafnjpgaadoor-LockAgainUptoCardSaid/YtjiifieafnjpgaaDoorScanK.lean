/- The law's fixed example. -/
import Derived.Test.YtjiifieafnjpgaaDoorScanQ
import Derived.Test.YtjiifieafnjpgaaDoorScanM
import Derived.Test.YtjiifieafnjpgaaDoorScanE
import Derived.Handy
import Derived.WalkMore
import Derived.WalkLawsBesides
import Derived.WalkSpells
import Derived.Outline
import Derived.Lib.Hide
import Derived.BigQuiet
namespace Go.Proofs.YtjiifieafnjpgaaDoor
open Go.RowKit
set_option linter.unusedSimpArgs false
set_option linter.unusedVariables false
theorem Below.drewN {B : Nat} {a w : World} (h : Below B a w) (m : Nat) : Below B a (w.drewN m) := ⟨h.os, h.tape, h.output, h.size, h.block⟩
theorem Row.new (w : World) (cs : List Value) (t : TypeId) (cap : Nat) (hcap : cs.length ≤ cap) : Row (w.alloc (.cells cs.toArray t)) (w.heap.size + 1) (.slice (Option.some ⟨w.heap.size, 0, none⟩) cs.length cap) cs := by
  refine ⟨Option.some ⟨w.heap.size, 0, none⟩, cap, rfl, hcap, fun i u hu => ⟨⟨w.heap.size, 0, none⟩, rfl, by show w.heap.size < _; omega, ?_⟩⟩
  have e : (⟨w.heap.size, 0, none⟩ : Addr).add i = ⟨w.heap.size, i, none⟩ := by
    unfold Addr.add
    split
    · next h => rw [h]
    · simp
  rw [e, World.cell?_alloc_new]
  simpa using hu
theorem Row.alloc {w : World} {B : Nat} {v : Value} {xs : List Value} (h : Row w B v xs) (hB : B ≤ w.heap.size) (o : Obj) : Row (w.alloc o) B v xs :=
  h.below ((Below.refl B w).alloc hB o) (Nat.le_refl _)
theorem Grid.mono {w : World} {B B' : Nat} {v : Value} {ls : List (List (List UInt8))} (h : Grid w B v ls) (hB : B ≤ B') : Grid w B' v ls := by
  obtain ⟨vs, h1, h2, h3⟩ := h.is
  exact ⟨vs, h1.mono hB, h2, fun i u l hu hl => (h3 i u l hu hl).mono hB⟩
theorem known_spec : Scan.spec [97, 32, 98, 99, 10, 100, 10] = .inr [[[97], [98, 99]], [[100]]] := by decide
theorem known_num : numRes [49, 50] 20 = .tuple #[.int .i64 12, .bool true] := by
  have : Num.numOf [49, 50] = some 12 := by
    have h : Go.Lib.decDigits 12 = [49, 50] := by
      rw [Num.dec_big (by omega), Num.dec_small (by omega)]; decide
    rw [← h]
    exact Num.numOf_dec (by omega)
  simp only [numRes, Num.numAns, this]
  rfl
/-- The example's rows, as the code builds them. -/
theorem known_grid (w : World) (ts tl : TypeId) :
    Grid (((w.alloc (.cells #[.string ⟨#[97]⟩, .string ⟨#[98, 99]⟩] ts)).alloc (.cells #[.string ⟨#[100]⟩] ts)).alloc (.cells #[.slice (some ⟨w.heap.size, 0, none⟩) 2 2, .slice (some ⟨w.heap.size + 1, 0, none⟩) 1 1] tl)) (w.heap.size + 3)
      (.slice (some ⟨w.heap.size + 2, 0, none⟩) 2 2) [[[97], [98, 99]], [[100]]] := by
  have r1 : Row (w.alloc (.cells #[.string ⟨#[97]⟩, .string ⟨#[98, 99]⟩] ts)) (w.heap.size + 1) (.slice (some ⟨w.heap.size, 0, none⟩) 2 2) [sv [97], sv [98, 99]] := Row.new w [.string ⟨#[97]⟩, .string ⟨#[98, 99]⟩] ts 2 (by decide)
  have r2 : Row ((w.alloc (.cells #[.string ⟨#[97]⟩, .string ⟨#[98, 99]⟩] ts)).alloc (.cells #[.string ⟨#[100]⟩] ts)) (w.heap.size + 2) (.slice (some ⟨w.heap.size + 1, 0, none⟩) 1 1) [sv [100]] := by
    have := Row.new (w.alloc (.cells #[.string ⟨#[97]⟩, .string ⟨#[98, 99]⟩] ts)) [.string ⟨#[100]⟩] ts 1 (by decide)
    simp only [World.size_alloc] at this
    exact this
  have r3 : Row (((w.alloc (.cells #[.string ⟨#[97]⟩, .string ⟨#[98, 99]⟩] ts)).alloc (.cells #[.string ⟨#[100]⟩] ts)).alloc (.cells #[.slice (some ⟨w.heap.size, 0, none⟩) 2 2, .slice (some ⟨w.heap.size + 1, 0, none⟩) 1 1] tl)) (w.heap.size + 3) (.slice (some ⟨w.heap.size + 2, 0, none⟩) 2 2) [.slice (some ⟨w.heap.size, 0, none⟩) 2 2, .slice (some ⟨w.heap.size + 1, 0, none⟩) 1 1] := by
    have := Row.new ((w.alloc (.cells #[.string ⟨#[97]⟩, .string ⟨#[98, 99]⟩] ts)).alloc (.cells #[.string ⟨#[100]⟩] ts)) [.slice (some ⟨w.heap.size, 0, none⟩) 2 2, .slice (some ⟨w.heap.size + 1, 0, none⟩) 1 1] tl 2 (by simp)
    simp only [World.size_alloc] at this
    exact this
  refine ⟨_, r3, rfl, fun i u l hu hl => ?_⟩
  match i, hu, hl with
  | 0, hu, hl =>
    simp at hu hl; subst hu; subst hl
    exact ((r1.alloc (by simp) _).alloc (by simp) _).mono (by omega)
  | 1, hu, hl =>
    simp at hu hl; subst hu; subst hl
    exact (r2.alloc (by simp) _).mono (by omega)
  | i + 2, hu, hl => simp at hu
end Go.Proofs.YtjiifieafnjpgaaDoor
