/- What the walks of DiskWhole and DiskOwns share. -/
import Derived.Test.YtnfklomokjhojaaGreatDoorZTwo
import Derived.Test.YtnfklomokjhojaaGreatDoorZWholeP
namespace Go.Proofs.YtnfklomokjhojaaGreatDoor
open Go.RowKit Go.Maps
set_option linter.unusedSimpArgs false
set_option linter.unusedVariables false
theorem Dqs.mono {w : World} {B B' : Nat} {v : Value} {ds : List Disk.Dq} (h : Dqs w B v ds) (hB : B ≤ B') : Dqs w B' v ds := by
  obtain ⟨a, cap, rfl, hc⟩ := h.is
  refine ⟨a, cap, rfl, fun i d hd => ?_⟩
  obtain ⟨bk, o, ha, hb', h1⟩ := hc i d hd
  exact ⟨bk, o, ha, by omega, h1⟩
theorem own_keep {w w' : World} {b : Nat} {e : TypeId} {z : Nat} {v : Value} {n : Nat} {xs : List Value} (h : w.ownsRow b e z v n xs) (hk : ∀ g, v.ownBlock = some g → b ≤ g → g < w.heap.size → w'.heap[g]? = w.heap[g]?) : w'.ownsRow b e z v n xs := by
  have hlt := World.ownsRow.lt h
  obtain ⟨h1, h2⟩ := h
  refine ⟨h1, ?_⟩
  rcases h2 with h2 | ⟨g, cap, cur, rfl, hb, hg, h3⟩
  · exact Or.inl h2
  · refine Or.inr ⟨g, cap, cur, rfl, hb, ?_, h3⟩
    have := hlt g rfl
    rw [hk g rfl this.1 this.2]
    exact hg
theorem Duo.keeps {w w' : World} {B : Nat} {Z : Nat → Prop} {sd rd n : Nat} {a b : Disk.S} {O1 : Nat → Prop} (h : Duo w B Z sd rd n a b) (hk : Keeps O1 w w') (hO : ∀ k, O1 k → k < B) : Duo w' B Z sd rd n a b := by
  obtain ⟨OA, OB, h1, h2, h3, h4⟩ := h
  exact ⟨OA, OB, h1.keeps hk (fun k h5 h6 => by have := (h1.lim k h5).1; have := hO k h6; omega), h2.keeps hk (fun k h5 h6 => by have := (h2.lim k h5).1; have := hO k h6; omega), h3, fun k hk2 => ⟨(h4 k hk2).1, (h4 k hk2).2.1, Nat.lt_of_lt_of_le (h4 k hk2).2.2 hk.size⟩⟩
theorem drewN_add (w : World) (a b : Nat) : (w.drewN a).drewN b = w.drewN (a + b) := by
  unfold World.drewN
  simp only [Nat.add_assoc]
theorem pick_small {k : Int} (h0 : 0 ≤ k) (h1 : k < 4) : k = Disk.pickI k 11 := by
  unfold Disk.pickI
  rw [if_neg (by omega), Int.tmod_eq_emod_of_nonneg h0]
  omega
theorem any_next {Y : List Disk.Fl} {k : Nat} {g f : Disk.Fl} (h : Y[k]? = some g) : ((Y.take (k + 1)).any fun g => decide (g = f)) = (((Y.take k).any fun g => decide (g = f)) || decide (g = f)) := by
  rw [List.take_add_one, h, List.any_append]
  simp
theorem any_all {Y : List Disk.Fl} {k : Nat} {f : Disk.Fl} (hk : Y.length ≤ k) (h : f ∈ Y) : ((Y.take k).any fun g => decide (g = f)) = true := by
  rw [List.take_of_length_le hk]
  exact List.any_eq_true.2 ⟨f, h, decide_eq_true rfl⟩
theorem bor_next {T A D : Bool} (h : (false = true) ↔ (T = true ∨ A = true)) : (D = true) ↔ (T = true ∨ (A || D) = true) := by cases T <;> cases A <;> cases D <;> simp_all
theorem bor_keep {T A D : Bool} (h : (true = true) ↔ (T = true ∨ A = true)) : (true = true) ↔ (T = true ∨ (A || D) = true) := by cases T <;> cases A <;> cases D <;> simp_all
theorem bor_keep' {T A D : Bool} (h : True ↔ (T = true ∨ A = true)) : (true = true) ↔ (T = true ∨ (A || D) = true) := by cases T <;> cases A <;> cases D <;> simp_all
theorem touch_cases (k : Int) (y : Disk.Dq) (f : Disk.Fl) :
    ((((bs f.path).toList == (bs y.path).toList) = true ∧ Disk.touched k y f = true) ∨ (((bs f.path).toList == (bs y.path).toList) = false ∧ (k == 2) = false ∧ Disk.touched k y f = false)) ∨
    ((((bs f.path).toList == (bs y.path).toList) = false ∧ (k == 2) = true ∧ ((bs f.path).toList == (bs y.to).toList) = true ∧ Disk.touched k y f = true) ∨
    (((bs f.path).toList == (bs y.path).toList) = false ∧ (k == 2) = true ∧ ((bs f.path).toList == (bs y.to).toList) = false ∧ Disk.touched k y f = false)) := by
  rw [sv_inj, sv_inj, show (k == 2) = decide (k = 2) from rfl]
  unfold Disk.touched
  generalize decide (f.path = y.path) = a
  generalize decide (k = 2) = b
  generalize decide (f.path = y.to) = c
  cases a <;> cases b <;> cases c <;> simp
end Go.Proofs.YtnfklomokjhojaaGreatDoor
