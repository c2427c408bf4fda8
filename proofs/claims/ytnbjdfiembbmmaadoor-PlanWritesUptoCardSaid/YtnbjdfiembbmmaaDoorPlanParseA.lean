/- plan.Parse: the walk, where the first line is not the one asked for. -/
import Derived.Test.YtnbjdfiembbmmaaDoorPlanParse
import Derived.Test.YtnbjdfiembbmmaaDoorPlanParseQ
import Derived.Test.YtnbjdfiembbmmaaDoorScanJP
namespace Go.Proofs.YtnbjdfiembbmmaaDoor
open Go.RowKit
set_option linter.unusedSimpArgs false
set_option linter.unusedVariables false
theorem new_cells (w : World) (cs : List Value) (t : TypeId) : ∀ (j : Nat) u, cs[j]? = some u → (w.alloc (.cells cs.toArray t)).cell? ((⟨w.heap.size, 0, none⟩ : Addr).add j) = some u := by
  intro j u hu
  have e : (⟨w.heap.size, 0, none⟩ : Addr).add j = ⟨w.heap.size, j, none⟩ := by
    unfold Addr.add
    split
    · next h => rw [h]
    · simp
  rw [e, World.cell?_alloc_new]
  simpa using hu
theorem new_cells2 (w : World) (n : Nat) (hn : w.heap.size = n) (cs : List Value) (t : TypeId) : ∀ (j : Nat) u, cs[j]? = some u → (w.alloc (.cells cs.toArray t)).cell? ((⟨n, 0, none⟩ : Addr).add j) = some u := by
  subst hn
  exact new_cells w cs t
theorem own_not {w : World} {base : Nat} {e : TypeId} {z n c bd : Nat} {a : Option Addr} {xs : List Value} (h : w.ownsRow base e z (.slice a n c) n xs) (hb : w.heap.size ≤ bd) : (Value.slice a n c).ownBlock = none ∨ (Value.slice a n c).ownBlock ≠ some bd := by
  cases ho : (Value.slice a n c).ownBlock with
  | none => exact Or.inl rfl
  | some g => exact Or.inr (fun e => by cases e; have := (h.lt _ ho).2; omega)
theorem words_cell {W : World} {t : TypeId} {j : Nat} {u : Value} (hu : ([.string ⟨#[]⟩, .string ⟨#[117, 110, 108, 105, 110, 107]⟩, .string ⟨#[114, 109, 100, 105, 114]⟩, .string ⟨#[109, 107, 100, 105, 114]⟩, .string ⟨#[112, 117, 116]⟩] : List Value)[j]? = some u) :
    (W.alloc (.cells #[.string ⟨#[]⟩, .string ⟨#[117, 110, 108, 105, 110, 107]⟩, .string ⟨#[114, 109, 100, 105, 114]⟩, .string ⟨#[109, 107, 100, 105, 114]⟩, .string ⟨#[112, 117, 116]⟩] t)).cell? ⟨W.heap.size, j, none⟩ = some u := by
  rw [World.cell?_alloc_new]
  simpa using hu
set_option maxHeartbeats 4000000 in
set_option maxRecDepth 100000 in
theorem parse_few (s : ByteArray) (hs : s.size ≤ 3500000000000) (w : World) (hno : ∀ r, Scan.spec s.data.toList ≠ .inr ([Plan.planW] :: r)) :
    Calls Tryd.prog 17 #[.string s] w (ParsePost s.data.toList w) := by
  obtain ⟨i0, hi, hz0, hz1, hz2⟩ := info_parts infoDeed
  cases hsp : Scan.spec s.data.toList with
  | inl n =>
    have HA := Lib.hid (ans_bad (s := s) (most := s.size) (by omega) hsp)
    have HP : Hid (Plan.parse s.data.toList = (22, [])) := Lib.hid (by unfold Plan.parse; rw [hsp])
    clear hsp hno
    go_enter Tryd.func17, Tryd.ntmps17
    go_wp2_with fail
    refine (lines_ans s _ (by omega) _).mono ?_
    rintro e w1 ⟨va, hsa, rfl, hla, hb1⟩
    rw [HA.out] at hla ⊢
    clear hla
    go_wp2_with fail
    go_returns
    exact ParsePost.bad HP.out hb1
  | inr ls =>
    have HA := Lib.hid (ans_ok (s := s) (most := s.size) (by omega) hsp)
    have hz := Scan.ans_sizes s s.size
    rw [HA.out] at hz
    have HZ := Lib.hid hz.2
    have hlen : ls.length ≤ 3500000000001 := by have : ls.length ≤ s.size + 1 := hz.1; omega
    clear hz
    cases ls with
    | nil =>
      have HP : Hid (Plan.parse s.data.toList = (44, [])) := Lib.hid (by unfold Plan.parse; rw [hsp])
      clear hsp hno
      go_enter Tryd.func17, Tryd.ntmps17
      go_wp2_with fail
      refine (lines_ans s _ (by omega) _).mono ?_
      rintro e w1 ⟨va, hsa, rfl, hla, hb1⟩
      rw [HA.out] at hla ⊢
      obtain ⟨a0, c0, rfl⟩ := own_form hla.row
      clear hla
      go_wp2_with fail
      go_returns
      exact ParsePost.bad HP.out hb1
    | cons h r =>
      obtain ⟨N, hN⟩ : ∃ N, N = (h :: r).length := ⟨_, rfl⟩
      have hNr : N = r.length + 1 := by rw [hN]; rfl
      rw [← hN] at hlen
      have HH0 := Lib.hid (HZ.out h List.mem_cons_self)
      have hplan : ¬ h = [Plan.planW] := fun e => hno r (by rw [hsp, e])
      have HPL := Lib.hid (show decide (h = [Plan.planW]) = false by simp [hplan])
      have HP : Hid (Plan.parse s.data.toList = (44, [])) := Lib.hid (by unfold Plan.parse; rw [hsp]; simp only [if_neg hplan])
      have HN := Lib.hid hN
      clear hsp hno hN hplan
      go_enter Tryd.func17, Tryd.ntmps17
      go_wp2_with fail
      refine (lines_ans s _ (by omega) _).mono ?_
      rintro e w1 ⟨va, hsa, rfl, hla, hb1⟩
      rw [HA.out] at hla ⊢
      have hvs := hla.grid_rows
      have hrow := hla.row
      rw [← HN.out] at hrow
      obtain ⟨g, cap, rfl, hg1, hg2⟩ := own_some hrow (by omega)
      obtain ⟨vs, hvsd⟩ : ∃ vs, vs = List.zipWith (fun h (l : List (List UInt8)) => rv h l.length) hsa (h :: r) := ⟨_, rfl⟩
      rw [← hvsd] at hvs hrow
      obtain ⟨u0, hu0⟩ : ∃ u, vs[0]? = some u := ⟨_, List.getElem?_eq_getElem (by have := hvs.1; simp at this; omega)⟩
      have e0 : w1.cell? ⟨g, 0, none⟩ = some u0 := by rw [hrow.cellAt 0 (by omega)]; exact hu0
      have HR0 := Lib.hid (hvs.2 0 u0 h hu0 rfl)
      have hN1 : 1 ≤ N := by omega
      have hNz : ((N : Int) == 0) = false := by rw [beq_eq_false_iff_ne]; omega
      clear hu0 hla hvs hrow hvsd
      go_wp2_with fail
      refine (EqualPlan (w := w1.alloc (.cells #[.string ⟨#[112, 108, 97, 110]⟩] 9)) (HR0.out.alloc (Nat.le_refl _) _) HH0.out.2 (by have := HH0.out.1; omega) w1.heap.size (by simp)).mono ?_
      rintro e w2 ⟨rfl, q2, rfl⟩
      rw [HPL.out]
      go_wp2_with fail
      go_returns
      exact ParsePost.bad HP.out (hb1.trans (Below.drewN (((Below.refl _ w1).alloc (Nat.le_refl _) _).mono hb1.size) q2))
end Go.Proofs.YtnbjdfiembbmmaaDoor
