/- A list of numbers that came in. -/
import Derived.Test.YtdogacgpfnolfaaGreatDoorRows
import Derived.Test.YtdogacgpfnolfaaGreatDoorJrV
import Derived.Test.YtdogacgpfnolfaaGreatDoorOpenFiles
import Derived.WideShapes
import Derived.Deep.Strs
import Derived.OpenShut
namespace Go.Proofs.YtdogacgpfnolfaaGreatDoor
open Go.RowKit Go.Deep Go.ChangeShapes Go.WideShapes
set_option linter.unusedSimpArgs false
set_option linter.unusedVariables false
theorem cellsIntC : Tryz.prog.cellsOf 3 = 1 := by kernel_rfl
theorem bulk_cuts {H : Type} (D : Nat → DataW H) (n : Nat) (h : ∀ i, i < n → 1 ≤ Rows.uptoBulk (D i)) : n ≤ Rows.uptoBulkAll ((List.range n).map D) := by
  have key : ∀ l : List Nat, (∀ i ∈ l, i < n) → l.length ≤ Rows.uptoBulkAll (l.map D) := by
    intro l
    induction l with
    | nil => intro _; simp
    | cons x r ih =>
      intro hx
      have h1 := h x (hx x List.mem_cons_self)
      have h2 := ih fun i hi => hx i (List.mem_cons_of_mem _ hi)
      simp only [List.map_cons, Rows.uptoBulkAll, List.length_cons]
      omega
  have := key (List.range n) fun i hi => List.mem_range.1 hi
  simpa using this
set_option maxRecDepth 100000 in
theorem open_cuts {H : Type} {enc : TypeId × Value → H} {W : World} {base : Nat} {v : Value} {d : DataW H} {p : List MemPlace}
    (hv : Value.okWide Tryz.prog W .any base 43 v) (h : DataW.Trod enc Tryz.prog W 0 (fun _ => true) true 43 v d p) :
    ∃ xs, Cuts W W.heap.size v xs ∧ xs.length ≤ Rows.uptoBulk d := by
  obtain ⟨fuel, hf⟩ := h
  obtain ⟨ao, n0, c0, rfl⟩ : ∃ ao n c, v = .slice ao n c := okWide_slice Tryz.underlying43 hv
  rcases open_slice1 Tryz.underlying43 cellsIntC hf with ⟨hv, hx⟩ | ⟨a, len, cap, m, n, V, D, Pl, hv, hb, hl, hm, hmm, hx, hc⟩
  · have hv' : Value.slice ao n0 c0 = .slice none 0 0 := by simpa [Value.cells] using hv
    rw [hv']
    cases hx
    exact ⟨[], ⟨⟨none, 0, rfl, fun i x h => by simp at h⟩⟩, by simp⟩
  · have hv' : Value.slice ao n0 c0 = .slice (some a) len cap := by simpa [Value.cells] using hv
    rw [hv']
    simp only [Prod.mk.injEq] at hx
    obtain ⟨rfl, _⟩ := hx
    have hlm : len ≤ m := by rw [hmm]; split <;> omega
    obtain ⟨L, hL⟩ := choose_lt (α := Int) (n := len) (p := fun i x => (W.cell? (a.add i) = some (.int .i64 x) ∧ x ≤ 9223372036854775807) ∧ 1 ≤ Rows.uptoBulk (D i)) fun i hi => by
      obtain ⟨hcell, htr⟩ := hc i (by omega)
      obtain ⟨x, e0, hg, hw⟩ := DataW.trod_int Tryz.underlying3 htr
      simp only [List.cons.injEq, and_true] at e0
      rw [e0] at hcell
      refine ⟨x, ⟨hcell, ?_⟩, ?_⟩
      · have := hw
        simp only [Lit.wf, IntKind.min, IntKind.max, IntKind.signed, IntKind.bits, Bool.and_eq_true, decide_eq_true_eq, if_true] at this
        omega
      · have : D i = .lit (.int .i64 x) := by first | exact (congrArg Prod.fst hg) | exact hg
        rw [this]
        simp [Rows.uptoBulk]
    rcases Nat.eq_zero_or_pos len with h0 | h0
    · subst h0
      exact ⟨[], ⟨⟨some a, cap, rfl, fun i d hd => by simp at hd⟩⟩, by simp⟩
    have c00 := (hL 0 h0).1.1
    obtain ⟨bk, o, sp⟩ := a
    have hsp : sp = none := by
      cases sp with
      | none => rfl
      | some x =>
        rw [show (⟨bk, o, some x⟩ : Addr).add 0 = ⟨bk, o, some x⟩ from rfl] at c00
        unfold World.cell? at c00
        simp only at c00
        cases hh : W.heap[bk]? with
        | none => rw [hh] at c00; simp at c00
        | some ob => rw [hh] at c00; cases ob <;> simp at c00
    subst hsp
    refine ⟨(List.range len).map L, ⟨⟨some ⟨bk, o, none⟩, cap, by simp, fun i x hx => ?_⟩⟩, ?_⟩
    · rw [List.getElem?_map] at hx
      by_cases hi : i < len
      · rw [List.getElem?_range hi] at hx
        simp at hx
        subst hx
        obtain ⟨⟨h1, h2⟩, _⟩ := hL i hi
        rw [add_form] at h1
        exact ⟨⟨bk, o, rfl, cell_lt h1, h1⟩, h2⟩
      · rw [List.getElem?_eq_none (by simpa using hi)] at hx
        simp at hx
    · have := bulk_cuts D len fun i hi => (hL i hi).2
      rw [Rows.uptoBulk, List.length_map, List.length_range]
      omega
end Go.Proofs.YtdogacgpfnolfaaGreatDoor
