/- A list of what is asked of a disk that came in: what its rows hold, and its bulk. -/
import Derived.Test.YtnfklomokjhojaaGreatDoorOpenFiles
import Derived.DataShut
import Derived.Test.YtnfklomokjhojaaGreatDoorDqs
namespace Go.Proofs.YtnfklomokjhojaaGreatDoor
open Go.RowKit Go.Deep Go.ChangeShapes Go.WideShapes
set_option linter.unusedSimpArgs false
set_option linter.unusedVariables false
instance : Inhabited Disk.Dq := ⟨⟨0, [], [], [], 0⟩⟩
theorem cellsInt : Tryz.prog.cellsOf 3 = 1 := by kernel_rfl
theorem cellsDq : Tryz.prog.cellsOf 29 = 5 := by kernel_rfl
theorem dqStruct : Tryz.prog.underlying 29 = some (.struct (Tryz.prog.fieldsOf 29)) := by kernel_rfl
theorem dqFields : (Tryz.prog.fieldsOf 29).toList.map (fun f => (f.name, f.type, f.offset)) = [("Kind", 3, 0), ("Path", 9, 1), ("To", 9, 2), ("Data", 9, 3), ("N", 3, 4)] := by kernel_rfl
theorem len_5 {α : Type} {l : List α} (h : l.length = 5) : ∃ x0 x1 x2 x3 x4, l = [x0, x1, x2, x3, x4] := by
  match l, h with
  | [x0, x1, x2, x3, x4], _ => exact ⟨x0, x1, x2, x3, x4, rfl⟩
theorem open_dq {H : Type} {enc : TypeId × Value → H} {W : World} {base fuel : Nat} {spare : Nat → Bool} {held : Bool} {cs : List Value} {x : DataW H × List MemPlace}
    (h : DataW.trod enc Tryz.prog W base spare held fuel 29 cs = some x) : ∃ d : Disk.Dq, cs = [.int .i64 d.kind, .string (bs d.path), .string (bs d.to), .string (bs d.data), .int .i64 d.n] ∧ d.path.length + d.to.length + d.data.length + 4 ≤ Rows.uptoBulk x.1 ∧ d.Fits := by
  obtain ⟨xs, n, _, rfl, hl, hlen, hf⟩ := DataW.trod_struct dqStruct h
  rw [cellsDq] at hl
  have hs := dqFields
  have hsz : (Tryz.prog.fieldsOf 29).size = 5 := by
    have := congrArg List.length hs
    simpa using this
  obtain ⟨fs, hfs⟩ : ∃ fs, fs = Tryz.prog.fieldsOf 29 := ⟨_, rfl⟩
  rw [← hfs] at hs hf hlen hsz
  have fact : ∀ (i : Nat) (h : i < 5), ∃ f, fs[i]? = some f ∧ fs.toList[i]? = some f := fun i h => ⟨fs[i]'(by omega), by simp [show i < fs.size by omega], by simp [show i < fs.size by omega]⟩
  obtain ⟨f0, hf0, hg0⟩ := fact 0 (by omega)
  obtain ⟨f1, hf1, hg1⟩ := fact 1 (by omega)
  obtain ⟨f2, hf2, hg2⟩ := fact 2 (by omega)
  obtain ⟨f3, hf3, hg3⟩ := fact 3 (by omega)
  obtain ⟨f4, hf4, hg4⟩ := fact 4 (by omega)
  have at_ : ∀ (i : Nat) (f : Field), fs.toList[i]? = some f → [("Kind", 3, 0), ("Path", 9, 1), ("To", 9, 2), ("Data", 9, 3), ("N", 3, 4)][i]? = some (f.name, f.type, f.offset) := fun i f hi => by
    rw [← hs, List.getElem?_map, hi]; rfl
  have a0 := at_ 0 f0 hg0
  have a1 := at_ 1 f1 hg1
  have a2 := at_ 2 f2 hg2
  have a3 := at_ 3 f3 hg3
  have a4 := at_ 4 f4 hg4
  simp only [List.getElem?_cons_zero, List.getElem?_cons_succ, Option.some.injEq, Prod.mk.injEq] at a0 a1 a2 a3 a4
  obtain ⟨_, t0, o0⟩ := a0
  obtain ⟨_, t1, o1⟩ := a1
  obtain ⟨_, t2, o2⟩ := a2
  obtain ⟨_, t3, o3⟩ := a3
  obtain ⟨_, t4, o4⟩ := a4
  have k0 := hf 0 f0 hf0
  have k1 := hf 1 f1 hf1
  have k2 := hf 2 f2 hf2
  have k3 := hf 3 f3 hf3
  have k4 := hf 4 f4 hf4
  rw [← t0, ← o0, cellsInt] at k0
  rw [← t1, ← o1, cellsStr] at k1
  rw [← t2, ← o2, cellsStr] at k2
  rw [← t3, ← o3, cellsStr] at k3
  rw [← t4, ← o4, cellsInt] at k4
  rw [hsz] at hlen
  clear hf hf0 hf1 hf2 hf3 hf4 fact at_ hs
  obtain ⟨y0, y1, y2, y3, y4, rfl⟩ := len_5 hlen
  obtain ⟨c0, c1, c2, c3, c4, rfl⟩ := len_5 hl
  simp only [List.drop_zero, List.drop_succ_cons, List.take_succ_cons, List.take_zero, List.getElem?_cons_zero, List.getElem?_cons_succ] at k0 k1 k2 k3 k4
  obtain ⟨m0, e0, g0, w0⟩ := DataW.trod_int Tryz.underlying3 k0
  obtain ⟨m1, e1, g1, w1⟩ := DataW.trod_string Tryz.underlying9 k1
  obtain ⟨m2, e2, g2, w2⟩ := DataW.trod_string Tryz.underlying9 k2
  obtain ⟨m3, e3, g3, w3⟩ := DataW.trod_string Tryz.underlying9 k3
  obtain ⟨m4, e4, g4, w4⟩ := DataW.trod_int Tryz.underlying3 k4
  simp only [List.cons.injEq, and_true] at e0 e1 e2 e3 e4
  subst e0 e1 e2 e3 e4 g0 g1 g2 g3 g4
  have fit : ∀ n : Int, (Lit.int .i64 n).wf = true → -9223372036854775808 ≤ n ∧ n ≤ 9223372036854775807 := fun n h => (Lit.wf_int_iff .i64 n).1 h
  refine ⟨⟨m0, m1.data.toList, m2.data.toList, m3.data.toList, m4⟩, rfl, ?_, fit _ w0, fit _ w4⟩
  simp only [List.map_cons, List.map_nil, Rows.uptoBulk, Rows.uptoBulkAll]
  omega
theorem bulk_dqs {H : Type} (L : Nat → Disk.Dq) (D : Nat → DataW H) (n : Nat) (h : ∀ i, i < n → (L i).path.length + (L i).to.length + (L i).data.length + 4 ≤ Rows.uptoBulk (D i)) :
    ((List.range n).map L).length * 4 ≤ Rows.uptoBulkAll ((List.range n).map D) ∧ ∀ d ∈ (List.range n).map L, d.path.length + d.to.length + d.data.length ≤ Rows.uptoBulkAll ((List.range n).map D) := by
  have key : ∀ l : List Nat, (∀ i ∈ l, i < n) → (l.map L).length * 4 ≤ Rows.uptoBulkAll (l.map D) ∧ ∀ d ∈ l.map L, d.path.length + d.to.length + d.data.length ≤ Rows.uptoBulkAll (l.map D) := by
    intro l
    induction l with
    | nil => intro _; exact ⟨by simp, fun d hd => by simp at hd⟩
    | cons x r ih =>
      intro hx
      have h1 := h x (hx x List.mem_cons_self)
      have h2 := ih fun i hi => hx i (List.mem_cons_of_mem _ hi)
      simp only [List.map_cons, Rows.uptoBulkAll, List.length_cons]
      refine ⟨by omega, fun d hd => ?_⟩
      rcases List.mem_cons.1 hd with rfl | hd
      · omega
      · have := h2.2 d hd; omega
  exact key _ fun i hi => List.mem_range.1 hi
set_option maxRecDepth 100000 in
theorem open_dqs {H : Type} {enc : TypeId × Value → H} {W : World} {base : Nat} {v : Value} {d : DataW H} {p : List MemPlace}
    (hv : Value.okWide Tryz.prog W .any base 22 v) (h : DataW.Trod enc Tryz.prog W 0 (fun _ => true) true 22 v d p) :
    ∃ ds, Dqs W W.heap.size v ds ∧ (ds.length * 4 ≤ Rows.uptoBulk d ∧ (∀ x ∈ ds, x.path.length + x.to.length + x.data.length ≤ Rows.uptoBulk d ∧ x.Fits) ∧ ∀ a c, v = .slice a ds.length c → ds.length ≤ c) := by
  obtain ⟨fuel, hf⟩ := h
  obtain ⟨ao, n0, c0, rfl⟩ : ∃ ao n c, v = .slice ao n c := okWide_slice Tryz.underlying22 hv
  rcases open_slice Tryz.underlying22 hf with ⟨hv, hx⟩ | ⟨a, len, cap, m, n, D, Pl, hv, hb, hl, hm, hmm, hx, hc⟩
  · have hv' : Value.slice ao n0 c0 = .slice none 0 0 := by simpa [Value.cells] using hv
    rw [hv']
    cases hx
    exact ⟨[], Dqs.nil _ _, by simp, fun x hx => by simp at hx, fun _ _ _ => Nat.zero_le _⟩
  · have hv' : Value.slice ao n0 c0 = .slice (some a) len cap := by simpa [Value.cells] using hv
    rw [hv']
    simp only [Prod.mk.injEq] at hx
    obtain ⟨rfl, _⟩ := hx
    have hlm : len ≤ m := by rw [hmm]; split <;> omega
    obtain ⟨L, hL⟩ := choose_lt (α := Disk.Dq) (n := len) (p := fun i x => (W.cell? (a.add (i * 5)) = some (.int .i64 x.kind) ∧ W.cell? ((a.add (i * 5)).add 1) = some (.string (bs x.path)) ∧ W.cell? ((a.add (i * 5)).add 2) = some (.string (bs x.to)) ∧ W.cell? ((a.add (i * 5)).add 3) = some (.string (bs x.data)) ∧ W.cell? ((a.add (i * 5)).add 4) = some (.int .i64 x.n)) ∧ x.path.length + x.to.length + x.data.length + 4 ≤ Rows.uptoBulk (D i) ∧ x.Fits) fun i hi => by
      obtain ⟨cs, hcs, htr⟩ := hc i (by omega)
      rw [cellsDq] at hcs
      obtain ⟨x, rfl, hbk⟩ := open_dq htr
      obtain ⟨_, _, hcell⟩ := World.cells?_some hcs
      exact ⟨x, ⟨hcell 0 (by omega), hcell 1 (by omega), hcell 2 (by omega), hcell 3 (by omega), hcell 4 (by omega)⟩, hbk⟩
    rcases Nat.eq_zero_or_pos len with h0 | h0
    · subst h0
      exact ⟨[], ⟨⟨some a, cap, rfl, fun i d hd => by simp at hd⟩⟩, by simp, fun x hx => by simp at hx, fun _ _ _ => Nat.zero_le _⟩
    have c00 := (hL 0 h0).1.1
    obtain ⟨bk, o, sp⟩ := a
    have hsp : sp = none := by
      cases sp with
      | none => rfl
      | some x =>
        rw [show (⟨bk, o, some x⟩ : Addr).add (0 * 5) = ⟨bk, o, some x⟩ from rfl] at c00
        unfold World.cell? at c00
        simp only at c00
        cases hh : W.heap[bk]? with
        | none => rw [hh] at c00; simp at c00
        | some ob => rw [hh] at c00; cases ob <;> simp at c00
    subst hsp
    refine ⟨(List.range len).map L, ⟨⟨some ⟨bk, o, none⟩, cap, by simp, fun i d hd => ⟨bk, o, rfl, ?_⟩⟩⟩, ?_⟩
    · rw [List.getElem?_map] at hd
      by_cases hi : i < len
      · rw [List.getElem?_range hi] at hd
        simp at hd
        subst hd
        obtain ⟨⟨h1, h2, h3, h4, h5⟩, _⟩ := hL i hi
        rw [add_form] at h1
        rw [add_form, add_form] at h2 h3 h4 h5
        exact ⟨cell_lt h1, h1, h2, h3, h4, h5⟩
      · rw [List.getElem?_eq_none (by simpa using hi)] at hd
        simp at hd
    · have := bulk_dqs L D len fun i hi => (hL i hi).2.1
      rw [Rows.uptoBulk]
      refine ⟨by omega, fun x hx => ?_, fun a' c' e => ?_⟩
      · obtain ⟨i, hi, rfl⟩ := List.mem_map.1 hx
        have hf := (hL i (List.mem_range.1 hi)).2.2
        have := this.2 _ hx
        exact ⟨by omega, hf⟩
      · injection e with _ _ e3
        subst e3
        simpa using hl
end Go.Proofs.YtnfklomokjhojaaGreatDoor
