/- A list of files that came in: what its rows hold, and its bulk. -/
import Derived.Test.YtdogacgpfnolfaaGreatDoorRows
import Derived.Test.YtdogacgpfnolfaaGreatDoorEq
import Derived.Test.YtdogacgpfnolfaaGreatDoorFiles
import Derived.WideShapes
import Derived.Deep.Strs
import Derived.OpenShut
namespace Go.Proofs.YtdogacgpfnolfaaGreatDoor
open Go.RowKit Go.Deep Go.ChangeShapes Go.WideShapes
set_option linter.unusedSimpArgs false
set_option linter.unusedVariables false
theorem cell_lt {w : World} {a : Addr} {v : Value} (h : w.cell? a = some v) : a.block < w.heap.size := by
  refine Decidable.byContradiction fun hh => ?_
  unfold World.cell? at h
  rw [Array.getElem?_eq_none (by simpa using hh)] at h
  exact absurd h (by simp)
instance : Inhabited Disk.Fl := ⟨⟨[], false, []⟩⟩
theorem cellsBool : Tryz.prog.cellsOf 4 = 1 := by kernel_rfl
theorem cellsStr : Tryz.prog.cellsOf 9 = 1 := by kernel_rfl
theorem cellsFile : Tryz.prog.cellsOf 70 = 3 := by kernel_rfl
theorem len_three {α : Type} {l : List α} (h : l.length = 3) : ∃ a b c, l = [a, b, c] := by
  match l, h with
  | [a, b, c], _ => exact ⟨a, b, c, rfl⟩
theorem open_file {H : Type} {enc : TypeId × Value → H} {W : World} {base fuel : Nat} {spare : Nat → Bool} {held : Bool} {cs : List Value} {x : DataW H × List MemPlace}
    (h : DataW.trod enc Tryz.prog W base spare held fuel 70 cs = some x) : ∃ d : Disk.Fl, cs = [.string (bs d.path), .bool d.dir, .string (bs d.data)] ∧ d.path.length + d.data.length + 4 ≤ Rows.uptoBulk x.1 := by
  obtain ⟨xs, n, _, rfl, hl, hlen, hf⟩ := DataW.trod_struct fileStruct h
  rw [cellsFile] at hl
  have hs := fileFields
  have hsz : (Tryz.prog.fieldsOf 70).size = 3 := by
    have := congrArg List.length hs
    simpa using this
  obtain ⟨fs, hfs⟩ : ∃ fs, fs = Tryz.prog.fieldsOf 70 := ⟨_, rfl⟩
  rw [← hfs] at hs hf hlen hsz
  have fact : ∀ (i : Nat) (h : i < 3), ∃ f, fs[i]? = some f ∧ fs.toList[i]? = some f := fun i h => ⟨fs[i]'(by omega), by simp [show i < fs.size by omega], by simp [show i < fs.size by omega]⟩
  obtain ⟨f0, hf0, hg0⟩ := fact 0 (by omega)
  obtain ⟨f1, hf1, hg1⟩ := fact 1 (by omega)
  obtain ⟨f2, hf2, hg2⟩ := fact 2 (by omega)
  have at_ : ∀ (i : Nat) (f : Field), fs.toList[i]? = some f → [("Path", 9, 0), ("Dir", 4, 1), ("Data", 9, 2)][i]? = some (f.name, f.type, f.offset) := fun i f hi => by
    rw [← hs, List.getElem?_map, hi]; rfl
  have a0 := at_ 0 f0 hg0
  have a1 := at_ 1 f1 hg1
  have a2 := at_ 2 f2 hg2
  simp only [List.getElem?_cons_zero, List.getElem?_cons_succ, Option.some.injEq, Prod.mk.injEq] at a0 a1 a2
  obtain ⟨_, t0, o0⟩ := a0
  obtain ⟨_, t1, o1⟩ := a1
  obtain ⟨_, t2, o2⟩ := a2
  have k0 := hf 0 f0 hf0
  have k1 := hf 1 f1 hf1
  have k2 := hf 2 f2 hf2
  rw [← t0, ← o0, cellsStr] at k0
  rw [← t1, ← o1, cellsBool] at k1
  rw [← t2, ← o2, cellsStr] at k2
  rw [hsz] at hlen
  clear hf hf0 hf1 hf2 fact at_ hs
  obtain ⟨y0, y1, y2, rfl⟩ := len_three hlen
  obtain ⟨c0, c1, c2, rfl⟩ := len_three hl
  simp only [List.drop_zero, List.drop_succ_cons, List.take_succ_cons, List.take_zero, List.getElem?_cons_zero, List.getElem?_cons_succ] at k0 k1 k2
  obtain ⟨s1, e0, g0, _⟩ := DataW.trod_string Tryz.underlying9 k0
  obtain ⟨m, e1, g1⟩ := DataW.trod_bool Tryz.underlying4 k1
  obtain ⟨s2, e2, g2, _⟩ := DataW.trod_string Tryz.underlying9 k2
  simp only [List.cons.injEq, and_true] at e0 e1 e2
  subst e0 e1 e2 g0 g1 g2
  refine ⟨⟨s1.data.toList, m, s2.data.toList⟩, rfl, ?_⟩
  simp only [List.map_cons, List.map_nil, Rows.uptoBulk, Rows.uptoBulkAll]
  omega
theorem add_form {bk o i : Nat} : (⟨bk, o, none⟩ : Addr).add i = ⟨bk, o + i, none⟩ := by
  simp only [Addr.add]
  split
  · next h0 => rw [h0]; rfl
  · rfl
theorem bulk_files {H : Type} (L : Nat → Disk.Fl) (D : Nat → DataW H) (n : Nat) (h : ∀ i, i < n → (L i).path.length + (L i).data.length + 4 ≤ Rows.uptoBulk (D i)) :
    ((List.range n).map L).length * 4 ≤ Rows.uptoBulkAll ((List.range n).map D) ∧ ∀ d ∈ (List.range n).map L, d.path.length + d.data.length ≤ Rows.uptoBulkAll ((List.range n).map D) := by
  have key : ∀ l : List Nat, (∀ i ∈ l, i < n) → (l.map L).length * 4 ≤ Rows.uptoBulkAll (l.map D) ∧ ∀ d ∈ l.map L, d.path.length + d.data.length ≤ Rows.uptoBulkAll (l.map D) := by
    intro l
    induction l with
    | nil => intro _; exact ⟨by simp, fun d hd => by simp at hd⟩
    | cons x r ih =>
      intro hx
      have h1 := h x (hx x List.mem_cons_self)
      have h2 := ih fun i hi => hx i (List.mem_cons_of_mem _ hi)
      simp only [List.map_cons, Rows.uptoBulkAll, List.length_cons]
      refine ⟨by omega, fun d hd => ?_⟩
      rcases List.mem_cons.1 hd with rfl | hd
      · omega
      · have := h2.2 d hd; omega
  exact key _ fun i hi => List.mem_range.1 hi
set_option maxRecDepth 100000 in
theorem open_files {H : Type} {enc : TypeId × Value → H} {W : World} {base : Nat} {v : Value} {d : DataW H} {p : List MemPlace}
    (hv : Value.okWide Tryz.prog W .any base 22 v) (h : DataW.Trod enc Tryz.prog W 0 (fun _ => true) true 22 v d p) :
    ∃ ds, Files W W.heap.size v ds ∧ (ds.length * 4 ≤ Rows.uptoBulk d ∧ (∀ x ∈ ds, x.path.length + x.data.length ≤ Rows.uptoBulk d) ∧ ∀ a c, v = .slice a ds.length c → ds.length ≤ c) := by
  obtain ⟨fuel, hf⟩ := h
  obtain ⟨ao, n0, c0, rfl⟩ : ∃ ao n c, v = .slice ao n c := okWide_slice Tryz.underlying22 hv
  rcases open_slice Tryz.underlying22 hf with ⟨hv, hx⟩ | ⟨a, len, cap, m, n, D, Pl, hv, hb, hl, hm, hmm, hx, hc⟩
  · have hv' : Value.slice ao n0 c0 = .slice none 0 0 := by simpa [Value.cells] using hv
    rw [hv']
    cases hx
    exact ⟨[], Files.nil _ _, by simp, fun x hx => by simp at hx, fun _ _ _ => Nat.zero_le _⟩
  · have hv' : Value.slice ao n0 c0 = .slice (some a) len cap := by simpa [Value.cells] using hv
    rw [hv']
    simp only [Prod.mk.injEq] at hx
    obtain ⟨rfl, _⟩ := hx
    have hlm : len ≤ m := by rw [hmm]; split <;> omega
    obtain ⟨L, hL⟩ := choose_lt (α := Disk.Fl) (n := len) (p := fun i x => (W.cell? (a.add (i * 3)) = some (.string (bs x.path)) ∧ W.cell? ((a.add (i * 3)).add 1) = some (.bool x.dir) ∧ W.cell? ((a.add (i * 3)).add 2) = some (.string (bs x.data))) ∧ x.path.length + x.data.length + 4 ≤ Rows.uptoBulk (D i)) fun i hi => by
      obtain ⟨cs, hcs, htr⟩ := hc i (by omega)
      rw [cellsFile] at hcs
      obtain ⟨x, rfl, hbk⟩ := open_file htr
      obtain ⟨_, _, hcell⟩ := World.cells?_some hcs
      exact ⟨x, ⟨hcell 0 (by omega), hcell 1 (by omega), hcell 2 (by omega)⟩, hbk⟩
    rcases Nat.eq_zero_or_pos len with h0 | h0
    · subst h0
      exact ⟨[], ⟨⟨some a, cap, rfl, fun i d hd => by simp at hd⟩⟩, by simp, fun x hx => by simp at hx, fun _ _ _ => Nat.zero_le _⟩
    have c00 := (hL 0 h0).1.1
    obtain ⟨bk, o, sp⟩ := a
    have hsp : sp = none := by
      cases sp with
      | none => rfl
      | some x =>
        rw [show (⟨bk, o, some x⟩ : Addr).add (0 * 3) = ⟨bk, o, some x⟩ from rfl] at c00
        unfold World.cell? at c00
        simp only at c00
        cases hh : W.heap[bk]? with
        | none => rw [hh] at c00; simp at c00
        | some ob => rw [hh] at c00; cases ob <;> simp at c00
    subst hsp
    refine ⟨(List.range len).map L, ⟨⟨some ⟨bk, o, none⟩, cap, by simp, fun i d hd => ⟨bk, o, rfl, ?_⟩⟩⟩, ?_⟩
    · rw [List.getElem?_map] at hd
      by_cases hi : i < len
      · rw [List.getElem?_range hi] at hd
        simp at hd
        subst hd
        obtain ⟨⟨h1, h2, h3⟩, _⟩ := hL i hi
        rw [add_form] at h1
        rw [add_form, add_form] at h2 h3
        exact ⟨cell_lt h1, h1, h2, h3⟩
      · rw [List.getElem?_eq_none (by simpa using hi)] at hd
        simp at hd
    · have := bulk_files L D len fun i hi => (hL i hi).2
      rw [Rows.uptoBulk]
      refine ⟨by omega, fun x hx => ?_, fun a' c' e => ?_⟩
      · have := this.2 x hx
        omega
      · injection e with _ _ e3
        subst e3
        simpa using hl
end Go.Proofs.YtdogacgpfnolfaaGreatDoor
