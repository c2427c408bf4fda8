/- Plans: what their texts and their checks answer (part 3). -/
import Derived.Test.YtdogacgpfnolfaaGreatDoorPL2
namespace Go.Proofs.YtdogacgpfnolfaaGreatDoor.PL
open Go.RowKit
set_option linter.unusedSimpArgs false
set_option linter.unusedVariables false
theorem sizeBuilder : (Tryz.prog.info? 92).map (·.size) = some 2 := by kernel_rfl
theorem liesBuilder : liesAt Tryz.prog Tryz.prog.depth 92 (2 / Tryz.prog.cellsOf 92) 0 92 1 = true := by kernel_rfl
theorem infoByte : (Tryz.prog.info? 5).map (fun i => (i.zero, i.size, i.bytes)) = some (some (.int .u8 0), 1, 1) := by kernel_rfl
/-- A builder in block b that holds the bytes bs. -/
abbrev Build (B b : Nat) (bs : List Value) (w : World) : Prop := Go.Lib.IsBuilder 92 5 B b bs w
set_option maxHeartbeats 1000000 in
set_option maxRecDepth 100000 in
theorem copyCheck_used (b : Nat) (w : World) (h0 : w.cell? ⟨b, 0, none⟩ = some (.pointer (some ⟨b, 0, none⟩))) :
    Calls Tryz.prog 75 #[.pointer (some ⟨b, 0, none⟩)] w fun e w' => e = .returned (.tuple #[]) ∧ w' = w := by
  obtain ⟨j, hj, _⟩ := Option.map_eq_some_iff.1 sizeBuilder
  have hn : ∀ w, (binOp .neq 89 (.pointer (some ⟨b, 0, none⟩)) (.pointer (some ⟨b, 0, none⟩))).run Tryz.prog w = .ok (.bool false) w := fun w => Go.Lib.run_neq_ptr_same w _ Tryz.underlying89 hj
  go_enter Tryz.func75, Tryz.ntmps75
  go_wp2
  go_returns
  exact ⟨rfl, rfl⟩
set_option maxHeartbeats 1000000 in
set_option maxRecDepth 100000 in
theorem copyCheck_fresh (b : Nat) (w : World) (h0 : w.cell? ⟨b, 0, none⟩ = some (.pointer none)) (hsh : w.shape? b = some (92, 2)) (hfz : w.frozen? ⟨b, 0, none⟩ = false) :
    Calls Tryz.prog 75 #[.pointer (some ⟨b, 0, none⟩)] w fun e w' => e = .returned (.tuple #[]) ∧ w' = w.setCell ⟨b, 0, none⟩ (.pointer (some ⟨b, 0, none⟩)) := by
  obtain ⟨j, hj, hjs⟩ := Option.map_eq_some_iff.1 sizeBuilder
  have h1 : (convert 89 141 (.pointer (some ⟨b, 0, none⟩))).run Tryz.prog w = .ok (.pointer (some ⟨b, 0, none⟩)) w := Go.Lib.run_to_unsafe w ⟨b, 0, none⟩ Tryz.underlying89 Tryz.underlying141 hj (by rw [hjs]; decide) hsh (Nat.zero_lt_succ 1)
  have h2 : (convert 141 89 (.pointer (some ⟨b, 0, none⟩))).run Tryz.prog w = .ok (.pointer (some ⟨b, 0, none⟩)) w := Go.Lib.run_from_unsafe w ⟨b, 0, none⟩ Tryz.underlying141 Tryz.underlying89 hj hsh liesBuilder
  have h3 : (callFunc 97 #[.pointer (some ⟨b, 0, none⟩)]).run Tryz.prog w = .ok (.value (.pointer (some ⟨b, 0, none⟩))) w := by
    rw [run_callFunc_extern Tryz.func97 (by kernel_rfl) (by kernel_rfl) (by kernel_rfl) (e := Extern.AbiNoEscape.same) (by kernel_rfl), Go.Lib.run_noEscape]
    rfl
  go_enter Tryz.func75, Tryz.ntmps75
  go_wp2
  go_returns
  exact ⟨rfl, rfl⟩
theorem copyCheck_any (B b : Nat) (bs : List Value) (w : World) (h : Build B b bs w) :
    Calls Tryz.prog 75 #[.pointer (some ⟨b, 0, none⟩)] w fun e w' => e = .returned (.tuple #[]) ∧ (Go.Lib.BuilderAt 92 5 B b (.pointer (some ⟨b, 0, none⟩)) bs w' ∧ Below B w w') := by
  rcases h with h | h
  · refine (copyCheck_fresh b w h.cell0 h.shape h.frozen0).mono ?_
    rintro e w' ⟨rfl, rfl⟩
    exact ⟨rfl, h.used _, (Below.refl B w).setCell (p := ⟨b, 0, none⟩) h.1 _⟩
  · refine (copyCheck_used b w h.cell0).mono ?_
    rintro e w' ⟨rfl, rfl⟩
    exact ⟨rfl, h, Below.refl B _⟩
set_option maxHeartbeats 2000000 in
set_option maxRecDepth 100000 in
theorem WriteByte_any (B b : Nat) (bs : List Value) (c : Int) (w : World) (h : Build B b bs w) (hlen : bs.length + 1 ≤ 140737488355328) (hBw : B ≤ w.heap.size) :
    Calls Tryz.prog 76 #[.pointer (some ⟨b, 0, none⟩), .int .u8 c] w fun e w' => e = .returned .nilIface ∧ (Build B b (bs ++ [.int .u8 c]) w' ∧ Below B w w') := by
  obtain ⟨i0, hi, hz0, hz1, hz2⟩ := info_parts infoByte
  go_enter Tryz.func76, Tryz.ntmps76
  go_wp2_with fail
  refine (copyCheck_any B b bs _ h).mono ?_
  rintro e w1 ⟨rfl, h1, hb1⟩
  obtain ⟨hB, v, hbk, hown, hne⟩ := h1
  have c0 : w1.cell? ⟨b, 0, none⟩ = some (.pointer (some ⟨b, 0, none⟩)) := by rw [Go.Lib.cell_of_heap hbk]; rfl
  have c1 : w1.cell? ⟨b, 1, none⟩ = some v := by rw [Go.Lib.cell_of_heap hbk]; rfl
  have hlt : b < w1.heap.size := by
    rcases Nat.lt_or_ge b w1.heap.size with h' | h'
    · exact h'
    · simp [Array.getElem?_eq_none h'] at hbk
  go_wp2_with (at_builtin; refine wpList_append_own _ rfl _ _ 90 rfl B 5 i0 (.int .u8 0) 1 1 Tryz.underlying90 hi hz0 hz1 hz2 rfl (by decide) _ _ _ rfl (hown.alloc _) ⟨w1.heap.size, 0, none⟩ 1 1 [.int .u8 c] rfl rfl (cell_one_new _ _ _) (fun x hx => by simp at hx; subst hx; rfl) (by unfold maxLen; omega) (by omega) (by have := hb1.size; simp; omega) ?_; intro v' w2 hown' hgrow hnil; have hb2 : w2.heap[b]? = some (.cells #[.pointer (some ⟨b, 0, none⟩), v] 92 (0, 0)) := (by rw [hgrow.block b (by simp; omega) (fun e => hne e.symm), Go.Lib.alloc_old w1 _ b hlt]; exact hbk); have d0 : w2.cell? ⟨b, 0, none⟩ = some (.pointer (some ⟨b, 0, none⟩)) := (by rw [Go.Lib.cell_of_heap hb2]; rfl); have d1 : w2.cell? ⟨b, 1, none⟩ = some v := (by rw [Go.Lib.cell_of_heap hb2]; rfl); have f1 : w2.frozen? ⟨b, 1, none⟩ = false := Go.Lib.frozen_of_heap hb2 1; obtain ⟨g, cap, rfl, _, _⟩ := own_some hown' (by omega))
  go_returns
  refine ⟨rfl, Or.inr ?_, ?_⟩
  · exact Go.Lib.BuilderAt.put (T := 92) (e := 5) hB hb2 (bs' := bs ++ [.int .u8 c]) (by simpa using hown') (by decide)
  · exact ((hb1.alloc (by have := hb1.size; omega) _).grown hgrow (by have := hb1.size; simp; omega) (fun k hk => (hown.lt k hk).1)).setCell (p := ⟨b, 1, none⟩) hB _
set_option maxHeartbeats 2000000 in
set_option maxRecDepth 100000 in
theorem WriteString_any (B b : Nat) (bs : List Value) (s : ByteArray) (w : World) (h : Build B b bs w) (hlen : bs.length + s.size ≤ 140737488355328) (hBw : B ≤ w.heap.size) :
    Calls Tryz.prog 49 #[.pointer (some ⟨b, 0, none⟩), .string s] w fun e w' => e = .returned (.tuple #[.int .i64 s.size, .nilIface]) ∧ (Build B b (bs ++ Go.Lib.strCells s) w' ∧ Below B w w') := by
  obtain ⟨i0, hi, hz0, hz1, hz2⟩ := info_parts infoByte
  go_enter Tryz.func49, Tryz.ntmps49
  go_wp2_with fail
  refine (copyCheck_any B b bs _ h).mono ?_
  rintro e w1 ⟨rfl, h1, hb1⟩
  obtain ⟨hB, v, hbk, hown, hne⟩ := h1
  have c0 : w1.cell? ⟨b, 0, none⟩ = some (.pointer (some ⟨b, 0, none⟩)) := by rw [Go.Lib.cell_of_heap hbk]; rfl
  have c1 : w1.cell? ⟨b, 1, none⟩ = some v := by rw [Go.Lib.cell_of_heap hbk]; rfl
  have hlt : b < w1.heap.size := by
    rcases Nat.lt_or_ge b w1.heap.size with h' | h'
    · exact h'
    · simp [Array.getElem?_eq_none h'] at hbk
  go_wp2_with (at_builtin; refine Go.Lib.wpList_append_own_string _ rfl _ _ 90 9 rfl B 5 i0 Tryz.underlying90 Tryz.underlying9 hi hz0 hz1 hz2 _ _ _ rfl hown s rfl (by unfold maxLen; omega) (by omega) (by have := hb1.size; omega) ?_; intro v' w2 hown' hgrow hnil; have hb2 : w2.heap[b]? = some (.cells #[.pointer (some ⟨b, 0, none⟩), v] 92 (0, 0)) := (by rw [hgrow.block b hlt (fun e => hne e.symm)]; exact hbk); have d0 : w2.cell? ⟨b, 0, none⟩ = some (.pointer (some ⟨b, 0, none⟩)) := (by rw [Go.Lib.cell_of_heap hb2]; rfl); have d1 : w2.cell? ⟨b, 1, none⟩ = some v := (by rw [Go.Lib.cell_of_heap hb2]; rfl); have f1 : w2.frozen? ⟨b, 1, none⟩ = false := Go.Lib.frozen_of_heap hb2 1; obtain ⟨ao, cap, rfl⟩ := own_form hown')
  go_returns
  refine ⟨rfl, Or.inr ?_, ?_⟩
  · exact Go.Lib.BuilderAt.put (T := 92) (e := 5) hB hb2 (bs' := bs ++ Go.Lib.strCells s) (by simpa [Go.Lib.strCells_length] using hown') (by decide)
  · exact (hb1.grown hgrow (by have := hb1.size; omega) (fun k hk => (hown.lt k hk).1)).setCell (p := ⟨b, 1, none⟩) hB _
/-- Blocks of another type than the buffer's lie as they lay. -/
def OthersLie (b : Nat) (w w' : World) : Prop := ∀ (k : Nat) (cs : Array Value) (t : TypeId) (fr : Nat × Nat), k ≠ b → w.heap[k]? = some (.cells cs t fr) → t ≠ 5 → w'.heap[k]? = w.heap[k]?
theorem copyCheck_kept (B b : Nat) (bs : List Value) (w : World) (h : Build B b bs w) :
    Calls Tryz.prog 75 #[.pointer (some ⟨b, 0, none⟩)] w fun e w' => e = .returned (.tuple #[]) ∧ (Go.Lib.BuilderAt 92 5 B b (.pointer (some ⟨b, 0, none⟩)) bs w' ∧ Below B w w') ∧ ∀ k, k ≠ b → w'.heap[k]? = w.heap[k]? := by
  rcases h with h | h
  · refine (copyCheck_fresh b w h.cell0 h.shape h.frozen0).mono ?_
    rintro e w' ⟨rfl, rfl⟩
    exact ⟨rfl, ⟨h.used _, (Below.refl B w).setCell (p := ⟨b, 0, none⟩) h.1 _⟩, fun k hk => Below.heap_setCell _ _ _ _ hk⟩
  · refine (copyCheck_used b w h.cell0).mono ?_
    rintro e w' ⟨rfl, rfl⟩
    exact ⟨rfl, ⟨h, Below.refl B _⟩, fun _ _ => rfl⟩
set_option maxHeartbeats 2000000 in
set_option maxRecDepth 100000 in
theorem WriteString_kept (B b : Nat) (bs : List Value) (s : ByteArray) (w : World) (h : Build B b bs w) (hlen : bs.length + s.size ≤ 140737488355328) (hBw : B ≤ w.heap.size) :
    Calls Tryz.prog 49 #[.pointer (some ⟨b, 0, none⟩), .string s] w fun e w' => e = .returned (.tuple #[.int .i64 s.size, .nilIface]) ∧ (Build B b (bs ++ Go.Lib.strCells s) w' ∧ Below B w w') ∧ OthersLie b w w' := by
  obtain ⟨i0, hi, hz0, hz1, hz2⟩ := info_parts infoByte
  go_enter Tryz.func49, Tryz.ntmps49
  go_wp2_with fail
  refine (copyCheck_kept B b bs _ h).mono ?_
  rintro e w1 ⟨rfl, ⟨h1, hb1⟩, hk1⟩
  obtain ⟨hB, v, hbk, hown, hne⟩ := h1
  have c0 : w1.cell? ⟨b, 0, none⟩ = some (.pointer (some ⟨b, 0, none⟩)) := by rw [Go.Lib.cell_of_heap hbk]; rfl
  have c1 : w1.cell? ⟨b, 1, none⟩ = some v := by rw [Go.Lib.cell_of_heap hbk]; rfl
  have hlt : b < w1.heap.size := by
    rcases Nat.lt_or_ge b w1.heap.size with h' | h'
    · exact h'
    · simp [Array.getElem?_eq_none h'] at hbk
  go_wp2_with (at_builtin; refine Go.Lib.wpList_append_own_string _ rfl _ _ 90 9 rfl B 5 i0 Tryz.underlying90 Tryz.underlying9 hi hz0 hz1 hz2 _ _ _ rfl hown s rfl (by unfold maxLen; omega) (by omega) (by have := hb1.size; omega) ?_; intro v' w2 hown' hgrow hnil; have hb2 : w2.heap[b]? = some (.cells #[.pointer (some ⟨b, 0, none⟩), v] 92 (0, 0)) := (by rw [hgrow.block b hlt (fun e => hne e.symm)]; exact hbk); have d0 : w2.cell? ⟨b, 0, none⟩ = some (.pointer (some ⟨b, 0, none⟩)) := (by rw [Go.Lib.cell_of_heap hb2]; rfl); have d1 : w2.cell? ⟨b, 1, none⟩ = some v := (by rw [Go.Lib.cell_of_heap hb2]; rfl); have f1 : w2.frozen? ⟨b, 1, none⟩ = false := Go.Lib.frozen_of_heap hb2 1; obtain ⟨ao, cap, rfl⟩ := own_form hown')
  go_returns
  have hgr : w1.grownBy w2 v.ownBlock := hgrow
  refine ⟨rfl, ⟨Or.inr ?_, ?_⟩, ?_⟩
  · exact Go.Lib.BuilderAt.put (T := 92) (e := 5) hB hb2 (bs' := bs ++ Go.Lib.strCells s) (by simpa [Go.Lib.strCells_length] using hown') (by decide)
  · exact (hb1.grown hgrow (by have := hb1.size; omega) (fun k hk => (hown.lt k hk).1)).setCell (p := ⟨b, 1, none⟩) hB _
  · intro k cs t fr hkb hkc ht
    have hw1 : w1.heap[k]? = some (.cells cs t fr) := (hk1 k hkb).trans hkc
    have hlt : k < w1.heap.size := (Array.getElem?_eq_some_iff.1 hw1).1
    rw [Below.heap_setCell _ _ _ _ hkb, hgr.block k hlt ?_]
    · exact hk1 k hkb
    · intro e
      rcases hown.2 with ⟨hv, _⟩ | ⟨g, cap, cur, hv, _, hg, _⟩
      · rw [hv] at e; simp [Value.ownBlock] at e
      · rw [hv] at e
        have : k = g := Option.some.inj e
        subst this
        rw [hw1] at hg
        simp only [Option.some.injEq, Obj.cells.injEq] at hg
        exact ht hg.2.1
end Go.Proofs.YtdogacgpfnolfaaGreatDoor.PL

namespace Go.Proofs.YtdogacgpfnolfaaGreatDoor.PL
open Go.RowKit
set_option linter.unusedSimpArgs false
set_option linter.unusedVariables false
theorem build_drewN {B b : Nat} {xs : List Value} {w : World} (h : Build B b xs w) (m : Nat) : Build B b xs (w.drewN m) := h
namespace Plan
def dig (n : Nat) : UInt8 := if n < 10 then UInt8.ofNat (48 + n) else UInt8.ofNat (87 + n)
def hex2 (c : UInt8) : List UInt8 := [dig (c.toNat / 16), dig (c.toNat % 16)]
/-- Bytes in digits. -/
def hexs (l : List UInt8) : List UInt8 := l.flatMap hex2
theorem hexs_length (l : List UInt8) : (hexs l).length = 2 * l.length := by
  induction l with
  | nil => rfl
  | cons c l ih =>
    show (hex2 c ++ hexs l).length = _
    rw [List.length_append, ih]
    simp [hex2]
    omega
theorem hexs_next {l : List UInt8} {k : Nat} {c : UInt8} (h : l[k]? = some c) : hexs (l.take (k + 1)) = hexs (l.take k) ++ hex2 c := by
  rw [List.take_add_one, h]
  simp [hexs]
def hexOf (l : List UInt8) : List UInt8 := if l = [] then [45] else hexs l
end Plan
def digs : ByteArray := ⟨#[48, 49, 50, 51, 52, 53, 54, 55, 56, 57, 97, 98, 99, 100, 101, 102]⟩
theorem dig_at (n : Nat) (h : n < 16) : (⟨#[48, 49, 50, 51, 52, 53, 54, 55, 56, 57, 97, 98, 99, 100, 101, 102]⟩ : ByteArray)[n]'h = Plan.dig n := by
  have : ∀ n : Fin 16, (⟨#[48, 49, 50, 51, 52, 53, 54, 55, 56, 57, 97, 98, 99, 100, 101, 102]⟩ : ByteArray)[n.val]'n.isLt = Plan.dig n.val := by decide
  exact this ⟨n, h⟩
set_option maxHeartbeats 2000000 in
set_option maxRecDepth 100000 in
theorem hex_any (s : ByteArray) (hs : s.size ≤ 1048576) (w : World) :
    Calls Tryz.prog 51 #[.string s] w fun e w' => e = .returned (.string (bs (Plan.hexOf s.data.toList))) ∧ Below w.heap.size w w' := by
  by_cases h0 : s.size = 0
  · obtain rfl := str_empty h0
    clear h0
    go_enter Tryz.func51, Tryz.ntmps51
    go_wp2
    go_returns
    exact ⟨rfl, by go_grown⟩
  · have hq : (s.toList == ([] : List UInt8)) = false := str_ne_empty (by omega)
    have HSL := Lib.hid (bal_length s)
    have HB0 := Lib.hid (Go.Lib.fresh_isBuilder 92 5 w)
    go_enter Tryz.func51, Tryz.ntmps51
    go_wp2_with fail
    go_loopw [9] (fun p wr => ∃ k : Nat, p = .int .i64 k ∧ k ≤ s.size ∧ Build w.heap.size w.heap.size (Go.Lib.byteCells (Plan.hexs (s.data.toList.take k))) wr ∧ Below w.heap.size w wr) (fun p _ => s.size - (intOf p).toNat)
    case atStart => exact ⟨0, rfl, by omega, HB0.out, by go_grown⟩
    case round =>
      obtain ⟨k, rfl, hk, hbd, hBr⟩ := hrel
      have HBD := Lib.hid hbd
      clear hbd
      by_cases hks : k < s.size
      · have HC := Lib.hid (byte_at s hks)
        have hlen : (Go.Lib.byteCells (Plan.hexs (s.data.toList.take k))).length + 2 ≤ 140737488355328 := by
          rw [Go.Lib.byteCells_length, Plan.hexs_length]
          simp
          omega
        have HLEN := Lib.hid hlen
        have h256 : s[k].toNat < 256 := s[k].toNat_lt
        clear hlen
        go_wp2_with fail
        refine (WriteByte_any w.heap.size w.heap.size _ _ _ HBD.out (by have := HLEN.out; omega) hBr.size).mono ?_
        rintro e w1 ⟨rfl, hbd1, hb1⟩
        have HBD1 := Lib.hid hbd1
        have hz1 : w.heap.size ≤ w1.heap.size := by have := hBr.size; have := hb1.size; omega
        clear hbd1
        go_wp2_with fail
        refine (WriteByte_any w.heap.size w.heap.size _ _ _ HBD1.out (by have := HLEN.out; simp only [List.length_append, List.length_singleton]; omega) hz1).mono ?_
        rintro e w2 ⟨rfl, hbd2, hb2⟩
        have HBD2 := Lib.hid hbd2
        clear hbd2
        go_wp2_with fail
        go_roundw
        case rel => exact ⟨k + 1, by go_num, by omega, by
          have h2 := HBD2.out
          rw [dig_at, dig_at] at h2
          rw [Plan.hexs_next HC.out]
          simpa [Go.Lib.byteCells, Plan.hex2] using h2, (hBr.trans hb1).trans hb2⟩
        case measure => simp [intOf]; omega
      · have hfull : s.data.toList.take k = s.data.toList := List.take_of_length_le (by rw [HSL.out]; omega)
        have hbd2 := HBD.out
        rw [hfull] at hbd2
        have HBD2 := Lib.hid hbd2
        have HO : Hid (Plan.hexOf s.data.toList = Plan.hexs s.data.toList) := Lib.hid (by
          unfold Plan.hexOf
          rw [if_neg]
          intro e
          have := HSL.out
          rw [e] at this
          simp at this
          omega)
        clear hbd2 hfull
        go_wp2_with fail
        refine (Tryz.Builder_String_any w.heap.size w.heap.size (Plan.hexs s.data.toList) _ HBD2.out hBr.size).mono ?_
        rintro e w5 ⟨rfl, hb5⟩
        go_wp2
        go_returns
        exact ⟨by rw [HO.out]; rfl, hBr.trans hb5⟩
end Go.Proofs.YtdogacgpfnolfaaGreatDoor.PL

namespace Go.Proofs.YtdogacgpfnolfaaGreatDoor.PL
open Go.RowKit
set_option linter.unusedSimpArgs false
set_option linter.unusedVariables false
theorem Below.drewN {B : Nat} {a w : World} (h : Below B a w) (m : Nat) : Below B a (w.drewN m) := ⟨h.os, h.tape, h.output, h.size, h.block⟩
theorem _root_.Go.Proofs.YtdogacgpfnolfaaGreatDoor.Row.alloc {w : World} {B : Nat} {v : Value} {xs : List Value} (h : Row w B v xs) (hB : B ≤ w.heap.size) (o : Obj) : Row (w.alloc o) B v xs :=
  h.below ((Below.refl B w).alloc hB o) (Nat.le_refl _)
theorem _root_.Go.Proofs.YtdogacgpfnolfaaGreatDoor.Grid.mono {w : World} {B B' : Nat} {v : Value} {ls : List (List (List UInt8))} (h : Grid w B v ls) (hB : B ≤ B') : Grid w B' v ls := by
  obtain ⟨vs, h1, h2, h3⟩ := h.is
  exact ⟨vs, h1.mono hB, h2, fun i u l hu hl => (h3 i u l hu hl).mono hB⟩
end Go.Proofs.YtdogacgpfnolfaaGreatDoor.PL

namespace Go.Proofs.YtdogacgpfnolfaaGreatDoor.PL
open Go.RowKit
set_option linter.unusedSimpArgs false
set_option linter.unusedVariables false
namespace Scan
open Cut
/-- What Lines answers: the code, the line's number, the lines. -/
def ans (s : ByteArray) (most : Int) : Int × Int × List (List (List UInt8)) :=
  if most < s.size then (25, 0, []) else match spec s.data.toList with
    | .inr ls => (0, 0, ls)
    | .inl n => (22, n, [])
theorem scanL_sizes : ∀ (P : List (List UInt8)) (k : Nat) (ls : List (List (List UInt8))), scanL k P = .inr ls → ls.length ≤ P.length ∧ ∀ l ∈ ls, ∃ p ∈ P, l = cuts 32 p
  | [], k, ls, h => by
    simp only [scanL, Sum.inr.injEq] at h
    subst h
    exact ⟨Nat.le_refl _, fun l hl => by simp at hl⟩
  | [p], k, ls, h => by
    simp only [scanL] at h
    split at h
    · simp only [Sum.inr.injEq] at h
      subst h
      exact ⟨by simp, fun l hl => by simp at hl⟩
    · exact absurd h (by simp)
  | p :: q :: r, k, ls, h => by
    simp only [scanL] at h
    split at h
    · cases hh : scanL (k + 1) (q :: r) with
      | inl n => rw [hh] at h; exact absurd h (by simp)
      | inr x =>
        rw [hh] at h
        simp only [Sum.inr.injEq] at h
        subst h
        obtain ⟨h1, h2⟩ := scanL_sizes (q :: r) (k + 1) x hh
        refine ⟨by simp at h1 ⊢; omega, fun l hl => ?_⟩
        rcases List.mem_cons.1 hl with rfl | hl
        · exact ⟨p, List.mem_cons_self, rfl⟩
        · obtain ⟨p', hp, e⟩ := h2 l hl
          exact ⟨p', List.mem_cons_of_mem _ hp, e⟩
    · exact absurd h (by simp)
theorem ans_sizes (s : ByteArray) (most : Int) : (ans s most).2.2.length ≤ s.size + 1 ∧ ∀ l ∈ (ans s most).2.2, l.length ≤ s.size + 1 ∧ 0 < l.length := by
  unfold ans
  split
  · exact ⟨by simp, fun l hl => by simp at hl⟩
  · cases h : spec s.data.toList with
    | inl n => exact ⟨by simp, fun l hl => by simp at hl⟩
    | inr ls =>
      obtain ⟨h1, h2⟩ := scanL_sizes _ _ _ h
      have hl := bal_length s
      refine ⟨?_, fun l hm => ?_⟩
      · show ls.length ≤ _
        rw [cuts_length] at h1
        have : s.data.toList.count 10 ≤ s.data.toList.length := List.count_le_length
        omega
      · obtain ⟨p, hp, rfl⟩ := h2 l hm
        have e1 := cuts_length 32 p
        have e2 : p.count 32 ≤ p.length := List.count_le_length
        have e3 := cuts_le 10 _ p hp
        omega
end Scan
/-- The same of memory and answer. -/
def LinesAns (s : ByteArray) (most : Int) (w : World) (e : Ending) (w' : World) : Prop :=
  ∃ v hs, e = .returned (.tuple #[v, .int .i64 (Scan.ans s most).1, .int .i64 (Scan.ans s most).2.1]) ∧ LinesAt w' w.heap.size w'.heap.size v hs (Scan.ans s most).2.2 ∧ Below w.heap.size w w'
theorem ans_of_post {s : ByteArray} {most : Int} {w : World} {e : Ending} {w' : World} (hm : ¬ most < s.size) (h : LinesPost s w e w') : LinesAns s most w e w' := by
  obtain ⟨hb, h⟩ := h
  unfold LinesAns Scan.ans
  rw [if_neg hm]
  cases hs : Scan.spec s.data.toList with
  | inl n =>
    rw [hs] at h
    exact ⟨_, [], h, Lines.nil _ _ _ _ _, hb⟩
  | inr ls =>
    rw [hs] at h
    obtain ⟨v, hs', he, hl⟩ := h
    exact ⟨v, hs', he, hl, hb⟩
theorem ans_long {s : ByteArray} {most : Int} {w : World} (hm : most < s.size) : LinesAns s most w (.returned (.tuple #[.slice none 0 0, .int .i64 25, .int .i64 0])) w := by
  unfold LinesAns Scan.ans
  rw [if_pos hm]
  exact ⟨_, [], rfl, Lines.nil _ _ _ _ _, Below.refl _ _⟩
set_option maxHeartbeats 1000000 in
set_option maxRecDepth 100000 in
theorem lines_long (s : ByteArray) (most : Int) (hm : most < s.size) (w : World) :
    Calls Tryz.prog 59 #[.string s, .int .i64 most] w (LinesAns s most w) := by
  have H := Lib.hid (@ans_long s most w hm)
  go_enter Tryz.func59, Tryz.ntmps59
  go_wp2
  go_step3
  go_wp2
  go_returns
  exact H.out
theorem lines_ans (s : ByteArray) (most : Int) (hs : s.size ≤ 4398046511104) (w : World) : Calls Tryz.prog 59 #[.string s, .int .i64 most] w (LinesAns s most w) := by
  by_cases hm : most < s.size
  · exact lines_long s most hm w
  · exact (lines_any s most hs (by omega) w).mono fun e w' h => ans_of_post hm h
end Go.Proofs.YtdogacgpfnolfaaGreatDoor.PL

namespace Go.Proofs.YtdogacgpfnolfaaGreatDoor.PL
open Go.RowKit
set_option linter.unusedVariables false
set_option linter.unusedSimpArgs false
theorem setCell_grown (w : World) (a : Addr) (u : Value) : w.grownBy (w.setCell a u) (some a.block) :=
  ⟨rfl, rfl, rfl, by simp [World.setCell], fun k hk hne => Below.heap_setCell w a u k (fun e => hne (by rw [e]))⟩
end Go.Proofs.YtdogacgpfnolfaaGreatDoor.PL

namespace Go.Proofs.YtdogacgpfnolfaaGreatDoor.PL
namespace Scan
open Cut
theorem scanL_shift : ∀ (P : List (List UInt8)) (k d : Nat), scanL (k + d) P = match scanL k P with
    | .inr ls => .inr ls
    | .inl n => .inl (n + d)
  | [], k, d => rfl
  | [p], k, d => by
    simp only [scanL]
    split <;> rfl
  | p :: q :: r, k, d => by
    simp only [scanL]
    split
    · rw [show k + d + 1 = (k + 1) + d by omega, scanL_shift (q :: r) (k + 1) d]
      cases scanL (k + 1) (q :: r) <;> rfl
    · rfl
theorem scanL_form : ∀ (P : List (List UInt8)) (k : Nat) (ls : List (List (List UInt8))), P ≠ [] → scanL k P = .inr ls → P = ls.map (glue 32) ++ [[]] ∧ GoodL ls
  | [], k, ls, hne, _ => absurd rfl hne
  | [p], k, ls, _, h => by
    simp only [scanL] at h
    split at h
    · rename_i hp
      simp only [Sum.inr.injEq] at h
      subst h
      have : p = [] := by cases p with | nil => rfl | cons c r => simp at hp
      subst this
      exact ⟨rfl, fun x hx => by simp at hx⟩
    · exact absurd h (by simp)
  | p :: q :: r, k, ls, _, h => by
    simp only [scanL] at h
    split at h
    · rename_i hl
      cases hh : scanL (k + 1) (q :: r) with
      | inl n => rw [hh] at h; exact absurd h (by simp)
      | inr x =>
        rw [hh] at h
        simp only [Sum.inr.injEq] at h
        subst h
        obtain ⟨h1, h2⟩ := scanL_form (q :: r) (k + 1) x (by simp) hh
        refine ⟨by rw [h1, List.map_cons, glue_cuts]; rfl, fun ws hws => ?_⟩
        rcases List.mem_cons.1 hws with rfl | hws
        · exact ⟨cuts_ne _ _, fun p hp => List.all_eq_true.1 hl p hp⟩
        · exact h2 ws hws
    · exact absurd h (by simp)
theorem glue_lines (ls : List (List (List UInt8))) : glue 10 (ls.map (glue 32) ++ [[]]) = unlines ls := by
  rw [glue_snoc, List.append_nil, List.map_map]
  rfl
/-- What is read is that text. -/
theorem spec_form {T : List UInt8} {ls : List (List (List UInt8))} (h : spec T = .inr ls) : T = unlines ls ∧ GoodL ls := by
  obtain ⟨h1, h2⟩ := scanL_form _ _ _ (cuts_ne _ _) h
  refine ⟨?_, h2⟩
  have := congrArg (glue 10) h1
  rw [glue_cuts, glue_lines] at this
  exact this
theorem spec_append {done : List (List (List UInt8))} (h : GoodL done) (T : List UInt8) : spec (unlines done ++ T) = match spec T with
    | .inr ls => .inr (done ++ ls)
    | .inl n => .inl (n + done.length) := by
  unfold spec
  rw [cuts_unlines h, scanL_good h 1 _ (cuts_ne _ _), scanL_shift _ 1 done.length]
  cases scanL 1 (cuts 10 T) <;> rfl
end Scan
end Go.Proofs.YtdogacgpfnolfaaGreatDoor.PL

namespace Go.Proofs.YtdogacgpfnolfaaGreatDoor.PL
open Go.RowKit
set_option linter.unusedSimpArgs false
set_option linter.unusedVariables false
/-- What Lines answers where its bound is the text's size. -/
theorem ans_ok {s : ByteArray} {most : Int} {ls : List (List (List UInt8))} (hm : ¬ most < s.size) (h : Scan.spec s.data.toList = .inr ls) : Scan.ans s most = (0, 0, ls) := by
  unfold Scan.ans; rw [if_neg hm, h]
theorem ans_bad {s : ByteArray} {most : Int} {n : Nat} (hm : ¬ most < s.size) (h : Scan.spec s.data.toList = .inl n) : Scan.ans s most = (22, (n : Int), []) := by
  unfold Scan.ans; rw [if_neg hm, h]
theorem _root_.Go.Proofs.YtdogacgpfnolfaaGreatDoor.Lines.grid_rows {ts tl : TypeId} {w : World} {base Bw : Nat} {v : Value} {hs : List (Nat × Nat)} {ls : List (List (List UInt8))} (h : Lines ts tl w base Bw v hs ls) :
    (List.zipWith (fun h (l : List (List UInt8)) => rv h l.length) hs ls).length = ls.length ∧ ∀ (i : Nat) (u : Value) (l : List (List UInt8)), (List.zipWith (fun h (l : List (List UInt8)) => rv h l.length) hs ls)[i]? = some u → ls[i]? = some l → Row w w.heap.size u (l.map sv) := by
  refine ⟨by simp [h.len], fun i u l hu hl => ?_⟩
  simp only [List.getElem?_zipWith] at hu
  cases hh : hs[i]? with
  | none => rw [hh] at hu; simp at hu
  | some x =>
    rw [hh, hl] at hu
    simp at hu
    subst hu
    exact Row.of_own (h.rows i x l hh hl)
theorem _root_.Go.Proofs.YtdogacgpfnolfaaGreatDoor.Lines.below {ts tl : TypeId} {w w' : World} {base Bw : Nat} {v : Value} {hs : List (Nat × Nat)} {ls : List (List (List UInt8))} (h : Lines ts tl w base Bw v hs ls) (hb : Below w.heap.size w w') : Lines ts tl w' base Bw v hs ls :=
  h.kept (Below.grow hb) (fun g e => by simp at e)
/-- Rows of two lists, one behind the other. -/
theorem _root_.Go.Proofs.YtdogacgpfnolfaaGreatDoor.Grid.two {w : World} {B : Nat} {v : Value} {va vb : List Value} {la lb : List (List (List UInt8))} (h : Row w B v (va ++ vb)) (ha : va.length = la.length) (hb : vb.length = lb.length)
    (hA : ∀ (i : Nat) (u : Value) (l : List (List UInt8)), va[i]? = some u → la[i]? = some l → Row w B u (l.map sv)) (hB : ∀ (i : Nat) (u : Value) (l : List (List UInt8)), vb[i]? = some u → lb[i]? = some l → Row w B u (l.map sv)) : Grid w B v (la ++ lb) := by
  refine ⟨va ++ vb, h, by simp [ha, hb], fun i u l hu hl => ?_⟩
  by_cases hi : i < va.length
  · rw [List.getElem?_append_left hi] at hu
    rw [List.getElem?_append_left (by omega)] at hl
    exact hA i u l hu hl
  · rw [List.getElem?_append_right (by omega)] at hu
    rw [List.getElem?_append_right (by omega)] at hl
    rw [← ha] at hl
    exact hB _ u l hu hl
end Go.Proofs.YtdogacgpfnolfaaGreatDoor.PL

namespace Go.Proofs.YtdogacgpfnolfaaGreatDoor.PL
open Go.RowKit
set_option linter.unusedSimpArgs false
set_option linter.unusedVariables false
namespace Scan
open Cut
theorem unlines_take {ls : List (List (List UInt8))} {k : Nat} {l : List (List UInt8)} (h : ls[k]? = some l) : unlines (ls.take (k + 1)) = unlines (ls.take k) ++ (glue 32 l ++ [10]) := by
  rw [List.take_add_one, h]
  simp [unlines, unline]
theorem unlines_part (ls : List (List (List UInt8))) (k : Nat) : (unlines (ls.take k)).length ≤ (unlines ls).length := by
  have : unlines ls = unlines (ls.take k) ++ unlines (ls.drop k) := by
    unfold unlines
    rw [← List.flatten_append, ← List.map_append, List.take_append_drop]
  rw [this]
  simp
theorem glue_words : ∀ (l : List (List UInt8)), l.length ≤ (glue 32 l).length + 1 ∧ ∀ x ∈ l, x.length ≤ (glue 32 l).length
  | [] => ⟨by simp, fun x hx => by simp at hx⟩
  | [x] => ⟨by simp, fun y hy => by simp at hy; subst hy; exact Nat.le_refl _⟩
  | x :: y :: r => by
    obtain ⟨h1, h2⟩ := glue_words (y :: r)
    have e : (glue 32 (x :: y :: r)).length = x.length + ((glue 32 (y :: r)).length + 1) := by
      show (x ++ 32 :: glue 32 (y :: r)).length = _
      simp
    refine ⟨by rw [e]; simp only [List.length_cons] at h1 ⊢; omega, fun z hz => ?_⟩
    rw [e]
    rcases List.mem_cons.1 hz with rfl | hz
    · omega
    · have := h2 z hz; omega
theorem unlines_line {ls : List (List (List UInt8))} {k : Nat} {l : List (List UInt8)} (h : ls[k]? = some l) : (unlines (ls.take k)).length + (glue 32 l).length + 1 ≤ (unlines ls).length := by
  have h1 := unlines_part ls (k + 1)
  rw [unlines_take h] at h1
  simp at h1
  omega
end Scan
end Go.Proofs.YtdogacgpfnolfaaGreatDoor.PL

namespace Go.Proofs.YtdogacgpfnolfaaGreatDoor.PL
open Go.RowKit
set_option linter.unusedSimpArgs false
set_option linter.unusedVariables false
theorem bs_append (a b : List UInt8) : bs a ++ bs b = bs (a ++ b) := by
  apply ByteArray.ext
  apply Array.toList_inj.1
  simp [bs]
theorem builderAt_below {T e : TypeId} {B b : Nat} {p : Value} {xs : List Value} {w w' : World} (h : Go.Lib.BuilderAt T e B b p xs w) (hb : Below w.heap.size w w') : Go.Lib.BuilderAt T e B b p xs w' := by
  obtain ⟨hB, v, hbk, hown, hne⟩ := h
  have hlt : b < w.heap.size := by
    rcases Nat.lt_or_ge b w.heap.size with h' | h'
    · exact h'
    · simp [Array.getElem?_eq_none h'] at hbk
  exact ⟨hB, v, by rw [hb.block b hlt]; exact hbk, hown.kept (Below.grow hb) (by cases v.ownBlock <;> simp), hne⟩
theorem build_below {B b : Nat} {xs : List Value} {w w' : World} (h : Build B b xs w) (hb : Below w.heap.size w w') : Build B b xs w' := by
  rcases h with h | h
  · exact Or.inl (builderAt_below h hb)
  · exact Or.inr (builderAt_below h hb)
end Go.Proofs.YtdogacgpfnolfaaGreatDoor.PL

namespace Go.Proofs.YtdogacgpfnolfaaGreatDoor.PL
open Go.RowKit
set_option linter.unusedSimpArgs false
set_option linter.unusedVariables false
theorem bs_size (l : List UInt8) : (bs l).size = l.length := by show l.toArray.size = _; simp
/-- A sum of texts as a run. -/
theorem bs_add (a b : List UInt8) (h : a.length + b.length ≤ 9223372036854775807) (w : World) : (Op.stringOp .add (bs a) (bs b)).run Tryz.prog w = .ok (.string (bs (a ++ b))) w := by
  have h1 := run_string_add_sum (P := Tryz.prog) w (bs a) (bs b) (by rw [bs_size, bs_size]; exact h)
  rw [h1]
  exact congrArg (fun x => Result.ok (Value.string x) w) (bs_append _ _)
end Go.Proofs.YtdogacgpfnolfaaGreatDoor.PL

namespace Go.Proofs.YtdogacgpfnolfaaGreatDoor.PL
open Go.RowKit
set_option linter.unusedSimpArgs false
set_option linter.unusedVariables false
namespace Plan
def wUnlink : List UInt8 := [117, 110, 108, 105, 110, 107]
def wRmdir : List UInt8 := [114, 109, 100, 105, 114]
def wMkdir : List UInt8 := [109, 107, 100, 105, 114]
def wPut : List UInt8 := [112, 117, 116]
/-- A kind's word. -/
def word (k : Int) : List UInt8 := if k = 1 then wUnlink else if k = 2 then wRmdir else if k = 3 then wMkdir else wPut
def line (d : D) : List UInt8 := word d.kind ++ [32] ++ d.path ++ (if d.kind = 4 then [32] ++ hexOf d.data else []) ++ [10]
def lines (ds : List D) : List UInt8 := ds.flatMap line
/-- A plan's text. -/
def text (ds : List D) : List UInt8 := [112, 108, 97, 110, 10] ++ lines ds
theorem chk_all : ∀ (ds : List D) (least : Int) (s : List UInt8 → Int), chk least s ds = true → ∀ d ∈ ds, least ≤ d.kind ∧ d.kind ≤ 4 ∧ (d.kind = 4 ∨ d.data = []) ∧ pathOk d.path = true ∧ free d.path = true
  | [], _, _, _, d, hd => by simp at hd
  | x :: r, least, s, h, d, hd => by
    simp only [chk, okD, Bool.and_eq_true, Bool.or_eq_true, decide_eq_true_eq, List.isEmpty_iff] at h
    obtain ⟨⟨h1, h2, h3, h4, h5⟩, _, h6⟩ := h
    rcases List.mem_cons.1 hd with rfl | hd
    · exact ⟨h1, h2, h3, h4, h5⟩
    · obtain ⟨g1, g2⟩ := chk_all r x.kind _ h6 d hd
      exact ⟨by omega, g2⟩
theorem ok_all {ds : List D} (h : ok ds = true) : ∀ d ∈ ds, 1 ≤ d.kind ∧ d.kind ≤ 4 ∧ (d.kind = 4 ∨ d.data = []) ∧ pathOk d.path = true ∧ free d.path = true := chk_all ds 1 _ h
theorem hexOf_le (l : List UInt8) : (hexOf l).length ≤ 2 * l.length + 1 := by
  unfold hexOf
  split
  · simp
  · rw [hexs_length]; omega
theorem word_le (k : Int) : (word k).length ≤ 6 := by
  unfold word
  split <;> (try split) <;> (try split) <;> simp [wUnlink, wRmdir, wMkdir, wPut]
theorem line_le {d : D} (h1 : d.path.length ≤ 1048576) (h2 : d.data.length ≤ 1048576) : (line d).length ≤ 3145738 := by
  have := hexOf_le d.data
  have := word_le d.kind
  unfold line
  simp only [List.length_append, List.length_cons, List.length_nil]
  split
  · simp only [List.length_append, List.length_cons, List.length_nil]; omega
  · simp only [List.length_nil]; omega
theorem lines_le {ds : List D} (h : ∀ d ∈ ds, d.path.length ≤ 1048576 ∧ d.data.length ≤ 1048576) : (lines ds).length ≤ 3145738 * ds.length := by
  induction ds with
  | nil => simp [lines]
  | cons d r ih =>
    have h1 := line_le (h d List.mem_cons_self).1 (h d List.mem_cons_self).2
    have h2 := ih fun x hx => h x (List.mem_cons_of_mem _ hx)
    show (line d ++ lines r).length ≤ _
    rw [List.length_append, List.length_cons]
    omega
theorem text_next {ds : List D} {k : Nat} {d : D} (h : ds[k]? = some d) : text (ds.take (k + 1)) = text (ds.take k) ++ line d := by
  rw [List.take_add_one, h]
  simp [text, lines]
theorem text_le {ds : List D} (h : ∀ d ∈ ds, d.path.length ≤ 1048576 ∧ d.data.length ≤ 1048576) (hn : ds.length ≤ 1048576) (k : Nat) : (text (ds.take k)).length ≤ 3298545369093 := by
  have h1 := lines_le (ds := ds.take k) fun d hd => h d (List.mem_of_mem_take hd)
  have h2 : (ds.take k).length ≤ 1048576 := by rw [List.length_take]; omega
  show ([112, 108, 97, 110, 10] ++ lines (ds.take k)).length ≤ _
  rw [List.length_append]
  simp only [List.length_cons, List.length_nil]
  omega
end Plan
/-- What Print answers. -/
def printRes (ds : List Plan.D) : Value := if Plan.ok ds = true then .tuple #[.string (bs (Plan.text ds)), .int .i64 0] else .tuple #[.string ByteArray.empty, .int .i64 44]
set_option maxHeartbeats 400000 in
theorem words_all (w : World) : Calls Tryz.prog 50 #[] w fun e w' => e = .returned (.slice (some ⟨w.heap.size, 0, none⟩) 5 5) ∧ w' = w.alloc (.cells #[.string ⟨#[]⟩, .string ⟨#[117, 110, 108, 105, 110, 107]⟩, .string ⟨#[114, 109, 100, 105, 114]⟩, .string ⟨#[109, 107, 100, 105, 114]⟩, .string ⟨#[112, 117, 116]⟩] 9) := by
  go_enter Tryz.func50, Tryz.ntmps50
  go_wp2
  go_returns
  exact ⟨rfl, rfl⟩
theorem others_cell {b : Nat} {W w4 wo : World} {cs : Array Value} {t : TypeId} (ho : OthersLie b W w4) (hb : Below (wo.heap.size + 1) (wo.alloc (.cells cs t)) W) (hne : wo.heap.size ≠ b) (ht : t ≠ 5) : w4.heap[wo.heap.size]? = some (.cells cs t (0, 0)) := by
  have h : W.heap[wo.heap.size]? = some (.cells cs t (0, 0)) := (hb.block _ (by omega)).trans (World.alloc_heap_new wo _)
  rw [ho _ _ _ _ hne h ht, h]
theorem word_cell (k : Int) (h : k.toNat < 5) (h1 : 1 ≤ k) (h4 : k ≤ 4) : ([.string ⟨#[]⟩, .string ⟨#[117, 110, 108, 105, 110, 107]⟩, .string ⟨#[114, 109, 100, 105, 114]⟩, .string ⟨#[109, 107, 100, 105, 114]⟩, .string ⟨#[112, 117, 116]⟩] : List Value)[k.toNat]'(by simpa using h) = .string (bs (Plan.word k)) := by
  have hk14 : k = 1 ∨ k = 2 ∨ k = 3 ∨ k = 4 := by omega
  rcases hk14 with rfl | rfl | rfl | rfl <;> rfl
set_option maxHeartbeats 3145738 in
set_option maxRecDepth 100000 in
theorem print_any {w : World} {B : Nat} {v : Value} {ds : List Plan.D} (h : Deeds w B v ds) (hB : B ≤ w.heap.size) (hn : ds.length ≤ 1048576) (hsz : ∀ d ∈ ds, d.path.length ≤ 1048576 ∧ d.data.length ≤ 1048576) :
    Calls Tryz.prog 23 #[v] w fun e w' => e = .returned (printRes ds) ∧ Below w.heap.size w w' := by
  have HCK := Lib.hid (check_any h hB (by omega) (fun d hd => by have := hsz d hd; omega))
  cases hok : Plan.ok ds
  · have HF : Hid (printRes ds = .tuple #[.string ByteArray.empty, .int .i64 44]) := Lib.hid (by unfold printRes; rw [hok]; rfl)
    have hc := Plan.code_no hok
    clear hok
    go_enter Tryz.func23, Tryz.ntmps23
    go_wp2_with fail
    refine HCK.out.mono ?_
    rintro e w1 ⟨rfl, hb1⟩
    rw [hc]
    go_wp2_with fail
    go_returns
    exact ⟨by rw [HF.out]; rfl, hb1⟩
  have HF : Hid (printRes ds = .tuple #[.string (bs (Plan.text ds)), .int .i64 0]) := Lib.hid (by unfold printRes; rw [if_pos hok])
  have hc := Plan.code_yes hok
  have HALL := Lib.hid (Plan.ok_all hok)
  obtain ⟨a1, c1, rfl⟩ := h.form
  obtain ⟨N, hN⟩ : ∃ N, N = ds.length := ⟨_, rfl⟩
  have HH := Lib.hid h
  have HSZ := Lib.hid hsz
  have HTL := Lib.hid (Plan.text_le hsz hn)
  rw [← hN] at hn HCK ⊢
  have HN := Lib.hid hN
  clear h hsz hN hok
  go_enter Tryz.func23, Tryz.ntmps23
  go_wp2_with fail
  refine HCK.out.mono ?_
  rintro e w1 ⟨rfl, hb1⟩
  rw [hc]
  have HB0 := Lib.hid (Go.Lib.fresh_isBuilder 92 5 w1)
  have hz1 := hb1.size
  go_wp2_with fail
  refine (WriteString_any w1.heap.size w1.heap.size [] ⟨#[112, 108, 97, 110, 10]⟩ _ HB0.out (by decide) (by simp)).mono ?_
  rintro e w2 ⟨rfl, hbd2, hb2⟩
  have HBD2 := Lib.hid hbd2
  have HB2 : Hid (Below w1.heap.size w1 w2) := Lib.hid (((Below.refl _ w1).alloc (Nat.le_refl _) _).trans hb2)
  clear hbd2 HB0
  go_wp2_with fail
  go_loopw [16] (fun p wr => ∃ k : Nat, p = .int .i64 k ∧ k ≤ N ∧ Build w1.heap.size w1.heap.size (Go.Lib.byteCells (Plan.text (ds.take k))) wr ∧ Below w1.heap.size w1 wr) (fun p _ => N - (intOf p).toNat)
  case atStart => exact ⟨0, rfl, by omega, HBD2.out, HB2.out⟩
  case round =>
    obtain ⟨k, rfl, hk, hbd, hBr⟩ := hrel
    obtain ⟨wo, rfl⟩ : ∃ x, x = wr := ⟨wr, rfl⟩
    have HBD := Lib.hid hbd
    clear hbd
    have hzo := hBr.size
    have hzlt : w1.heap.size < wo.heap.size := by rcases HBD.out with h | h <;> exact h.lt
    by_cases hkN : k < N
    · obtain ⟨d, hd⟩ : ∃ d, ds[k]? = some d := ⟨_, List.getElem?_eq_getElem (by have := HN.out; omega)⟩
      have hdd := HSZ.out d (List.mem_of_getElem? hd)
      have hdk := HALL.out d (List.mem_of_getElem? hd)
      obtain ⟨bk, o, cap, hve, hbB, hbc⟩ := HH.out.at (by have := HN.out; omega)
      injection hve with ha1 _ hc1
      subst ha1; subst hc1
      obtain ⟨e1, e2, e3⟩ := hbc k d hd
      have hbw : Below w.heap.size w wo := hb1.trans (hBr.mono hz1)
      rw [← hbw.cell (p := ⟨bk, o + k * 3, none⟩) (by show bk < _; omega)] at e1
      rw [← hbw.cell (p := ⟨bk, o + k * 3 + 1, none⟩) (by show bk < _; omega)] at e2
      rw [← hbw.cell (p := ⟨bk, o + k * 3 + 2, none⟩) (by show bk < _; omega)] at e3
      have HD := Lib.hid hd
      have HDD := Lib.hid hdd
      have HDK := Lib.hid hdk
      have hki : (0 : Int) ≤ d.kind ∧ d.kind < 5 := by omega
      have hkn : d.kind.toNat < 5 := by omega
      have hk1 : 1 ≤ d.kind := by omega
      have hk4 : d.kind ≤ 4 := by omega
      clear hbc hd hdd hdk hbw
      obtain ⟨dp, hdp⟩ : ∃ x, x = d.path := ⟨_, rfl⟩
      obtain ⟨dt, hdt⟩ : ∃ x, x = d.data := ⟨_, rfl⟩
      obtain ⟨dk, hdk⟩ : ∃ x, x = d.kind := ⟨_, rfl⟩
      rw [← hdk] at e1 hki hkn hk1 hk4
      have hcw := word_cell dk hkn hk1 hk4
      rw [← hdp] at e2
      rw [← hdt] at e3
      have hdpl : dp.length ≤ 1048576 := by rw [hdp]; exact HDD.out.1
      have hdtl : dt.length ≤ 1048576 := by rw [hdt]; exact HDD.out.2
      obtain ⟨wd, hwd⟩ : ∃ x, x = Plan.word dk := ⟨_, rfl⟩
      rw [← hwd] at hcw
      have hwl : wd.length ≤ 6 := by rw [hwd]; exact Plan.word_le _
      obtain ⟨t1, ht1⟩ : ∃ t, t = wd ++ [32] := ⟨_, rfl⟩
      obtain ⟨t2, ht2⟩ : ∃ t, t = t1 ++ dp := ⟨_, rfl⟩
      have s1 : ∀ w, (Op.stringOp .add (bs wd) (⟨#[32]⟩)).run Tryz.prog w = .ok (.string (bs t1)) w := fun w => by rw [ht1]; exact bs_add wd [32] (by simp; omega) w
      have ht2l : t2.length ≤ 1048600 := by rw [ht2, ht1]; simp; omega
      have s2 : ∀ w, (Op.stringOp .add (bs t1) (bs dp)).run Tryz.prog w = .ok (.string (bs t2)) w := fun w => by rw [ht2]; exact bs_add _ _ (by rw [ht1]; simp; omega) w
      have HT2 : Hid (t2 = Plan.word d.kind ++ [32] ++ d.path) := Lib.hid (by rw [ht2, ht1, hwd, hdk, hdp])
      have HDP := Lib.hid hdp
      have HDT := Lib.hid hdt
      have HDKK := Lib.hid hdk
      clear hdp hdt hdk ht1 ht2 hwd
      go_wp2_with fail
      go_region_with (first | (go_at_call 50; refine (words_all _).mono ?_; rintro e w3 ⟨rfl, rfl⟩) | (go_at_call 49; refine (WriteString_kept w1.heap.size w1.heap.size _ _ _ (build_below HBD.out (by go_grown)) (by rw [Go.Lib.byteCells_length, bs_size]; have := HTL.out k; omega) (by simp; omega)).mono ?_; rintro e w4 ⟨rfl, ⟨hbd4, hb4⟩, ho4⟩; have hx4 := others_cell (cs := #[.int .i64 dk, .string (bs dp), .string (bs dt)]) (t := 39) (wo := wo) ho4 (by go_grown) (by omega) (by decide); have c40 : w4.cell? ⟨wo.heap.size, 0, none⟩ = some (.int .i64 dk) := (by rw [Go.Lib.cell_of_heap hx4]; rfl); have c42 : w4.cell? ⟨wo.heap.size, 2, none⟩ = some (.string (bs dt)) := (by rw [Go.Lib.cell_of_heap hx4]; rfl); clear hx4; have HBD4 := Lib.hid hbd4; clear hbd4 ho4; have hz4 : w1.heap.size ≤ w4.heap.size := (by have := hb4.size; simp at this; omega)))
      all_goals
        have HB4 : Hid (Below w1.heap.size w1 w4) := Lib.hid (by refine hBr.trans (Below.trans ?_ hb4) <;> go_grown)
        cases hq4 : (dk == 4)
        · have hk4n : ¬ d.kind = 4 := by rw [← HDKK.out]; intro e; rw [e] at hq4; exact absurd hq4 (by decide)
          have HNX : Hid (Go.Lib.byteCells (Plan.text (ds.take k)) ++ Go.Lib.strCells (bs t2) ++ Go.Lib.strCells ⟨#[10]⟩ = Go.Lib.byteCells (Plan.text (ds.take (k + 1)))) := Lib.hid (by
            rw [Plan.text_next HD.out, HT2.out]
            unfold Plan.line
            rw [if_neg hk4n]
            simp [Go.Lib.byteCells, Go.Lib.strCells, bs])
          clear hk4n
          go_wp2_with fail
          refine (WriteString_any w1.heap.size w1.heap.size _ ⟨#[10]⟩ _ HBD4.out (by rw [List.length_append, Go.Lib.byteCells_length, Go.Lib.strCells_length, bs_size]; have := HTL.out k; have e : ByteArray.size ⟨#[10]⟩ = 1 := rfl; omega) hz4).mono ?_
          rintro e w5 ⟨rfl, hbd5, hb5⟩
          have HBD5 := Lib.hid hbd5
          clear hbd5
          go_wp2_with fail
          go_roundw
          case rel => exact ⟨k + 1, by go_num, by omega, by rw [← HNX.out]; exact HBD5.out, HB4.out.trans hb5⟩
          case measure => simp [intOf]; omega
        · have hk4y : d.kind = 4 := by rw [← HDKK.out]; exact of_decide_eq_true (by simpa using hq4)
          obtain ⟨hx, hhx⟩ : ∃ x, x = Plan.hexOf dt := ⟨_, rfl⟩
          have hhl : hx.length ≤ 2097153 := by rw [hhx]; have := Plan.hexOf_le dt; omega
          obtain ⟨t3, ht3⟩ : ∃ x, x = [32] ++ hx := ⟨_, rfl⟩
          have s3 : ∀ w, (Op.stringOp .add (⟨#[32]⟩) (bs hx)).run Tryz.prog w = .ok (.string (bs t3)) w := fun w => by rw [ht3]; exact bs_add [32] _ (by simp; omega) w
          have ht3l : t3.length ≤ 2097154 := by rw [ht3]; simp; omega
          have HNX : Hid (Go.Lib.byteCells (Plan.text (ds.take k)) ++ Go.Lib.strCells (bs t2) ++ Go.Lib.strCells (bs t3) ++ Go.Lib.strCells ⟨#[10]⟩ = Go.Lib.byteCells (Plan.text (ds.take (k + 1)))) := Lib.hid (by
            rw [Plan.text_next HD.out, HT2.out, ht3, hhx, HDT.out]
            unfold Plan.line
            rw [if_pos hk4y]
            simp [Go.Lib.byteCells, Go.Lib.strCells, bs])
          have hhex : ∀ w, Calls Tryz.prog 51 #[.string (bs dt)] w fun e w' => e = .returned (.string (bs hx)) ∧ Below w.heap.size w w' := fun w => by
            have := hex_any (bs dt) (by rw [bs_size]; exact hdtl) w
            rw [bs_list, ← hhx] at this
            exact this
          have HHEX := Lib.hid hhex
          clear hk4y hhex hhx ht3
          go_wp2_with fail
          refine (HHEX.out _).mono ?_
          rintro e w5 ⟨rfl, hb5⟩
          have HBD5 := Lib.hid (build_below HBD4.out hb5)
          have hz5 : w1.heap.size ≤ w5.heap.size := by have := hb5.size; omega
          go_wp2_with fail
          refine (WriteString_any w1.heap.size w1.heap.size _ (bs t3) _ HBD5.out (by rw [List.length_append, Go.Lib.byteCells_length, Go.Lib.strCells_length, bs_size, bs_size]; have := HTL.out k; omega) hz5).mono ?_
          rintro e w6 ⟨rfl, hbd6, hb6⟩
          have HBD6 := Lib.hid hbd6
          have hz6 : w1.heap.size ≤ w6.heap.size := by have := hb6.size; omega
          clear hbd6
          go_wp2_with fail
          refine (WriteString_any w1.heap.size w1.heap.size _ ⟨#[10]⟩ _ HBD6.out (by rw [List.length_append, List.length_append, Go.Lib.byteCells_length, Go.Lib.strCells_length, Go.Lib.strCells_length, bs_size, bs_size]; have := HTL.out k; have e : ByteArray.size ⟨#[10]⟩ = 1 := rfl; omega) hz6).mono ?_
          rintro e w7 ⟨rfl, hbd7, hb7⟩
          have HBD7 := Lib.hid hbd7
          clear hbd7
          go_wp2_with fail
          go_roundw
          case rel => exact ⟨k + 1, by go_num, by omega, by rw [← HNX.out]; exact HBD7.out, ((HB4.out.trans (hb5.mono hz4)).trans hb6).trans hb7⟩
          case measure => simp [intOf]; omega
    · have hfull : ds.take k = ds := List.take_of_length_le (by have := HN.out; omega)
      have hbd2 := HBD.out
      rw [hfull] at hbd2
      have HBD2 := Lib.hid hbd2
      clear hbd2 hfull
      go_wp2_with fail
      refine (Tryz.Builder_String_any w1.heap.size w1.heap.size (Plan.text ds) _ HBD2.out hzo).mono ?_
      rintro e w5 ⟨rfl, hb5⟩
      go_wp2
      go_returns
      exact ⟨by rw [HF.out]; rfl, hb1.trans ((hBr.trans hb5).mono hz1)⟩
end Go.Proofs.YtdogacgpfnolfaaGreatDoor.PL

namespace Go.Proofs.YtdogacgpfnolfaaGreatDoor.PL
open Go.RowKit
set_option linter.unusedSimpArgs false
set_option linter.unusedVariables false
namespace Plan
/-- A digit's number. -/
def val (c : UInt8) : Option Nat := if 48 ≤ c.toNat ∧ c.toNat ≤ 57 then some (c.toNat - 48) else if 97 ≤ c.toNat ∧ c.toNat ≤ 102 then some (c.toNat - 87) else none
def unhex : List UInt8 → Option (List UInt8)
  | [] => some []
  | [_] => none
  | a :: b :: r => match val a, val b with
    | some x, some y => (unhex r).map (UInt8.ofNat (16 * x + y) :: ·)
    | _, _ => none
/-- Digits as bytes. -/
def dataOf (l : List UInt8) : Option (List UInt8) := if l = [45] then some [] else unhex l
theorem val_lt {c : UInt8} {x : Nat} (h : val c = some x) : x < 16 := by
  unfold val at h
  split at h
  · simp at h; omega
  · split at h
    · simp at h; omega
    · exact absurd h (by simp)
theorem val_dig (n : Nat) (h : n < 16) : val (dig n) = some n := by
  have : ∀ n : Fin 16, val (dig n.val) = some n.val := by decide
  exact this ⟨n, h⟩
theorem unhex_hexs (l : List UInt8) : unhex (hexs l) = some l := by
  induction l with
  | nil => rfl
  | cons c l ih =>
    have h := c.toNat_lt
    show unhex (dig (c.toNat / 16) :: dig (c.toNat % 16) :: hexs l) = _
    simp only [unhex, val_dig _ (show c.toNat / 16 < 16 by omega), val_dig _ (show c.toNat % 16 < 16 by omega), ih, Option.map_some]
    rw [show 16 * (c.toNat / 16) + c.toNat % 16 = c.toNat by omega]
    simp
theorem data_hex (l : List UInt8) : dataOf (hexOf l) = some l := by
  unfold dataOf hexOf
  by_cases h : l = []
  · subst h; rfl
  · rw [if_neg h, if_neg, unhex_hexs]
    intro e
    have := congrArg List.length e
    rw [hexs_length] at this
    simp at this
    omega
theorem unhex_split : ∀ (a b : List UInt8), a.length % 2 = 0 → unhex (a ++ b) = (unhex a).bind fun x => (unhex b).map (x ++ ·)
  | [], b, _ => by simp [unhex]
  | [_], b, h => by simp at h
  | x :: y :: r, b, h => by
    have ih := unhex_split r b (by simp at h; omega)
    simp only [List.cons_append, unhex]
    cases val x with
    | none => rfl
    | some u =>
      cases val y with
      | none => rfl
      | some v =>
        simp only [ih]
        cases unhex r with
        | none => rfl
        | some p => cases unhex b <;> simp
theorem unhex_odd : ∀ (l : List UInt8), l.length % 2 = 1 → unhex l = none
  | [], h => by simp at h
  | [_], _ => rfl
  | x :: y :: r, h => by
    have ih := unhex_odd r (by simp at h; omega)
    simp only [unhex, ih]
    cases val x <;> cases val y <;> rfl
/-- Two digits further. -/
theorem unhex_two {l : List UInt8} {k : Nat} {a b : UInt8} (hk : k % 2 = 0) (ha : l[k]? = some a) (hb : l[k + 1]? = some b) :
    unhex (l.take (k + 2)) = (unhex (l.take k)).bind fun x => match val a, val b with
      | some u, some v => some (x ++ [UInt8.ofNat (16 * u + v)])
      | _, _ => none := by
  have h1 := (List.getElem?_eq_some_iff.1 ha).1
  have e : l.take (k + 2) = l.take k ++ [a, b] := by
    rw [List.take_add_one, hb, List.take_add_one, ha]; simp
  rw [e, unhex_split _ _ (by rw [List.length_take, Nat.min_eq_left (by omega)]; exact hk)]
  cases unhex (l.take k) with
  | none => rfl
  | some x => simp only [unhex, Option.bind_some]; cases val a <;> cases val b <;> rfl
theorem unhex_bad {l : List UInt8} {k : Nat} {a b : UInt8} (hk : k % 2 = 0) (ha : l[k]? = some a) (hb : l[k + 1]? = some b) (h : val a = none ∨ val b = none) : unhex l = none := by
  have h1 := List.getElem?_eq_some_iff.1 ha
  have h2 := List.getElem?_eq_some_iff.1 hb
  have h3 := h1.1
  have e : l = l.take k ++ (a :: b :: l.drop (k + 2)) := by
    have e1 : l = l.take k ++ l.drop k := (List.take_append_drop k l).symm
    rw [List.drop_eq_getElem_cons h1.1, h1.2, List.drop_eq_getElem_cons h2.1, h2.2] at e1
    exact e1
  rw [e, unhex_split _ _ (by rw [List.length_take, Nat.min_eq_left (by omega)]; exact hk)]
  cases unhex (l.take k) with
  | none => rfl
  | some x =>
    simp only [unhex, Option.bind_some]
    rcases h with h | h
    · rw [h]; rfl
    · rw [h]; cases val a <;> rfl
def ix (c : UInt8) : Int := match val c with | some x => x | none => -1
end Plan
theorem digs_index (c : UInt8) : Go.Lib.indexByte digs.data.toList c = Plan.ix c := by
  have := u8_all (p := fun c => Go.Lib.indexByte digs.data.toList c == Plan.ix c) (by decide +kernel) c
  simpa using this
theorem IndexDig (c : UInt8) (w : World) : Calls Tryz.prog 79 #[.string ⟨#[48, 49, 50, 51, 52, 53, 54, 55, 56, 57, 97, 98, 99, 100, 101, 102]⟩, .int .u8 c.toNat] w fun e w' => e = .returned (.int .i64 (Plan.ix c)) ∧ w' = w := by
  have := Tryz.strings_IndexByte digs (c.toNat : Int) w
  rw [show ((c.toNat : Int).toNat.toUInt8) = c by simp, digs_index] at this
  exact this
/-- What data answers. -/
def dataRes (l : List UInt8) : Value := match Plan.dataOf l with
  | some x => .tuple #[.string (bs x), .bool true]
  | none => .tuple #[.string ByteArray.empty, .bool false]
set_option maxHeartbeats 2000000 in
set_option maxRecDepth 100000 in
theorem data_any (s : ByteArray) (hs : s.size ≤ 4398046511104) (w : World) :
    Calls Tryz.prog 62 #[.string s] w fun e w' => e = .returned (dataRes s.data.toList) ∧ Below w.heap.size w w' := by
  have HSL := Lib.hid (bal_length s)
  cases h45 : (s.toList == [45])
  rotate_left 1
  · have HF : Hid (dataRes s.data.toList = .tuple #[.string ByteArray.empty, .bool true]) := Lib.hid (by
      rw [str_eq_lit, decide_eq_true_eq] at h45
      rw [h45]; rfl)
    go_enter Tryz.func62, Tryz.ntmps62
    go_wp2_with fail
    go_returns
    exact ⟨by rw [HF.out]; rfl, by go_grown⟩
  have hdo : Plan.dataOf s.data.toList = Plan.unhex s.data.toList := by
    rw [str_eq_lit, decide_eq_false_iff_not] at h45
    unfold Plan.dataOf; rw [if_neg h45]
  have hmod : (s.size : Int).tmod 2 = ((s.size % 2 : Nat) : Int) := by rw [Int.tmod_eq_emod_of_nonneg (by omega)]; omega
  by_cases hodd : s.size % 2 = 1
  · have HF : Hid (dataRes s.data.toList = .tuple #[.string ByteArray.empty, .bool false]) := Lib.hid (by
      unfold dataRes; rw [hdo, Plan.unhex_odd _ (by rw [HSL.out]; exact hodd)])
    rw [hodd] at hmod
    clear hdo
    go_enter Tryz.func62, Tryz.ntmps62
    go_wp2_with fail
    go_returns
    exact ⟨by rw [HF.out]; rfl, by go_grown⟩
  · have hev : s.size % 2 = 0 := by omega
    rw [hev] at hmod
    have HEV := Lib.hid hev
    have HDO := Lib.hid hdo
    have HB0 := Lib.hid (Go.Lib.fresh_isBuilder 92 5 w)
    clear hev hodd hdo
    go_enter Tryz.func62, Tryz.ntmps62
    go_wp2_with fail
    go_loopw [5] (fun p wr => ∃ (k : Nat) (out : List UInt8), p = .int .i64 k ∧ k ≤ s.size ∧ k % 2 = 0 ∧ Plan.unhex (s.data.toList.take k) = some out ∧ out.length ≤ k ∧ Build w.heap.size w.heap.size (Go.Lib.byteCells out) wr ∧ Below w.heap.size w wr) (fun p _ => s.size - (intOf p).toNat)
    case atStart => exact ⟨0, [], rfl, by omega, rfl, rfl, by simp, HB0.out, by go_grown⟩
    case round =>
      obtain ⟨k, out, rfl, hk, hk2, hun, hol, hbd, hBr⟩ := hrel
      have HBD := Lib.hid hbd
      have HUN := Lib.hid hun
      have HK2 := Lib.hid hk2
      clear hbd hun hk2
      by_cases hks : k < s.size
      · have hks1 : k + 1 < s.size := by have := HEV.out; have := HK2.out; omega
        have qi1 : (0 : Int) ≤ (k : Int) + 1 := by omega
        have qi2 : (k : Int) + 1 < (s.size : Int) := by omega
        have qi3 : ((k : Int) + 1).toNat = k + 1 := by omega
        have qi4 : (0 : Int) ≤ (k : Int) + 1 ∧ (k : Int) + 1 < (s.size : Int) := ⟨qi1, qi2⟩
        have HC1 := Lib.hid (byte_at s hks)
        have HC2 := Lib.hid (byte_at s hks1)
        have HT := Lib.hid (Plan.unhex_two HK2.out HC1.out HC2.out)
        obtain ⟨a, ha⟩ : ∃ a, a = s[k] := ⟨_, rfl⟩
        obtain ⟨b, hb⟩ : ∃ b, b = s[k + 1] := ⟨_, rfl⟩
        have hbad : Plan.val a = none ∨ Plan.val b = none → dataRes s.data.toList = .tuple #[.string ByteArray.empty, .bool false] := fun h => by
          unfold dataRes; rw [HDO.out, Plan.unhex_bad HK2.out HC1.out HC2.out (by rw [← ha, ← hb]; exact h)]
        have HBAD := Lib.hid hbad
        clear hbad
        cases hva : Plan.val a with
        | none =>
          have HF := Lib.hid (HBAD.out (Or.inl hva))
          have hi1 : Plan.ix s[k] = -1 := by rw [← ha]; unfold Plan.ix; rw [hva]
          clear ha hb hva
          go_wp2_with fail
          go_quiet ((first | (go_at_call 79; exact Calls.quiet_of_same (IndexDig _ _))))
          go_wp2_with fail
          go_returns
          exact ⟨by rw [HF.out]; rfl, Below.drewN hBr nq⟩
        | some x =>
          cases hvb : Plan.val b with
          | none =>
            have HF := Lib.hid (HBAD.out (Or.inr hvb))
            have hi1 : Plan.ix s[k] = (x : Int) := by rw [← ha]; unfold Plan.ix; rw [hva]
            have hi2 : Plan.ix s[k + 1] = -1 := by rw [← hb]; unfold Plan.ix; rw [hvb]
            clear ha hb hva hvb
            go_wp2_with fail
            go_quiet ((first | (go_at_call 79; exact Calls.quiet_of_same (IndexDig _ _))))
            go_wp2_with fail
            go_returns
            exact ⟨by rw [HF.out]; rfl, Below.drewN hBr nq⟩
          | some y =>
            have hx16 := Plan.val_lt hva
            have hy16 := Plan.val_lt hvb
            have hi1 : Plan.ix s[k] = (x : Int) := by rw [← ha]; unfold Plan.ix; rw [hva]
            have hi2 : Plan.ix s[k + 1] = (y : Int) := by rw [← hb]; unfold Plan.ix; rw [hvb]
            have HN : Hid (Plan.unhex (s.data.toList.take (k + 2)) = some (out ++ [UInt8.ofNat (16 * x + y)])) := Lib.hid (by
              rw [HT.out, HUN.out, ← ha, ← hb, hva, hvb]; rfl)
            have hw1 : IntKind.u8.wrap (16 * (x : Int) + y) = 16 * (x : Int) + y := IntWalk.u8_in _ (by omega)
            clear ha hb hva hvb
            go_wp2_with fail
            go_quiet ((first | (go_at_call 79; exact Calls.quiet_of_same (IndexDig _ _))))
            go_wp2_with fail
            refine (WriteByte_any w.heap.size w.heap.size _ _ _ (build_drewN HBD.out nq) (by rw [Go.Lib.byteCells_length]; omega) (by have := hBr.size; simpa using this)).mono ?_
            rintro e w1 ⟨rfl, hbd1, hb1⟩
            have HBD1 := Lib.hid hbd1
            clear hbd1
            go_wp2_with fail
            go_roundw
            case rel => exact ⟨k + 2, out ++ [UInt8.ofNat (16 * x + y)], by go_num, by omega, by have := HK2.out; omega, HN.out, by simp; omega, by
              have h2 := HBD1.out
              have e : (.int .u8 (16 * (x : Int) + y) : Value) = .int .u8 ((UInt8.ofNat (16 * x + y)).toNat : Int) := by
                congr 1
                simp
                omega
              rw [e] at h2
              simpa [Go.Lib.byteCells] using h2, (Below.drewN hBr nq).trans hb1⟩
            case measure => simp [intOf]; omega
      · have hfull : s.data.toList.take k = s.data.toList := List.take_of_length_le (by rw [HSL.out]; omega)
        have hu := HUN.out
        rw [hfull] at hu
        have HF : Hid (dataRes s.data.toList = .tuple #[.string (bs out), .bool true]) := Lib.hid (by unfold dataRes; rw [HDO.out, hu])
        clear hu hfull
        go_wp2_with fail
        refine (Tryz.Builder_String_any w.heap.size w.heap.size out _ HBD.out hBr.size).mono ?_
        rintro e w5 ⟨rfl, hb5⟩
        go_wp2
        go_returns
        exact ⟨by rw [HF.out]; rfl, hBr.trans hb5⟩
end Go.Proofs.YtdogacgpfnolfaaGreatDoor.PL
