/- strings.SplitSeq at one byte: its iterator. -/
import Derived.Test.YtnbjdfiembbmmaaDoorChecked
import Derived.Test.YtnbjdfiembbmmaaDoorShelf
import Derived.Test.YtnbjdfiembbmmaaDoorSeqBox
import Derived.Test.YtnbjdfiembbmmaaDoorCuts
import Derived.Test.YtnbjdfiembbmmaaDoorMem
import Derived.Shelf.Abstract
import Derived.Shelf.RegionOpen
import Derived.WalkKit
import Derived.OwnWalkIn
import Derived.TacticsInMore
import Derived.LoopNIn
import Derived.LoopIn
import Derived.Lib.Hide
import Derived.Lib.Bytealg
namespace Go.Proofs.YtnbjdfiembbmmaaDoor
open Go.RowKit Go.Shelf
attribute [local go_sem] Oper.semAt_some
set_option linter.unusedSimpArgs false
set_option linter.unusedVariables false
/-- The pieces of a text between slashes. -/
def pieces (q : ByteArray) : List ByteArray := (Cut.cuts 47 q.data.toList).map bs
theorem indexByte_cases (d : UInt8) : ∀ l : List UInt8, (Go.Lib.indexByte l d = -1 ∧ d ∉ l) ∨ ∃ i : Nat, Go.Lib.indexByte l d = i ∧ i < l.length ∧ l = l.take i ++ d :: l.drop (i + 1) ∧ d ∉ l.take i
  | [] => Or.inl ⟨rfl, by simp⟩
  | b :: l => by
    unfold Go.Lib.indexByte
    by_cases hb : b = d
    · subst hb
      exact Or.inr ⟨0, by simp, by simp, by simp, by simp⟩
    · have hb' : (b == d) = false := by simp [hb]
      rcases indexByte_cases d l with ⟨h1, h2⟩ | ⟨i, h1, h2, h3, h4⟩
      · refine Or.inl ⟨by simp [hb', h1], ?_⟩
        intro hm
        rcases List.mem_cons.1 hm with e | e
        · exact hb e.symm
        · exact h2 e
      · refine Or.inr ⟨i + 1, ?_, by simp; omega, ?_, ?_⟩
        · have : (Go.Lib.indexByte l d == -1) = false := by rw [h1, beq_eq_false_iff_ne]; omega
          rw [hb', this, h1]
          simp
        · simp only [List.take_succ_cons, List.drop_succ_cons, List.cons_append]
          rw [← h3]
        · intro hm
          simp only [List.take_succ_cons] at hm
          rcases List.mem_cons.1 hm with e | e
          · exact hb e.symm
          · exact h4 e
theorem pieces_hit {q : ByteArray} {i : Nat} (h : q.data.toList = q.data.toList.take i ++ 47 :: q.data.toList.drop (i + 1)) (hf : (47 : UInt8) ∉ q.data.toList.take i) :
    pieces q = q.extract 0 i :: pieces (q.extract (i + 1) q.size) := by
  have e1 : (q.extract 0 i).data.toList = q.data.toList.take i := by simp [List.extract]
  have e2 : (q.extract (i + 1) q.size).data.toList = q.data.toList.drop (i + 1) := by
    simp [List.extract]
    rw [List.take_of_length_le (by simp)]
  unfold pieces
  rw [e2, ← bs_of (q.extract 0 i), e1]
  conv => lhs; rw [h, Cut.cuts_append hf]
  rfl
theorem pieces_one {q : ByteArray} (h : (47 : UInt8) ∉ q.data.toList) : pieces q = [q] := by
  unfold pieces
  rw [Cut.cuts_one h]
  rfl
/-- The iterator's boxes. -/
def Boxes (bs bp bk : Nat) (q : ByteArray) (W : World) : Prop :=
  W.cell? ⟨bs, 0, none⟩ = some (.string q) ∧ W.frozen? ⟨bs, 0, none⟩ = false ∧ W.cell? ⟨bp, 0, none⟩ = some (.string ⟨#[47]⟩) ∧ W.cell? ⟨bk, 0, none⟩ = some (.int .i64 0)
def boxLeft (bs : Nat) (W : World) : Nat := match W.cell? ⟨bs, 0, none⟩ with | some (.string q) => q.size | _ => 0
theorem boxLeft_eq {bs bp bk : Nat} {q : ByteArray} {W : World} (h : Boxes bs bp bk q W) : boxLeft bs W = q.size := by unfold boxLeft; rw [h.1]
theorem Boxes.same {bs bp bk : Nat} {q : ByteArray} {W W' : World} (h : Boxes bs bp bk q W) (he : ∀ b ∈ [bs, bp, bk], W'.heap[b]? = W.heap[b]?) : Boxes bs bp bk q W' := by
  have h1 := he bs (by simp)
  have h2 := he bp (by simp)
  have h3 := he bk (by simp)
  obtain ⟨a, b, c, d⟩ := h
  exact ⟨by rw [World.cell?_of_block (w := W) h1]; exact a, by rw [World.frozen?_of_block (w := W) h1]; exact b, by rw [World.cell?_of_block (w := W) h2]; exact c, by rw [World.cell?_of_block (w := W) h3]; exact d⟩
theorem Boxes.store {bs bp bk : Nat} {q : ByteArray} {W : World} (h : Boxes bs bp bk q W) (h1 : bs ≠ bp) (h2 : bs ≠ bk) (q' : ByteArray) : Boxes bs bp bk q' (W.setCell ⟨bs, 0, none⟩ (.string q')) := by
  obtain ⟨a, b, c, d⟩ := h
  refine ⟨World.cell?_setCell_same' _ _ _ (by rw [a]; rfl), by rw [World.frozen?_setCell]; exact b, ?_, ?_⟩
  · rw [World.cell?_of_block (w := W) (a := ⟨bp, 0, none⟩) (Below.heap_setCell _ _ _ _ (fun e => h1 e.symm))]; exact c
  · rw [World.cell?_of_block (w := W) (a := ⟨bk, 0, none⟩) (Below.heap_setCell _ _ _ _ (fun e => h2 e.symm))]; exact d
set_option maxHeartbeats 2000000 in
set_option maxRecDepth 100000 in
theorem splitIter (n : Nat) (hn : 2 ≤ n) (l bs bp bk : Nat) (h1 : bs ≠ bp) (h2 : bs ≠ bk) (s : ByteArray) (hs : s.size ≤ 4611686018427387904) (J Jx : List ByteArray → World → Prop) (W : World) (hbx : Boxes bs bp bk s W)
    (hJs : ∀ pre W1 u, J pre W1 → J pre (W1.setCell ⟨bs, 0, none⟩ u))
    (hY : ∀ pre x W1, J pre W1 → pre ++ [x] <+: pieces s → YieldAt Fence.wide (n - 1) Tryd.prog l #[.string x] W1 fun e W' => (e = .returned (.bool true) ∧ J (pre ++ [x]) W' ∧ ∀ b ∈ [bs, bp, bk], W'.heap[b]? = W1.heap[b]?) ∨ (e = .returned (.bool false) ∧ Jx (pre ++ [x]) W'))
    (h0 : J [] W) :
    CallsIn Fence.wide n Tryd.prog 90 #[.func (.yield l) #[] #[], .pointer (some ⟨bp, 0, none⟩), .pointer (some ⟨bs, 0, none⟩), .pointer (some ⟨bk, 0, none⟩)] W fun e W' => (∃ v, e = .returned v) ∧ (J (pieces s) W' ∨ ∃ pre, pre <+: pieces s ∧ Jx pre W') := by
  obtain ⟨e1, e2, e3, e4⟩ := hbx
  have HB := Lib.hid (show Boxes bs bp bk s W from ⟨e1, e2, e3, e4⟩)
  have HJS := Lib.hid hJs
  have HY := Lib.hid hY
  clear hJs hY
  refine callsIn_of_wp Tryd.func90 rfl trivial ?_ rfl
  simp only [Tryd.ntmps90, List.size_toArray, List.length_cons, List.length_nil, Nat.reduceAdd, Nat.reduceSub, Array.replicate_succ, Array.replicate_zero, List.push_toArray, List.append_toArray, List.nil_append, List.cons_append]
  gi_wp2
  gi_loopw [7] (fun p wr => ∃ (pre : List ByteArray) (q : ByteArray), pieces s = pre ++ pieces q ∧ q.size ≤ s.size ∧ Boxes bs bp bk q wr ∧ J pre wr) (fun _ wr => boxLeft bs wr)
  case atStart => exact ⟨[], s, rfl, Nat.le_refl _, HB.out, h0⟩
  case round =>
    obtain ⟨pre, q, hpq, hqs, hbx, hJ⟩ := hrel
    have HBX := Lib.hid hbx
    obtain ⟨c1, c2, c3, c4⟩ := hbx
    have hql : q.data.toList.length = q.size := by simp
    rcases indexByte_cases 47 q.data.toList with ⟨hi, hfree⟩ | ⟨i, hi, hil, heq, hfree⟩
    · have hone := pieces_one hfree
      rw [hone] at hpq
      obtain ⟨fn, tmps, assign, body, hy, hR⟩ := HY.out pre q wr hJ (by rw [hpq]; exact List.prefix_refl _)
      clear hql
      gi_wp2
      refine ⟨trivial, fun _ => by omega, ?_⟩
      refine (callsIn_wide.2 (Tryd.strings_Index_one q 47 _)).mono ?_
      rintro e w' ⟨rfl, rfl⟩
      rw [hi]
      gi_wp2
      refine ⟨fun _ => by omega, hR.mono ?_⟩
      rintro e W3 (⟨rfl, hJ3, hk3⟩ | ⟨rfl, hJx3⟩)
      · gi_wp2
        go_end0
        exact ⟨⟨_, rfl⟩, .inl (by rw [hpq]; exact hJ3)⟩
      · gi_wp2
        go_end0
        exact ⟨⟨_, rfl⟩, .inr ⟨_, by rw [hpq]; exact List.prefix_refl _, hJx3⟩⟩
    · have hcons := pieces_hit heq hfree
      rw [hcons] at hpq
      obtain ⟨fn, tmps, assign, body, hy, hR⟩ := HY.out pre (q.extract 0 i) wr hJ (by rw [hpq]; exact ⟨pieces (q.extract (i + 1) q.size), by simp⟩)
      have hiq : i < q.size := by rw [← hql]; exact hil
      have hiq2 : i + 1 ≤ q.size := hiq
      have hq9 : q.size ≤ 4611686018427387904 := by omega
      clear hql heq hfree hcons hil
      have hw1 : IntKind.i64.wrap ((i : Int) + 1) = (i : Int) + 1 := IntWalk.i64_in _ (by omega)
      gi_wp2
      refine ⟨trivial, fun _ => by omega, ?_⟩
      refine (callsIn_wide.2 (Tryd.strings_Index_one q 47 _)).mono ?_
      rintro e w' ⟨rfl, rfl⟩
      rw [hi]
      gi_wp2
      refine ⟨fun _ => by omega, hR.mono ?_⟩
      rintro e W3 (⟨rfl, hJ3, hk3⟩ | ⟨rfl, hJx3⟩)
      · have hb3 := HBX.out.same hk3
        have HB3 := Lib.hid hb3
        obtain ⟨d1, d2, d3, d4⟩ := hb3
        gi_wp2
        go_roundw
        case rel => exact ⟨pre ++ [q.extract 0 i], q.extract (i + 1) q.size, by rw [hpq]; simp, by simp; omega, HB3.out.store h1 h2 _, HJS.out _ _ _ hJ3⟩
        case measure => rw [boxLeft_eq (HB3.out.store h1 h2 _), boxLeft_eq HBX.out]; simp; omega
      · gi_wp2
        refine bodyPost_ret (results_none rfl _ _ _) rfl ?_
        exact ⟨⟨_, rfl⟩, .inr ⟨_, by rw [hpq]; exact ⟨pieces (q.extract (i + 1) q.size), by simp⟩, hJx3⟩⟩
end Go.Proofs.YtnbjdfiembbmmaaDoor
