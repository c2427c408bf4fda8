/- Plans: what their texts and their checks answer (part 1). -/
import Derived.RangeFuncOwn
import Derived.RangeFuncCalls
import Derived.RangeFuncLeaves
import Derived.Below
import Derived.Test.YtdogacgpfnolfaaGreatDoorChecked
import Derived.Test.YtdogacgpfnolfaaGreatDoorShelf
import Derived.Test.YtdogacgpfnolfaaGreatDoorCuts
import Derived.Test.YtdogacgpfnolfaaGreatDoorMem
import Derived.Shelf.Abstract
import Derived.Shelf.RegionOpen
import Derived.WalkKit
import Derived.OwnWalkIn
import Derived.TacticsInMore
import Derived.LoopNIn
import Derived.LoopIn
import Derived.Lib.Hide
import Derived.Lib.Bytealg
import Derived.Handy
import Derived.WalkSmall
import Derived.Lib.LaidTab
import Derived.Lib.LaidU8
import Derived.Test.YtdogacgpfnolfaaGreatDoorNum
import Derived.Test.YtdogacgpfnolfaaGreatDoorRead
import Derived.BigQuiet
import Derived.WalkMore
import Derived.WalkLawsBesides
import Derived.WalkSpells
import Derived.Outline
import Derived.Shelf.Strings.SlTrimAscii
import Derived.RangeFuncBound
import Derived.RangeFuncNested
import Derived.Lib.Builder
import Derived.Scope
import Derived.ScopeJumps
import Derived.Maps.OwnOps
import Derived.Maps.Views
import Derived.Carry
import Derived.Lib.AppendStr
import Derived.Laws.Externs
import Derived.Test.YtdogacgpfnolfaaGreatDoorAppend
import Derived.Lib.Join
import Derived.Deep.RegionWith
import Derived.Laws.StructEq
namespace Go
open Go.RowKit
set_option linter.unusedVariables false
/-- How a round's body may be left: on, the iterator's boxes as they were; or by a return. -/
def boxPost (bl : List Nat) (I : List ByteArray → World → Prop) (Ix : List ByteArray → World → Prop) (pre : List ByteArray) (W : World) : Exit → Act → World → Prop
  | .normal, _, W' => KeepsOthers W W' ∧ (∀ b ∈ bl, W'.heap[b]? = W.heap[b]?) ∧ I pre W'
  | .ret, _, W' => KeepsOthers W W' ∧ Ix pre W'
  | _, _, _ => False
variable {F : Fence} {n : Nat} {P : Program}
theorem wpIn_rangeFunc_box {g : Operand} {p : Tmp} {assign body : Code} {Q : Exit → Act → World → Prop} {a : Act} {w : World}
    (hro : F.round = none) (h1 : 1 ≤ n) {gf : Nat} {lb : Array Value} (hg : a.eval g = .func (.func gf) #[] lb) (hFg : F.fn gf) (eg : ∀ args w, (callFunc gf args).run P w = .ok (.enter gf args) w)
    (bs : Nat) (hbs : bs < w.heap.size) (bl : List Nat) (hbl : ∀ b ∈ bl, b < w.heap.size) (xs : List ByteArray)
    (hseq : ∀ (l : Nat) (J Jx : List ByteArray → World → Prop) (W : World), (∀ b ∈ bl, W.heap[b]? = w.heap[b]?) → (∀ pre W1 u, J pre W1 → J pre (W1.setCell ⟨bs, 0, none⟩ u)) →
      (∀ pre x W1, J pre W1 → pre ++ [x] <+: xs → YieldAt F (n - 1 - 1) P l #[.string x] W1 fun e W' => (e = .returned (.bool true) ∧ J (pre ++ [x]) W' ∧ ∀ b ∈ bl, W'.heap[b]? = W1.heap[b]?) ∨ (e = .returned (.bool false) ∧ Jx (pre ++ [x]) W')) →
      J [] W → CallsIn F (n - 1) P gf (#[.func (.yield l) #[] #[]] ++ lb) W fun e W' => (∃ v, e = .returned v) ∧ (J xs W' ∨ ∃ pre, pre <+: xs ∧ Jx pre W'))
    (I Ix : List ByteArray → World → Prop) (hIa : ∀ pre W o, I pre W → I pre (W.alloc o)) (hIp : ∀ pre W l o, I pre W → w.heap.size ≤ l → I pre (W.putObj l o)) (hIs : ∀ pre W u, I pre W → I pre (W.setCell ⟨bs, 0, none⟩ u))
    (hXp : ∀ pre W l o, Ix pre W → w.heap.size ≤ l → Ix pre (W.putObj l o)) (h0 : I [] w) (a₁ : ByteArray → Act)
    (hassign : ∀ (l : Nat) (x : ByteArray) (W : World) (K : Act → World → Prop), K (a₁ x) W →
      assign.wpIn (F.inRound l) (n - 1 - 1) P (Exit.then K (fun _ _ _ => False)) { tmps := a.tmps.setIfInBounds p (.string x), defers := [] } W)
    (hbody : ∀ (l : Nat) (pre : List ByteArray) (x : ByteArray) (W : World), I pre W → pre ++ [x] <+: xs → body.wpIn (F.inRound l) (n - 1 - 1) P (boxPost bl I Ix (pre ++ [x]) W) (a₁ x) W)
    (hdone : ∀ (D : Nat) (W : World), w.heap.size ≤ D → I xs W → W.heap[D]? = some (.deferred (some [])) → Q .normal { a with defers := { target := .collected D, args := #[] } :: a.defers } W)
    (hstop : ∀ (D : Nat) (pre : List ByteArray) (W : World), w.heap.size ≤ D → pre <+: xs → Ix pre W → W.heap[D]? = some (.deferred (some [])) → Code.ret.wpIn F n P Q { a with defers := { target := .collected D, args := #[] } :: a.defers } W) :
    (Code.rangeFunc g #[p] assign body).wpIn F n P Q a w := by
  refine wpIn_rangeFunc fun fn hfn => ?_
  rw [hro]
  obtain ⟨rec, hrec⟩ : ∃ rec : LoopState → Option Code → Loop, rec = fun st pe => { state := st, pending := pe, fn, tmps := a.tmps, params := #[p], assign, body, defers := w.heap.size } := ⟨_, rfl⟩
  have hw1 : ∀ o o' : Obj, ((w.alloc o).alloc o').heap[w.heap.size + 1]? = some o' := fun o o' => by
    have := World.alloc_heap_new (w.alloc o) o'
    rwa [World.size_alloc] at this
  have hw0 : ∀ o o' : Obj, ((w.alloc o).alloc o').heap[w.heap.size]? = some o := fun o o' => (Below.heap_alloc _ _ _ (by simp)).trans (World.alloc_heap_new w o)
  have hrun := run_enterLoop_outer (P := P) (w := w) fn a.tmps #[p] assign body
  obtain ⟨W1, hW1⟩ : ∃ W1, W1 = (w.alloc (.deferred (some []))).alloc (.loop (rec .ready none)) := ⟨_, rfl⟩
  have hrun1 : (Instr.enterLoop fn a.tmps #[p] assign body none).run P w = .ok (w.heap.size + 1, [{ target := .collected w.heap.size, args := #[] }]) W1 := by rw [hrun, hW1, hrec]
  refine ⟨w.heap.size + 1, [{ target := .collected w.heap.size, args := #[] }], W1, { target := .fn (.func gf) lb, args := #[.func (.yield (w.heap.size + 1)) #[] #[]] }, W1, gf,
    #[.func (.yield (w.heap.size + 1)) #[] #[]] ++ lb, W1, hrun1, ?_, ?_, ?_, fun _ => h1, ?_⟩
  · simp only [resolve, hg]
    simp [go_sem]
  · intro f' hf'
    simp [Target.leads] at hf'
    subst hf'
    exact hFg
  · simp [invoke, go_sem, eg]
  · refine (hseq (w.heap.size + 1)
      (fun pre W => I pre W ∧ W.heap[w.heap.size + 1]? = some (.loop (rec .ready none)) ∧ W.heap[w.heap.size]? = some (.deferred (some [])))
      (fun pre W => Ix pre W ∧ W.heap[w.heap.size + 1]? = some (.loop (rec .done (some .ret))) ∧ W.heap[w.heap.size]? = some (.deferred (some [])))
      W1 ?_ ?_ ?_ ⟨by rw [hW1]; exact hIa _ _ _ (hIa _ _ _ h0), by rw [hW1]; exact hw1 _ _, by rw [hW1]; exact hw0 _ _⟩).mono ?_
    · intro b hb
      rw [hW1]
      have := hbl b hb
      exact (Below.heap_alloc _ _ _ (by simp; omega)).trans (Below.heap_alloc _ _ _ this)
    · rintro pre W2 u ⟨hi, hl, hk⟩
      exact ⟨hIs _ _ _ hi, (Below.heap_setCell _ _ _ _ (by show w.heap.size + 1 ≠ bs; omega)).trans hl, (Below.heap_setCell _ _ _ _ (by show w.heap.size ≠ bs; omega)).trans hk⟩
    · rintro pre x W ⟨hi, hl, hk⟩ hpre
      have hlt : w.heap.size + 1 < W.heap.size := (Array.getElem?_eq_some_iff.1 hl).1
      have hy := run_yield (P := P) (args := #[.string x]) hl (by rw [hrec]; rfl)
      rw [hrec] at hy
      have hfold : ((#[p].zip #[Value.string x]).foldl (fun tmps (x : Tmp × Value) => match x with | (t, a) => tmps.setIfInBounds t a) a.tmps) = a.tmps.setIfInBounds p (.string x) := by simp
      simp only [hfold] at hy
      refine ⟨fn, a.tmps.setIfInBounds p (.string x), assign, body, hy, roundIn_of_wpIn hfn (hassign _ x W _ ⟨_, run_beginRound hl (by rw [hrec]), ?_⟩)⟩
      have hl2 : (W.putObj (w.heap.size + 1) (.loop { rec .ready none with state := .busy })).heap[w.heap.size + 1]? = some (.loop { rec .ready none with state := .busy }) := World.putObj_heap_same hlt
      have hk2 : (W.putObj (w.heap.size + 1) (.loop { rec .ready none with state := .busy })).heap[w.heap.size]? = some (.deferred (some [])) := (World.putObj_heap_other (by omega)).trans hk
      refine wpIn_mono (hbody _ pre x _ (hIp _ _ _ _ hi (by omega)) hpre) ?_
      rintro e a3 W3 hp
      cases e with
      | normal =>
        obtain ⟨hk3, hkp3, hi3⟩ := hp
        have hl3 := hk3.same _ _ hl2 rfl
        have hr := run_endRound (P := P) none hl3
        rw [hrec] at hr hl3
        refine ⟨_, _, hr, .inl ⟨rfl, ⟨hIp _ _ _ _ hi3 (by omega), ?_, ?_⟩, fun b hb => ?_⟩⟩
        · rw [hrec]; exact World.putObj_heap_same (Array.getElem?_eq_some_iff.1 hl3).1
        · exact (World.putObj_heap_other (by omega)).trans (hk3.same _ _ hk2 rfl)
        · have := hbl b hb
          exact ((World.putObj_heap_other (by omega)).trans (hkp3 b hb)).trans (World.putObj_heap_other (by omega))
      | ret =>
        obtain ⟨hk3, hi3⟩ := hp
        have hl3 := hk3.same _ _ hl2 rfl
        have hr := run_endRound (P := P) (some .ret) hl3
        rw [hrec] at hr hl3
        refine ⟨_, _, hr, .inr ⟨rfl, hXp _ _ _ _ hi3 (by omega), ?_, ?_⟩⟩
        · rw [hrec]; exact World.putObj_heap_same (Array.getElem?_eq_some_iff.1 hl3).1
        · exact (World.putObj_heap_other (by omega)).trans (hk3.same _ _ hk2 rfl)
      | exit id => exact hp.elim
      | goto t => exact hp.elim
      | panic ch => exact hp.elim
      | outgrown => exact hp.elim
    · rintro e W2 ⟨⟨v, rfl⟩, ⟨hi, hl, hk⟩ | ⟨pre, hp, hi, hl, hk⟩⟩
      · have hr := run_endLoop (P := P) hl (by rw [hrec]; simp)
        rw [hrec] at hr
        exact ⟨none, _, hr, hdone _ _ (Nat.le_refl _) (hIp _ _ _ _ hi (by omega)) ((World.putObj_heap_other (by omega)).trans hk)⟩
      · have hr := run_endLoop (P := P) hl (by rw [hrec]; simp)
        rw [hrec] at hr
        exact ⟨some .ret, _, hr, hstop _ pre _ (Nat.le_refl _) hp (hXp _ _ _ _ hi (by omega)) ((World.putObj_heap_other (by omega)).trans hk)⟩
end Go

namespace Go.Proofs.YtdogacgpfnolfaaGreatDoor.PL
open Go.RowKit Go.Shelf
attribute [local go_sem] Oper.semAt_some
set_option linter.unusedSimpArgs false
set_option linter.unusedVariables false
/-- The pieces of a text between slashes. -/
def pieces (q : ByteArray) : List ByteArray := (Cut.cuts 47 q.data.toList).map bs
theorem indexByte_cases (d : UInt8) : ∀ l : List UInt8, (Go.Lib.indexByte l d = -1 ∧ d ∉ l) ∨ ∃ i : Nat, Go.Lib.indexByte l d = i ∧ i < l.length ∧ l = l.take i ++ d :: l.drop (i + 1) ∧ d ∉ l.take i
  | [] => Or.inl ⟨rfl, by simp⟩
  | b :: l => by
    unfold Go.Lib.indexByte
    by_cases hb : b = d
    · subst hb
      exact Or.inr ⟨0, by simp, by simp, by simp, by simp⟩
    · have hb' : (b == d) = false := by simp [hb]
      rcases indexByte_cases d l with ⟨h1, h2⟩ | ⟨i, h1, h2, h3, h4⟩
      · refine Or.inl ⟨by simp [hb', h1], ?_⟩
        intro hm
        rcases List.mem_cons.1 hm with e | e
        · exact hb e.symm
        · exact h2 e
      · refine Or.inr ⟨i + 1, ?_, by simp; omega, ?_, ?_⟩
        · have : (Go.Lib.indexByte l d == -1) = false := by rw [h1, beq_eq_false_iff_ne]; omega
          rw [hb', this, h1]
          simp
        · simp only [List.take_succ_cons, List.drop_succ_cons, List.cons_append]
          rw [← h3]
        · intro hm
          simp only [List.take_succ_cons] at hm
          rcases List.mem_cons.1 hm with e | e
          · exact hb e.symm
          · exact h4 e
theorem pieces_hit {q : ByteArray} {i : Nat} (h : q.data.toList = q.data.toList.take i ++ 47 :: q.data.toList.drop (i + 1)) (hf : (47 : UInt8) ∉ q.data.toList.take i) :
    pieces q = q.extract 0 i :: pieces (q.extract (i + 1) q.size) := by
  have e1 : (q.extract 0 i).data.toList = q.data.toList.take i := by simp [List.extract]
  have e2 : (q.extract (i + 1) q.size).data.toList = q.data.toList.drop (i + 1) := by
    simp [List.extract]
    rw [List.take_of_length_le (by simp)]
  unfold pieces
  rw [e2, ← bs_of (q.extract 0 i), e1]
  conv => lhs; rw [h, Cut.cuts_append hf]
  rfl
theorem pieces_one {q : ByteArray} (h : (47 : UInt8) ∉ q.data.toList) : pieces q = [q] := by
  unfold pieces
  rw [Cut.cuts_one h]
  rfl
/-- The iterator's boxes. -/
def Boxes (bs bp bk : Nat) (q : ByteArray) (W : World) : Prop :=
  W.cell? ⟨bs, 0, none⟩ = some (.string q) ∧ W.frozen? ⟨bs, 0, none⟩ = false ∧ W.cell? ⟨bp, 0, none⟩ = some (.string ⟨#[47]⟩) ∧ W.cell? ⟨bk, 0, none⟩ = some (.int .i64 0)
def boxLeft (bs : Nat) (W : World) : Nat := match W.cell? ⟨bs, 0, none⟩ with | some (.string q) => q.size | _ => 0
theorem boxLeft_eq {bs bp bk : Nat} {q : ByteArray} {W : World} (h : Boxes bs bp bk q W) : boxLeft bs W = q.size := by unfold boxLeft; rw [h.1]
theorem Boxes.same {bs bp bk : Nat} {q : ByteArray} {W W' : World} (h : Boxes bs bp bk q W) (he : ∀ b ∈ [bs, bp, bk], W'.heap[b]? = W.heap[b]?) : Boxes bs bp bk q W' := by
  have h1 := he bs (by simp)
  have h2 := he bp (by simp)
  have h3 := he bk (by simp)
  obtain ⟨a, b, c, d⟩ := h
  exact ⟨by rw [World.cell?_of_block (w := W) h1]; exact a, by rw [World.frozen?_of_block (w := W) h1]; exact b, by rw [World.cell?_of_block (w := W) h2]; exact c, by rw [World.cell?_of_block (w := W) h3]; exact d⟩
theorem Boxes.store {bs bp bk : Nat} {q : ByteArray} {W : World} (h : Boxes bs bp bk q W) (h1 : bs ≠ bp) (h2 : bs ≠ bk) (q' : ByteArray) : Boxes bs bp bk q' (W.setCell ⟨bs, 0, none⟩ (.string q')) := by
  obtain ⟨a, b, c, d⟩ := h
  refine ⟨World.cell?_setCell_same' _ _ _ (by rw [a]; rfl), by rw [World.frozen?_setCell]; exact b, ?_, ?_⟩
  · rw [World.cell?_of_block (w := W) (a := ⟨bp, 0, none⟩) (Below.heap_setCell _ _ _ _ (fun e => h1 e.symm))]; exact c
  · rw [World.cell?_of_block (w := W) (a := ⟨bk, 0, none⟩) (Below.heap_setCell _ _ _ _ (fun e => h2 e.symm))]; exact d
set_option maxHeartbeats 2000000 in
set_option maxRecDepth 100000 in
theorem splitIter (n : Nat) (hn : 2 ≤ n) (l bs bp bk : Nat) (h1 : bs ≠ bp) (h2 : bs ≠ bk) (s : ByteArray) (hs : s.size ≤ 4611686018427387904) (J Jx : List ByteArray → World → Prop) (W : World) (hbx : Boxes bs bp bk s W)
    (hJs : ∀ pre W1 u, J pre W1 → J pre (W1.setCell ⟨bs, 0, none⟩ u))
    (hY : ∀ pre x W1, J pre W1 → pre ++ [x] <+: pieces s → YieldAt Fence.wide (n - 1) Tryz.prog l #[.string x] W1 fun e W' => (e = .returned (.bool true) ∧ J (pre ++ [x]) W' ∧ ∀ b ∈ [bs, bp, bk], W'.heap[b]? = W1.heap[b]?) ∨ (e = .returned (.bool false) ∧ Jx (pre ++ [x]) W'))
    (h0 : J [] W) :
    CallsIn Fence.wide n Tryz.prog 146 #[.func (.yield l) #[] #[], .pointer (some ⟨bp, 0, none⟩), .pointer (some ⟨bs, 0, none⟩), .pointer (some ⟨bk, 0, none⟩)] W fun e W' => (∃ v, e = .returned v) ∧ (J (pieces s) W' ∨ ∃ pre, pre <+: pieces s ∧ Jx pre W') := by
  obtain ⟨e1, e2, e3, e4⟩ := hbx
  have HB := Lib.hid (show Boxes bs bp bk s W from ⟨e1, e2, e3, e4⟩)
  have HJS := Lib.hid hJs
  have HY := Lib.hid hY
  clear hJs hY
  refine callsIn_of_wp Tryz.func146 rfl trivial ?_ rfl
  simp only [Tryz.ntmps146, List.size_toArray, List.length_cons, List.length_nil, Nat.reduceAdd, Nat.reduceSub, Array.replicate_succ, Array.replicate_zero, List.push_toArray, List.append_toArray, List.nil_append, List.cons_append]
  gi_wp2
  gi_loopw [7] (fun p wr => ∃ (pre : List ByteArray) (q : ByteArray), pieces s = pre ++ pieces q ∧ q.size ≤ s.size ∧ Boxes bs bp bk q wr ∧ J pre wr) (fun _ wr => boxLeft bs wr)
  case atStart => exact ⟨[], s, rfl, Nat.le_refl _, HB.out, h0⟩
  case round =>
    obtain ⟨pre, q, hpq, hqs, hbx, hJ⟩ := hrel
    have HBX := Lib.hid hbx
    obtain ⟨c1, c2, c3, c4⟩ := hbx
    have hql : q.data.toList.length = q.size := by simp
    rcases indexByte_cases 47 q.data.toList with ⟨hi, hfree⟩ | ⟨i, hi, hil, heq, hfree⟩
    · have hone := pieces_one hfree
      rw [hone] at hpq
      obtain ⟨fn, tmps, assign, body, hy, hR⟩ := HY.out pre q wr hJ (by rw [hpq]; exact List.prefix_refl _)
      clear hql
      gi_wp2
      refine ⟨trivial, fun _ => by omega, ?_⟩
      refine (callsIn_wide.2 (Tryz.strings_Index_one q 47 _)).mono ?_
      rintro e w' ⟨rfl, rfl⟩
      rw [hi]
      gi_wp2
      refine ⟨fun _ => by omega, hR.mono ?_⟩
      rintro e W3 (⟨rfl, hJ3, hk3⟩ | ⟨rfl, hJx3⟩)
      · gi_wp2
        go_end0
        exact ⟨⟨_, rfl⟩, .inl (by rw [hpq]; exact hJ3)⟩
      · gi_wp2
        go_end0
        exact ⟨⟨_, rfl⟩, .inr ⟨_, by rw [hpq]; exact List.prefix_refl _, hJx3⟩⟩
    · have hcons := pieces_hit heq hfree
      rw [hcons] at hpq
      obtain ⟨fn, tmps, assign, body, hy, hR⟩ := HY.out pre (q.extract 0 i) wr hJ (by rw [hpq]; exact ⟨pieces (q.extract (i + 1) q.size), by simp⟩)
      have hiq : i < q.size := by rw [← hql]; exact hil
      have hiq2 : i + 1 ≤ q.size := hiq
      have hq9 : q.size ≤ 4611686018427387904 := by omega
      clear hql heq hfree hcons hil
      have hw1 : IntKind.i64.wrap ((i : Int) + 1) = (i : Int) + 1 := IntWalk.i64_in _ (by omega)
      gi_wp2
      refine ⟨trivial, fun _ => by omega, ?_⟩
      refine (callsIn_wide.2 (Tryz.strings_Index_one q 47 _)).mono ?_
      rintro e w' ⟨rfl, rfl⟩
      rw [hi]
      gi_wp2
      refine ⟨fun _ => by omega, hR.mono ?_⟩
      rintro e W3 (⟨rfl, hJ3, hk3⟩ | ⟨rfl, hJx3⟩)
      · have hb3 := HBX.out.same hk3
        have HB3 := Lib.hid hb3
        obtain ⟨d1, d2, d3, d4⟩ := hb3
        gi_wp2
        go_roundw
        case rel => exact ⟨pre ++ [q.extract 0 i], q.extract (i + 1) q.size, by rw [hpq]; simp, by simp; omega, HB3.out.store h1 h2 _, HJS.out _ _ _ hJ3⟩
        case measure => rw [boxLeft_eq (HB3.out.store h1 h2 _), boxLeft_eq HBX.out]; simp; omega
      · gi_wp2
        refine bodyPost_ret (results_none rfl _ _ _) rfl ?_
        exact ⟨⟨_, rfl⟩, .inr ⟨_, by rw [hpq]; exact ⟨pieces (q.extract (i + 1) q.size), by simp⟩, hJx3⟩⟩
end Go.Proofs.YtdogacgpfnolfaaGreatDoor.PL

namespace Go.Proofs.YtdogacgpfnolfaaGreatDoor.PL
open Go.RowKit
theorem size_of_cell {w : World} {b o : Nat} {v : Value} (h : w.cell? ⟨b, o, none⟩ = some v) : b < w.heap.size := by
  refine Decidable.byContradiction fun hh => ?_
  unfold World.cell? at h
  rw [Array.getElem?_eq_none (by simpa using hh)] at h
  exact absurd h (by simp)
end Go.Proofs.YtdogacgpfnolfaaGreatDoor.PL

namespace Go.Proofs.YtdogacgpfnolfaaGreatDoor.PL
namespace Scan
open Cut
def letter (c : UInt8) : Bool := decide (33 ≤ c.toNat) && decide (c.toNat ≤ 126)
theorem letter_iff {c : UInt8} : letter c = true ↔ 33 ≤ c.toNat ∧ c.toNat ≤ 126 := by simp [letter]
/-- Is a text a word? -/
def isW (p : List UInt8) : Bool := !p.isEmpty && p.all letter
def lineOk (p : List UInt8) : Bool := (cuts 32 p).all isW
/-- The lines' words; or the number of the first line that is none. -/
def scanL (k : Nat) : List (List UInt8) → Nat ⊕ List (List (List UInt8))
  | [] => .inr []
  | [p] => if p.isEmpty then .inr [] else .inl k
  | p :: q :: r => if lineOk p = true then
      (match scanL (k + 1) (q :: r) with
      | .inr ls => .inr (cuts 32 p :: ls)
      | .inl n => .inl n) else .inl k
/-- What Lines makes of a text. -/
def spec (l : List UInt8) : Nat ⊕ List (List (List UInt8)) := scanL 1 (cuts 10 l)
def unline (ws : List (List UInt8)) : List UInt8 := glue 32 ws ++ [10]
def unlines (done : List (List (List UInt8))) : List UInt8 := (done.map unline).flatten
def flat (ws : List (List UInt8)) : List UInt8 := (ws.map (· ++ [32])).flatten
def GoodL (done : List (List (List UInt8))) : Prop := ∀ ws ∈ done, ws ≠ [] ∧ ∀ p ∈ ws, isW p = true
theorem isW_ne {p : List UInt8} (h : isW p = true) : p ≠ [] := by rintro rfl; simp [isW] at h
theorem isW_all {p : List UInt8} (h : isW p = true) : ∀ c ∈ p, letter c = true := by
  simp only [isW, Bool.and_eq_true, List.all_eq_true] at h
  exact h.2
theorem isW_of {p : List UInt8} (h : p ≠ []) (ha : ∀ c ∈ p, letter c = true) : isW p = true := by
  simp only [isW, Bool.and_eq_true, List.all_eq_true]
  exact ⟨by simpa using h, ha⟩
theorem free_of {p : List UInt8} {d : UInt8} (hd : letter d = false) (ha : ∀ c ∈ p, letter c = true) : d ∉ p := fun h => by
  have := ha d h
  rw [hd] at this
  exact absurd this (by simp)
theorem l32 : letter 32 = false := by decide
theorem l10 : letter 10 = false := by decide
theorem glue_snoc (d : UInt8) (ws : List (List UInt8)) (p : List UInt8) : glue d (ws ++ [p]) = (ws.map (· ++ [d])).flatten ++ p := by
  induction ws with
  | nil => simp [glue]
  | cons w ws ih =>
    cases ws with
    | nil => simp [glue]
    | cons x r =>
      show w ++ d :: glue d ((x :: r) ++ [p]) = _
      rw [ih]
      simp
theorem flat_snoc (ws : List (List UInt8)) (p : List UInt8) : flat (ws ++ [p]) = flat ws ++ p ++ [32] := by simp [flat]
theorem unlines_snoc (done : List (List (List UInt8))) (ws : List (List UInt8)) (p : List UInt8) : unlines (done ++ [ws ++ [p]]) = unlines done ++ (flat ws ++ p ++ [10]) := by
  simp only [unlines, List.map_append, List.flatten_append, List.map_cons, List.map_nil, List.flatten_cons, List.flatten_nil, List.append_nil, unline]
  rw [glue_snoc]
  rfl
theorem mem_flat {ws : List (List UInt8)} (h : ∀ w ∈ ws, isW w = true) : (10 : UInt8) ∉ flat ws := by
  intro k
  simp only [flat, List.mem_flatten, List.mem_map] at k
  obtain ⟨l, ⟨w, hw, rfl⟩, hk⟩ := k
  rcases List.mem_append.1 hk with hk | hk
  · exact free_of l10 (isW_all (h w hw)) hk
  · simp at hk
theorem mem_glue {ws : List (List UInt8)} (h : ∀ w ∈ ws, isW w = true) : (10 : UInt8) ∉ glue 32 ws := by
  rcases List.eq_nil_or_concat ws with rfl | ⟨r, p, rfl⟩
  · simp [glue]
  · simp only [List.concat_eq_append] at h ⊢
    rw [glue_snoc]
    intro k
    rcases List.mem_append.1 k with k | k
    · exact mem_flat (fun w hw => h w (List.mem_append_left _ hw)) k
    · exact free_of l10 (isW_all (h p (List.mem_append_right _ (List.mem_singleton.2 rfl)))) k
theorem cuts_unlines {done : List (List (List UInt8))} (h : GoodL done) (rest : List UInt8) : cuts 10 (unlines done ++ rest) = done.map (glue 32) ++ cuts 10 rest := by
  induction done with
  | nil => rfl
  | cons ws done ih =>
    have hw := h ws List.mem_cons_self
    have e : unlines (ws :: done) ++ rest = glue 32 ws ++ 10 :: (unlines done ++ rest) := by simp [unlines, unline]
    rw [e, cuts_append (mem_glue hw.2), ih fun x hx => h x (List.mem_cons_of_mem _ hx)]
    rfl
theorem line_good {ws : List (List UInt8)} (hne : ws ≠ []) (h : ∀ w ∈ ws, isW w = true) : cuts 32 (glue 32 ws) = ws ∧ lineOk (glue 32 ws) = true := by
  have e := cuts_glue hne fun p hp => free_of l32 (isW_all (h p hp))
  refine ⟨e, ?_⟩
  unfold lineOk
  rw [e, List.all_eq_true]
  exact h
theorem scanL_good {done : List (List (List UInt8))} (h : GoodL done) : ∀ (k : Nat) (X : List (List UInt8)), X ≠ [] → scanL k (done.map (glue 32) ++ X) = match scanL (k + done.length) X with
    | .inr ls => .inr (done ++ ls)
    | .inl n => .inl n := by
  induction done with
  | nil =>
    intro k X hX
    simp only [List.map_nil, List.nil_append, List.length_nil, Nat.add_zero]
    cases scanL k X <;> rfl
  | cons ws done ih =>
    intro k X hX
    have hw := h ws List.mem_cons_self
    obtain ⟨e1, e2⟩ := line_good hw.1 hw.2
    have ih' := ih (fun x hx => h x (List.mem_cons_of_mem _ hx)) (k + 1) X hX
    obtain ⟨q, r, hq⟩ : ∃ q r, done.map (glue 32) ++ X = q :: r := by
      cases hd : done.map (glue 32) ++ X with
      | nil => exact absurd (List.append_eq_nil_iff.1 hd).2 hX
      | cons q r => exact ⟨q, r, rfl⟩
    simp only [List.map_cons, List.cons_append, hq]
    rw [hq] at ih'
    simp only [scanL, e2, if_true, ih', e1, List.length_cons]
    rw [show k + 1 + done.length = k + (done.length + 1) by omega]
    cases scanL (k + (done.length + 1)) X <;> rfl
theorem spec_done {done : List (List (List UInt8))} (h : GoodL done) : spec (unlines done) = .inr done := by
  have e := cuts_unlines h []
  rw [List.append_nil] at e
  unfold spec
  rw [e, scanL_good h 1 _ (cuts_ne _ _)]
  simp [cuts, scanL]
theorem spec_bad {done : List (List (List UInt8))} (h : GoodL done) {rest : List UInt8} (hne : rest ≠ []) (hb : ∀ p q r, cuts 10 rest = p :: q :: r → lineOk p = false) : spec (unlines done ++ rest) = .inl (done.length + 1) := by
  unfold spec
  rw [cuts_unlines h, scanL_good h 1 _ (cuts_ne _ _)]
  have e : scanL (1 + done.length) (cuts 10 rest) = .inl (1 + done.length) := by
    rcases hc : cuts 10 rest with _ | ⟨p, _ | ⟨q, r⟩⟩
    · exact absurd hc (cuts_ne _ _)
    · have hp : p = rest := by
        have := glue_cuts 10 rest
        rw [hc] at this
        exact this
      subst hp
      simp [scanL, hne]
    · have := hb p q r hc
      simp [scanL, this]
  rw [e]
  simp only [Sum.inl.injEq]
  omega
theorem cuts_pre {d : UInt8} {u X p : List UInt8} {r : List (List UInt8)} (hu : d ∉ u) (e : cuts d X = p :: r) : cuts d (u ++ X) = (u ++ p) :: r := by
  induction u with
  | nil => exact e
  | cons c u ih =>
    have hc : c ≠ d := fun k => hu (by rw [k]; exact List.mem_cons_self)
    exact cuts_miss hc (ih fun k => hu (List.mem_cons_of_mem _ k))
theorem cuts_flat {ws : List (List UInt8)} (h : ∀ w ∈ ws, isW w = true) (X : List UInt8) : cuts 32 (flat ws ++ X) = ws ++ cuts 32 X := by
  induction ws with
  | nil => rfl
  | cons w ws ih =>
    have e : flat (w :: ws) ++ X = w ++ 32 :: (flat ws ++ X) := by simp [flat]
    rw [e, cuts_append (free_of l32 (isW_all (h w List.mem_cons_self))), ih fun x hx => h x (List.mem_cons_of_mem _ hx)]
    rfl
theorem isW_bad {p : List UInt8} {c : UInt8} (hc : letter c = false) (h : c ∈ p) : isW p = false := by
  cases e : isW p
  · rfl
  · have := isW_all e c h
    rw [hc] at this
    exact absurd this (by simp)
/-- A line in which a letter stands that may not stand there. -/
theorem bad_line {ws : List (List UInt8)} {p t : List UInt8} {c : UInt8} (hw : ∀ w ∈ ws, isW w = true) (hp : ∀ x ∈ p, letter x = true) (hc : letter c = false) (hx : p = [] ∨ (c ≠ 32 ∧ c ≠ 10)) :
    ∀ P q r, cuts 10 (flat ws ++ (p ++ c :: t)) = P :: q :: r → lineOk P = false := by
  intro P q r hP
  obtain ⟨P1, r1, e1⟩ := cuts_exists 10 (c :: t)
  have e2 := cuts_pre (u := p) (free_of l10 hp) e1
  have e3 := cuts_pre (u := flat ws) (mem_flat hw) e2
  rw [e3] at hP
  obtain ⟨rfl, _⟩ := List.cons.inj hP
  have hh : ∃ h y, cuts 32 (p ++ P1) = h :: y ∧ isW h = false := by
    by_cases h10 : c = 10
    · have hpn : p = [] := hx.elim id fun k => absurd h10 k.2
      subst hpn
      rw [h10, cuts_hit] at e1
      obtain ⟨rfl, _⟩ := List.cons.inj e1
      exact ⟨[], [], rfl, rfl⟩
    · obtain ⟨P2, r2, e4⟩ := cuts_exists 10 t
      rw [cuts_miss h10 e4] at e1
      obtain ⟨rfl, _⟩ := List.cons.inj e1
      by_cases h32 : c = 32
      · have hpn : p = [] := hx.elim id fun k => absurd h32 k.1
        subst hpn
        rw [h32]
        exact ⟨[], _, cuts_hit 32 P2, rfl⟩
      · obtain ⟨z, r3, e5⟩ := cuts_exists 32 P2
        have e6 := cuts_pre (u := p) (free_of l32 hp) (cuts_miss h32 e5)
        exact ⟨_, _, e6, isW_bad hc (List.mem_append_right _ List.mem_cons_self)⟩
  obtain ⟨h, y, e7, e8⟩ := hh
  unfold lineOk
  rw [cuts_flat hw, e7]
  simp [e8]
/-- Where a run of Lines stands: the lines done, the words of this line, the letters of this word. -/
structure St (T : List UInt8) (k : Nat) (done : List (List (List UInt8))) (ws : List (List UInt8)) (p : List UInt8) : Prop where
  eq : T.take k = unlines done ++ (flat ws ++ p)
  le : k ≤ T.length
  good : GoodL done
  gw : ∀ w ∈ ws, isW w = true
  gp : ∀ c ∈ p, letter c = true
theorem St.start (T : List UInt8) : St T 0 [] [] [] := ⟨by simp [unlines, flat], Nat.zero_le _, fun ws h => by simp at h, fun w h => by simp at h, fun c h => by simp at h⟩
theorem St.plen {T k done ws p} (h : St T k done ws p) : p.length ≤ k := by
  have := congrArg List.length h.eq
  simp only [List.length_take, List.length_append] at this
  omega
theorem St.word {T k done ws p} (h : St T k done ws p) : (T.drop (k - p.length)).take p.length = p := by
  have hl := h.plen
  have e : T.take k = (unlines done ++ flat ws) ++ p := by rw [h.eq]; simp
  have h1 : (T.take k).drop (k - p.length) = p := by
    rw [e]
    have : k - p.length = (unlines done ++ flat ws).length := by
      have := congrArg List.length e
      have hle := h.le
      simp only [List.length_take, List.length_append] at this ⊢
      omega
    rw [this, List.drop_left]
  rw [List.drop_take] at h1
  rw [show k - (k - p.length) = p.length by omega] at h1
  exact h1
theorem St.done {T k done} (h : St T k done [] []) (hk : k = T.length) : spec T = .inr done := by
  have := h.eq
  rw [hk, List.take_length] at this
  simp only [flat, List.map_nil, List.flatten_nil, List.append_nil] at this
  rw [this]
  exact spec_done h.good
theorem St.take_succ {T : List UInt8} {k : Nat} {c : UInt8} (hc : T[k]? = some c) : T.take (k + 1) = T.take k ++ [c] := by
  rw [List.take_add_one, hc]; rfl
theorem St.more {T k done ws p c} (h : St T k done ws p) (hc : T[k]? = some c) (hl : letter c = true) : St T (k + 1) done ws (p ++ [c]) := by
  have hk := (List.getElem?_eq_some_iff.1 hc).1
  exact ⟨by rw [St.take_succ hc, h.eq]; simp, hk, h.good, h.gw, fun x hx => (List.mem_append.1 hx).elim (h.gp x) fun k => by rw [List.mem_singleton.1 k]; exact hl⟩
theorem St.space {T k done ws p} (h : St T k done ws p) (hc : T[k]? = some 32) (hp : p ≠ []) : St T (k + 1) done (ws ++ [p]) [] := by
  have hk := (List.getElem?_eq_some_iff.1 hc).1
  refine ⟨by rw [St.take_succ hc, h.eq, flat_snoc]; simp, hk, h.good, fun x hx => (List.mem_append.1 hx).elim (h.gw x) fun k => by rw [List.mem_singleton.1 k]; exact isW_of hp h.gp, fun c h => by simp at h⟩
theorem St.newline {T k done ws p} (h : St T k done ws p) (hc : T[k]? = some 10) (hp : p ≠ []) : St T (k + 1) (done ++ [ws ++ [p]]) [] [] := by
  have hk := (List.getElem?_eq_some_iff.1 hc).1
  refine ⟨by rw [St.take_succ hc, h.eq, unlines_snoc]; simp [flat], hk, ?_, fun x hx => by simp at hx, fun c h => by simp at h⟩
  intro x hx
  rcases List.mem_append.1 hx with hx | hx
  · exact h.good x hx
  · rw [List.mem_singleton.1 hx]
    exact ⟨by simp, fun y hy => (List.mem_append.1 hy).elim (h.gw y) fun k => by rw [List.mem_singleton.1 k]; exact isW_of hp h.gp⟩
theorem St.endBad {T k done ws p} (h : St T k done ws p) (hk : k = T.length) (hs : (unlines done).length < T.length) : spec T = .inl (done.length + 1) := by
  have e := h.eq
  rw [hk, List.take_length] at e
  rw [e]
  refine spec_bad h.good (fun k => ?_) fun P q r hP => ?_
  · rw [k] at e
    rw [e] at hs
    simp at hs
  · rw [cuts_one] at hP
    · simp at hP
    · intro m
      rcases List.mem_append.1 m with m | m
      · exact mem_flat h.gw m
      · exact free_of l10 h.gp m
theorem St.bad {T k done ws p c} (h : St T k done ws p) (hc : T[k]? = some c) (hl : letter c = false) (hx : p = [] ∨ (c ≠ 32 ∧ c ≠ 10)) : spec T = .inl (done.length + 1) := by
  have hk := (List.getElem?_eq_some_iff.1 hc)
  have e : T = unlines done ++ (flat ws ++ (p ++ c :: T.drop (k + 1))) := by
    have e1 : T = T.take k ++ T.drop k := (List.take_append_drop k T).symm
    rw [h.eq, List.drop_eq_getElem_cons hk.1, hk.2] at e1
    simpa using e1
  rw [e]
  exact spec_bad h.good (by simp) (bad_line h.gw h.gp hl hx)
end Scan
end Go.Proofs.YtdogacgpfnolfaaGreatDoor.PL

namespace Go.Proofs.YtdogacgpfnolfaaGreatDoor.PL
open Go.RowKit
set_option linter.unusedSimpArgs false
set_option linter.unusedVariables false
theorem byte_at (s : ByteArray) {k : Nat} (h : k < s.size) : s.data.toList[k]? = some s[k] := by
  rw [List.getElem?_eq_getElem (by simpa using h)]; rfl
theorem bal_length (s : ByteArray) : s.data.toList.length = s.size := by simp
theorem str_empty {s : ByteArray} (h : s.size = 0) : s = ByteArray.empty := by
  apply ByteArray.ext; apply Array.ext' ; have : s.data.toList.length = 0 := by rw [bal_length]; exact h
  rw [List.length_eq_zero_iff.1 this]; rfl
theorem str_ne_empty {s : ByteArray} (h : 0 < s.size) : (s.toList == ([] : List UInt8)) = false := by
  rw [beq_eq_false_iff_ne, ByteArray.toList_eq]
  intro e
  have := bal_length s
  rw [e] at this
  simp at this
  omega
end Go.Proofs.YtdogacgpfnolfaaGreatDoor.PL

namespace Go.Proofs.YtdogacgpfnolfaaGreatDoor.PL
open Go.RowKit
set_option linter.unusedSimpArgs false
set_option linter.unusedVariables false
namespace Scan
def small (c : UInt8) : Bool := decide (97 ≤ c.toNat) && decide (c.toNat ≤ 122)
def other (c : UInt8) : Bool := (decide (48 ≤ c.toNat) && decide (c.toNat ≤ 57)) || decide (c.toNat = 45)
end Scan
theorem sv_eq_empty' (x : List UInt8) : ((bs x).toList == ([] : List UInt8)) = x.isEmpty := by
  rw [bs_toList]; cases x <;> rfl
theorem u8_all {p : UInt8 → Bool} (h : (List.range 256).all (fun n => p (UInt8.ofNat n)) = true) (c : UInt8) : p c = true := by
  have := List.all_eq_true.1 h c.toNat (List.mem_range.2 c.toNat_lt)
  simpa using this
theorem dropWhile_all {p q : UInt8 → Bool} (h : ∀ c, p c = true → q c = true) (l : List UInt8) : (l.dropWhile p).all q = l.all q := by
  induction l with
  | nil => rfl
  | cons c l ih =>
    rw [List.dropWhile_cons]
    cases hp : p c
    · simp
    · simp [ih, h c hp]
theorem dropWhile_nil {p : UInt8 → Bool} {l : List UInt8} : l.dropWhile p = [] ↔ l.all p = true := by
  induction l with
  | nil => simp
  | cons c l ih =>
    rw [List.dropWhile_cons]
    cases hp : p c
    · simp [hp]
    · simp [hp, ih]
theorem trimS_nil (l cs : List UInt8) : (Go.Lib.trimS l cs).isEmpty = l.all (fun c => cs.contains c) := by
  have h : Go.Lib.trimS l cs = [] ↔ l.all (fun c => cs.contains c) = true := by
    unfold Go.Lib.trimS Go.Lib.trimLeftS Go.Lib.trimRightS
    rw [dropWhile_nil, List.all_reverse, dropWhile_all (fun c h => h), List.all_reverse]
  cases ht : l.all (fun c => cs.contains c)
  · cases he : Go.Lib.trimS l cs with
    | nil => exact absurd (h.1 he) (by rw [ht]; exact Bool.false_ne_true)
    | cons c r => rfl
  · rw [h.2 ht]; rfl
namespace Scan
end Scan
theorem info116' : (Tryz.prog.info? (Tryz.lays160_ren.t 116)).map (fun i => (i.zero, i.size)) = some (some (.agg (Array.replicate 256 (.bool false))), 256) := by kernel_rfl
end Go.Proofs.YtdogacgpfnolfaaGreatDoor.PL

namespace Go.Proofs.YtdogacgpfnolfaaGreatDoor.PL
open Go.RowKit Go.Shelf
set_option linter.unusedSimpArgs false
set_option linter.unusedVariables false
namespace Plan
def letterP (c : UInt8) : Bool := Scan.small c || ((decide (48 ≤ c.toNat) && decide (c.toNat ≤ 57)) || (decide (c.toNat = 46) || decide (c.toNat = 45)))
/-- May a part of a path be? -/
def partOk (p : List UInt8) : Bool := !p.isEmpty && (decide (p.length ≤ 24) && (decide (p ≠ [46]) && (decide (p ≠ [46, 46]) && p.all letterP)))
/-- May a path be? -/
def pathOk : List UInt8 → Bool
  | [] => false
  | c :: r => decide (c = 47) && (decide ((c :: r).length ≤ 4096) && (Cut.cuts 47 r).all partOk)
end Plan
def lettersP : ByteArray := ⟨#[97, 98, 99, 100, 101, 102, 103, 104, 105, 106, 107, 108, 109, 110, 111, 112, 113, 114, 115, 116, 117, 118, 119, 120, 121, 122, 48, 49, 50, 51, 52, 53, 54, 55, 56, 57, 46, 45]⟩
theorem lettersP_contains (c : UInt8) : lettersP.data.toList.contains c = Plan.letterP c := by
  have := u8_all (p := fun c => lettersP.data.toList.contains c == Plan.letterP c) (by decide +kernel) c
  simpa using this
theorem TrimP (s : ByteArray) (hs : s.size ≤ 9223372036854775807) (w : World) : Calls Tryz.prog 96 #[.string s, .string lettersP] w fun e w' => ∃ r, e = .returned (.string r) ∧ (r.toList == ([] : List UInt8)) = s.data.toList.all Plan.letterP ∧ Below w.heap.size w w' :=
  (Any.strings_Trim_laid Tryz.lays160 info116' s lettersP w hs (by decide) (ascii_of_all (by decide))).mono fun e w' ⟨he, hb⟩ => ⟨_, he, by
    have e1 : (⟨(Go.Lib.trimS s.data.toList lettersP.data.toList).toArray⟩ : ByteArray) = bs (Go.Lib.trimS s.data.toList lettersP.data.toList) := rfl
    rw [e1, sv_eq_empty', trimS_nil]
    congr 1
    funext c
    exact lettersP_contains c, hb⟩
set_option maxHeartbeats 1000000 in
set_option maxRecDepth 100000 in
theorem splitSeq_any (s : ByteArray) (w : World) :
    Calls Tryz.prog 125 #[.string s, .string ⟨#[47]⟩, .int .i64 0] w fun e w' => e = .returned (.func (.func 146) #[] #[.pointer (some ⟨w.heap.size + 1, 0, none⟩), .pointer (some ⟨w.heap.size, 0, none⟩), .pointer (some ⟨w.heap.size + 2, 0, none⟩)]) ∧
      w' = ((w.alloc (.cells #[.string s] 9)).alloc (.cells #[.string ⟨#[47]⟩] 9)).alloc (.cells #[.int .i64 0] 3) := by
  go_enter Tryz.func125, Tryz.ntmps125
  go_wp2
  go_returns
  exact ⟨rfl, rfl⟩
set_option maxHeartbeats 1000000 in
set_option maxRecDepth 100000 in
theorem SplitSeq_any (s : ByteArray) (w : World) :
    Calls Tryz.prog 95 #[.string s, .string ⟨#[47]⟩] w fun e w' => e = .returned (.func (.func 146) #[] #[.pointer (some ⟨w.heap.size + 1, 0, none⟩), .pointer (some ⟨w.heap.size, 0, none⟩), .pointer (some ⟨w.heap.size + 2, 0, none⟩)]) ∧
      w' = ((w.alloc (.cells #[.string s] 9)).alloc (.cells #[.string ⟨#[47]⟩] 9)).alloc (.cells #[.int .i64 0] 3) := by
  go_enter Tryz.func95, Tryz.ntmps95
  go_wp2_with fail
  refine (splitSeq_any s _).mono ?_
  rintro e w1 ⟨rfl, rfl⟩
  go_wp2
  go_returns
  exact ⟨rfl, rfl⟩
theorem pieces_size (r x : ByteArray) (h : x ∈ pieces r) : x.size ≤ r.size := by
  unfold pieces at h
  obtain ⟨p, hp, rfl⟩ := List.mem_map.1 h
  have := Cut.cuts_le 47 _ p hp
  rw [bal_length] at this
  show p.toArray.size ≤ _
  simpa using this
theorem four_allocs (w : World) (a b c d : Obj) :
    ((((w.alloc a).alloc b).alloc c).alloc d).heap[w.heap.size]? = some a ∧ ((((w.alloc a).alloc b).alloc c).alloc d).heap[w.heap.size + 1]? = some b ∧
    ((((w.alloc a).alloc b).alloc c).alloc d).heap[w.heap.size + 1 + 1]? = some c ∧ ((((w.alloc a).alloc b).alloc c).alloc d).heap[w.heap.size + 1 + 2]? = some d := by
  have h1 := World.alloc_heap_new (w.alloc a) b
  have h2 := World.alloc_heap_new ((w.alloc a).alloc b) c
  have h3 := World.alloc_heap_new (((w.alloc a).alloc b).alloc c) d
  simp only [World.size_alloc] at h1 h2 h3
  refine ⟨?_, ?_, ?_, h3⟩
  · exact (Below.heap_alloc _ _ _ (by simp; omega)).trans ((Below.heap_alloc _ _ _ (by simp; omega)).trans ((Below.heap_alloc _ _ _ (by simp)).trans (World.alloc_heap_new w a)))
  · exact (Below.heap_alloc _ _ _ (by simp)).trans ((Below.heap_alloc _ _ _ (by simp)).trans h1)
  · exact (Below.heap_alloc _ _ _ (by simp)).trans h2
theorem cell_put {W : World} {b l : Nat} {o : Obj} (h : b ≠ l) : (W.putObj l o).cell? ⟨b, 0, none⟩ = W.cell? ⟨b, 0, none⟩ := World.cell?_of_block (World.putObj_heap_other h)
theorem frozen_put {W : World} {b l : Nat} {o : Obj} (h : b ≠ l) : (W.putObj l o).frozen? ⟨b, 0, none⟩ = W.frozen? ⟨b, 0, none⟩ := World.frozen?_of_block (World.putObj_heap_other h)
theorem cell_set {W : World} {b c : Nat} {u : Value} (h : b ≠ c) : (W.setCell ⟨c, 0, none⟩ u).cell? ⟨b, 0, none⟩ = W.cell? ⟨b, 0, none⟩ := World.cell?_of_block (Below.heap_setCell _ _ _ _ h)
theorem below_put {B : Nat} {a W : World} (h : Below B a W) {l : Nat} (o : Obj) (hl : B ≤ l) (hB : B ≤ W.heap.size) : Below B a (W.putObj l o) :=
  h.grown (grownBy_putObj' W l o) hB (fun k e => by cases e; exact hl)
theorem keeps_below {W W' : World} (h : Below W.heap.size W W') : KeepsOthers W W' :=
  ⟨h.size, fun k o hk _ => (h.block k (Array.getElem?_eq_some_iff.1 hk).1).trans hk⟩
theorem str_eq_lit (x : ByteArray) (l : List UInt8) : (x.toList == l) = decide (x.data.toList = l) := by
  rw [ByteArray.toList_eq]
  by_cases h : x.data.toList = l
  · rw [h, decide_eq_true rfl]; exact beq_self_eq_true _
  · rw [beq_eq_false_iff_ne.2 h, decide_eq_false h]
theorem partOk_eq (x : ByteArray) : Plan.partOk x.data.toList = (!(x.toList == ([] : List UInt8)) && (decide (x.size ≤ 24) && (!(x.toList == [46]) && (!(x.toList == [46, 46]) && x.data.toList.all Plan.letterP)))) := by
  rw [str_eq_lit, str_eq_lit, str_eq_lit]
  unfold Plan.partOk
  rw [bal_length]
  congr 1
  · cases x.data.toList <;> simp
  · congr 1
    congr 1
    · simp
    · congr 1; simp
attribute [local go_sem] Oper.semAt_some
set_option maxHeartbeats 2000000 in
set_option maxRecDepth 100000 in
theorem path_loop (r : ByteArray) (s : ByteArray) (hs : s.size ≤ 4096) (hp : Go.Lib.hasPrefix s.data.toList [47] = true) (hr : Go.Lib.trimPrefix s.data.toList [47] = r.data.toList) (hrs : r.size ≤ 4096) (w : World) :
    Calls Tryz.prog 74 #[.string s] w fun e w' => e = .returned (.bool ((pieces r).all fun x => Plan.partOk x.data.toList)) ∧ Below w.heap.size w w' := by
  have hcut : ∀ w, Calls Tryz.prog 94 #[.string s, .string ⟨#[47]⟩] w fun e w' => e = .returned (.tuple #[.string r, .bool true]) ∧ w' = w := fun w => by
    have := Tryz.strings_CutPrefix s ⟨#[47]⟩ w
    rw [show (⟨#[47]⟩ : ByteArray).data.toList = [47] from rfl, hp, hr] at this
    exact this
  refine (callsIn_wide (n := 4)).1 ?_
  refine callsIn_of_wp_marks Tryz.func74 rfl trivial ?_ rfl
  simp only [Tryz.ntmps74, List.size_toArray, List.length_cons, List.length_nil, Nat.reduceAdd, Nat.reduceSub, Array.replicate_succ, Array.replicate_zero, List.push_toArray, List.append_toArray, List.nil_append, List.cons_append]
  gi_wp2
  refine ⟨trivial, ?_⟩
  refine (callsIn_wide.2 (hcut _)).mono ?_
  rintro e w1 ⟨rfl, rfl⟩
  gi_wp2
  refine ⟨trivial, ?_⟩
  refine (callsIn_wide.2 (SplitSeq_any r _)).mono ?_
  rintro e w1 ⟨rfl, rfl⟩
  gi_wp2
  obtain ⟨W0, hW0⟩ : ∃ W0, W0 = ((((w.alloc (.cells #[.bool false] 4)).alloc (.cells #[.string r] 9)).alloc (.cells #[.string ⟨#[47]⟩] 9)).alloc (.cells #[.int .i64 0] 3)) := ⟨_, rfl⟩
  rw [← hW0]
  have hs0 : W0.heap.size = w.heap.size + 4 := by rw [hW0]; simp
  obtain ⟨k0, k1, k2, k3⟩ := four_allocs w (.cells #[.bool false] 4) (.cells #[.string r] 9) (.cells #[.string ⟨#[47]⟩] 9) (.cells #[.int .i64 0] 3)
  rw [← hW0] at k0 k1 k2 k3
  have hR : W0.cell? ⟨w.heap.size, 0, none⟩ = some (.bool false) ∧ W0.frozen? ⟨w.heap.size, 0, none⟩ = false := ⟨by rw [Go.Lib.cell_of_heap k0]; rfl, Go.Lib.frozen_of_heap k0 0⟩
  have hBx : Boxes (w.heap.size + 1) (w.heap.size + 1 + 1) (w.heap.size + 1 + 2) r W0 :=
    ⟨by rw [Go.Lib.cell_of_heap k1]; rfl, Go.Lib.frozen_of_heap k1 0, by rw [Go.Lib.cell_of_heap k2]; rfl, by rw [Go.Lib.cell_of_heap k3]; rfl⟩
  clear k0 k1 k2 k3
  have hB0 : Below w.heap.size w W0 := by
    rw [hW0]
    exact ((((Below.refl _ w).alloc (Nat.le_refl _) _).alloc (by simp) _).alloc (by simp; omega) _).alloc (by simp; omega) _
  have HBX := Lib.hid hBx
  have HR := Lib.hid hR
  have HB0 := Lib.hid hB0
  clear hBx hR hB0 hW0
  refine wpIn_rangeFunc_box rfl (by omega) (gf := 146) (lb := #[.pointer (some ⟨w.heap.size + 1 + 1, 0, none⟩), .pointer (some ⟨w.heap.size + 1, 0, none⟩), .pointer (some ⟨w.heap.size + 1 + 2, 0, none⟩)]) rfl trivial (enters_of Tryz.func146 (by kernel_rfl) rfl)
    (w.heap.size + 1) (by omega) [w.heap.size + 1, w.heap.size + 1 + 1, w.heap.size + 1 + 2] (fun b hb => by simp at hb; omega) (pieces r)
    (fun l J Jx W hW hJs hY h0 => splitIter 3 (by omega) l (w.heap.size + 1) (w.heap.size + 1 + 1) (w.heap.size + 1 + 2) (by omega) (by omega) r (by omega) J Jx W (HBX.out.same hW) hJs hY h0)
    (fun pre W => (∀ x ∈ pre, Plan.partOk x.data.toList = true) ∧ (W.cell? ⟨w.heap.size, 0, none⟩ = some (.bool false) ∧ W.frozen? ⟨w.heap.size, 0, none⟩ = false) ∧ Below w.heap.size w W ∧ w.heap.size + 4 ≤ W.heap.size)
    (fun pre W => (∃ x ∈ pre, Plan.partOk x.data.toList = false) ∧ W.cell? ⟨w.heap.size, 0, none⟩ = some (.bool false) ∧ Below w.heap.size w W)
    ?ia ?ip ?is ?xp ⟨fun x hx => by simp at hx, HR.out, HB0.out, by omega⟩
    (fun x => { tmps := #[.string s, undef, .pointer (some ⟨w.heap.size, 0, none⟩), .string r, .bool true, .string x, .tuple #[.string r, .bool true], .string s, .tuple #[.string r, .bool true], .string r, .bool true, .bool true, .bool false, .bool false, .string s, .int .i64 s.size, .bool (decide (4096 < (s.size : Int))), .bool (decide (4096 < (s.size : Int))), .string r, .func (.func 146) #[] #[.pointer (some ⟨w.heap.size + 1 + 1, 0, none⟩), .pointer (some ⟨w.heap.size + 1, 0, none⟩), .pointer (some ⟨w.heap.size + 1 + 2, 0, none⟩)], .string x, undef, undef, undef, undef, undef, undef, undef, undef, undef, undef, undef, undef, undef, undef, undef, undef, undef, undef, undef, undef], defers := [] }) ?assign ?body ?done ?stop
  case ia =>
    rintro pre W o ⟨h1, ⟨h2, h3⟩, h4, h5⟩
    exact ⟨h1, ⟨cell_kept h2 (World.grownBy_alloc W o none) (fun r e => by cases e), (frozen_kept h2 (World.grownBy_alloc W o none) (fun r e => by cases e)).trans h3⟩, h4.alloc h4.size o, by simp; omega⟩
  case ip =>
    rintro pre W l o ⟨h1, ⟨h2, h3⟩, h4, h5⟩ hl
    exact ⟨h1, ⟨(cell_put (by omega)).trans h2, (frozen_put (by omega)).trans h3⟩, below_put h4 o (by omega) h4.size, by simpa using h5⟩
  case is =>
    rintro pre W u ⟨h1, ⟨h2, h3⟩, h4, h5⟩
    exact ⟨h1, ⟨(cell_set (by omega)).trans h2, by rw [World.frozen?_setCell]; exact h3⟩, h4.setCell (p := ⟨w.heap.size + 1, 0, none⟩) (by show w.heap.size ≤ w.heap.size + 1; omega) u, by simpa using h5⟩
  case xp =>
    rintro pre W l o ⟨h1, h2, h4⟩ hl
    exact ⟨h1, (cell_put (by omega)).trans h2, below_put h4 o (by omega) h4.size⟩
  case assign =>
    intro l x W K hK
    gi_wp2
    exact hK
  case body =>
    rintro l pre x W ⟨hall, ⟨hc, hf⟩, hB, h4W⟩ hpre
    have hxs : x.size ≤ 9223372036854775807 := by have := pieces_size r x (hpre.subset (by simp)); omega
    have hpo := partOk_eq x
    have bad : Plan.partOk x.data.toList = false → ∀ a, boxPost [w.heap.size + 1, w.heap.size + 1 + 1, w.heap.size + 1 + 2] (fun pre W => (∀ x ∈ pre, Plan.partOk x.data.toList = true) ∧ (W.cell? ⟨w.heap.size, 0, none⟩ = some (.bool false) ∧ W.frozen? ⟨w.heap.size, 0, none⟩ = false) ∧ Below w.heap.size w W ∧ w.heap.size + 4 ≤ W.heap.size) (fun pre W => (∃ x ∈ pre, Plan.partOk x.data.toList = false) ∧ W.cell? ⟨w.heap.size, 0, none⟩ = some (.bool false) ∧ Below w.heap.size w W) (pre ++ [x]) W .ret a (W.setCell ⟨w.heap.size, 0, none⟩ (.bool false))   := fun h a =>
      ⟨KeepsOthers.setCell _ _ _, ⟨x, by simp, h⟩, World.cell?_setCell_same' _ _ _ (by rw [hc]; rfl), hB.setCell (p := ⟨w.heap.size, 0, none⟩) (Nat.le_refl _) _⟩
    have HBAD := Lib.hid bad
    clear bad
    cases hq1 : (x.toList == ([] : List UInt8))
    · by_cases h24 : x.size ≤ 24
      · cases hq2 : (x.toList == [46])
        · cases hq3 : (x.toList == [46, 46])
          · rw [hq1, hq2, hq3, decide_eq_true h24] at hpo
            gi_wp2
            refine ⟨trivial, ?_⟩
            refine (CallsIn.inRound l (callsIn_wide.2 (TrimP x hxs _))).mono ?_
            rintro e W2 ⟨t, rfl, ht, hb2⟩
            have hz2 := hb2.size
            have hBw := hB.size
            have hc2 : W2.cell? ⟨w.heap.size, 0, none⟩ = some (.bool false) := by rw [hb2.cell (p := ⟨w.heap.size, 0, none⟩) (size_of_cell hc)]; exact hc
            have hf2 : W2.frozen? ⟨w.heap.size, 0, none⟩ = false := by rw [hb2.frozen (p := ⟨w.heap.size, 0, none⟩) (size_of_cell hc)]; exact hf
            cases hall2 : x.data.toList.all Plan.letterP
            · rw [hall2] at ht hpo
              have HP := Lib.hid hpo
              clear hpo hall2
              gi_wp2
              exact ⟨(keeps_below hb2).trans (KeepsOthers.setCell _ _ _), ⟨x, by simp, HP.out⟩, World.cell?_setCell_same' _ _ _ (by rw [hc2]; rfl), (hB.trans (hb2.mono hBw)).setCell (p := ⟨w.heap.size, 0, none⟩) (Nat.le_refl _) _⟩
            · rw [hall2] at ht hpo
              have HP := Lib.hid hpo
              clear hpo hall2
              gi_wp2
              refine ⟨keeps_below hb2, fun b hb => hb2.block b ?_, ⟨fun y hy => ?_, ⟨hc2, hf2⟩, hB.trans (hb2.mono hBw), by omega⟩⟩
              · simp at hb; omega
              · rcases List.mem_append.1 hy with hy | hy
                · exact hall y hy
                · simp at hy; subst hy; exact HP.out
          · rw [hq1, hq2, hq3] at hpo
            have HF := Lib.hid (HBAD.out (by rw [hpo]; simp))
            gi_wp2
            refine ⟨trivial, ?_⟩
            gi_wp2
            exact HF.out _
        · rw [hq1, hq2] at hpo
          have HF := Lib.hid (HBAD.out (by rw [hpo]; simp))
          gi_wp2
          refine ⟨trivial, ?_⟩
          gi_wp2
          exact HF.out _
      · rw [hq1, decide_eq_false h24] at hpo
        have HF := Lib.hid (HBAD.out (by rw [hpo]; simp))
        gi_wp2
        refine ⟨trivial, ?_⟩
        gi_wp2
        exact HF.out _
    · rw [hq1] at hpo
      have HF := Lib.hid (HBAD.out (by rw [hpo]; simp))
      gi_wp2
      refine ⟨trivial, ?_⟩
      gi_wp2
      exact HF.out _
  case done =>
    rintro D W hD ⟨hall, ⟨hcr, hfr⟩, hB, _⟩ hK
    have hhas : ((pieces r).all fun x => Plan.partOk x.data.toList) = true := List.all_eq_true.2 hall
    have hK' := (KeepsOthers.setCell W ⟨w.heap.size, 0, none⟩ (.bool true)).same D _ hK rfl
    have hBD := below_put (hB.setCell (p := ⟨w.heap.size, 0, none⟩) (Nat.le_refl _) (.bool true)) (.deferred none) (l := D) (by omega) (by have := hB.size; simpa using this)
    have hc5 := cell_kept (World.cell?_setCell_same' W ⟨w.heap.size, 0, none⟩ (.bool true) (by rw [hcr]; rfl)) (grownBy_putObj' _ D (.deferred none)) (fun r e => by cases e; exact ⟨_, hK', rfl⟩)
    gi_wp2
    refine ⟨by simp, .inl ⟨_, _, rfl, run_takeDeferred hK', ?_⟩⟩
    refine ⟨.bool true, ?_, by rw [hhas], hBD⟩
    simp [results, Tryz.results74, go_sem, hc5]
  case stop =>
    rintro D pre W hD hpre ⟨⟨x, hx, hbad⟩, hcr, hB⟩ hK
    have hhas : ((pieces r).all fun x => Plan.partOk x.data.toList) = false := List.all_eq_false.2 ⟨x, hpre.subset hx, by rw [hbad]; exact Bool.false_ne_true⟩
    have hBD := below_put hB (.deferred none) (l := D) (by omega) hB.size
    have hc5 := cell_kept hcr (grownBy_putObj' _ D (.deferred none)) (fun r e => by cases e; exact ⟨_, hK, rfl⟩)
    gi_wp2
    refine ⟨by simp, .inl ⟨_, _, rfl, run_takeDeferred hK, ?_⟩⟩
    refine ⟨.bool false, ?_, by rw [hhas], hBD⟩
    simp [results, Tryz.results74, go_sem, hc5]
set_option maxHeartbeats 1000000 in
set_option maxRecDepth 100000 in
/-- The ways out ahead of the loop. -/
theorem path_no (s r : ByteArray) (b : Bool) (hs : s.size ≤ 9223372036854775807) (hcut : ∀ w, Calls Tryz.prog 94 #[.string s, .string ⟨#[47]⟩] w fun e w' => e = .returned (.tuple #[.string r, .bool b]) ∧ w' = w) (h : b = false ∨ 4096 < s.size) (w : World) :
    Calls Tryz.prog 74 #[.string s] w fun e w' => e = .returned (.bool false) ∧ Below w.heap.size w w' := by
  have hB : Below w.heap.size w ((w.alloc (.cells #[.bool false] 4)).setCell ⟨w.heap.size, 0, none⟩ (.bool false)) := ((Below.refl _ w).alloc (Nat.le_refl _) _).setCell (p := ⟨w.heap.size, 0, none⟩) (Nat.le_refl _) _
  have hc : (w.alloc (.cells #[.bool false] 4)).cell? ⟨w.heap.size, 0, none⟩ = some (.bool false) := by simp
  have hB0 : Below w.heap.size w (w.alloc (.cells #[.bool false] 4)) := (Below.refl _ w).alloc (Nat.le_refl _) _
  clear hB
  refine (callsIn_wide (n := 4)).1 ?_
  refine callsIn_of_wp_marks Tryz.func74 rfl trivial ?_ rfl
  simp only [Tryz.ntmps74, List.size_toArray, List.length_cons, List.length_nil, Nat.reduceAdd, Nat.reduceSub, Array.replicate_succ, Array.replicate_zero, List.push_toArray, List.append_toArray, List.nil_append, List.cons_append]
  cases b
  · gi_wp2
    refine ⟨trivial, ?_⟩
    refine (callsIn_wide.2 (hcut _)).mono ?_
    rintro e w1 ⟨rfl, rfl⟩
    gi_wp2
    exact ⟨.bool false, by simp [results, Tryz.results74, go_sem, hc], rfl, hB0⟩
  · have h9 : (4096 : Int) < (s.size : Int) := by rcases h with h | h; (exact absurd h (by simp)); omega
    gi_wp2
    refine ⟨trivial, ?_⟩
    refine (callsIn_wide.2 (hcut _)).mono ?_
    rintro e w1 ⟨rfl, rfl⟩
    gi_wp2
    exact ⟨.bool false, by simp [results, Tryz.results74, go_sem, hc], rfl, hB0⟩
theorem path_any (s : ByteArray) (hs : s.size ≤ 9223372036854775807) (w : World) :
    Calls Tryz.prog 74 #[.string s] w fun e w' => e = .returned (.bool (Plan.pathOk s.data.toList)) ∧ Below w.heap.size w w' := by
  have hcut := fun w => Tryz.strings_CutPrefix s ⟨#[47]⟩ w
  simp only [show (⟨#[47]⟩ : ByteArray).data.toList = [47] from rfl] at hcut
  have hsl := bal_length s
  cases hl : s.data.toList with
  | nil =>
    rw [hl] at hcut
    exact path_no s _ false hs (fun w => hcut w) (Or.inl rfl) w
  | cons c r =>
    by_cases hc : c = 47
    · subst hc
      have h1 : Go.Lib.hasPrefix (47 :: r) [47] = true := by simp [Go.Lib.hasPrefix]
      have h2 : Go.Lib.trimPrefix (47 :: r) [47] = r := by simp [Go.Lib.trimPrefix, Go.Lib.hasPrefix]
      by_cases h4 : s.size ≤ 4096
      · have hrl : (bs r).size ≤ 4096 := by
          show r.toArray.size ≤ _
          rw [hl] at hsl
          simp at hsl ⊢
          omega
        have := path_loop (bs r) s h4 (by rw [hl]; exact h1) (by rw [hl, h2]; rfl) hrl w
        refine this.mono fun e w' ⟨he, hb⟩ => ⟨?_, hb⟩
        rw [he]
        have e1 : Plan.pathOk (47 :: r) = (Cut.cuts 47 r).all Plan.partOk := by
          have : decide ((47 :: r).length ≤ 4096) = true := decide_eq_true (by rw [← hl, hsl]; exact h4)
          simp only [Plan.pathOk, this, decide_true, Bool.true_and]
        rw [e1]
        unfold pieces
        rw [List.all_map]
        rfl
      · rw [hl, h1, h2] at hcut
        have e1 : Plan.pathOk (47 :: r) = false := by
          have : decide ((47 :: r).length ≤ 4096) = false := decide_eq_false (by rw [← hl, hsl]; exact h4)
          simp only [Plan.pathOk, this, Bool.false_and, Bool.and_false]
        rw [e1]
        exact path_no s _ true hs (fun w => hcut w) (Or.inr (by omega)) w
    · have h1 : Go.Lib.hasPrefix (c :: r) [47] = false := by simp only [Go.Lib.hasPrefix, List.isPrefixOf, Bool.and_true]; rw [beq_eq_false_iff_ne]; exact fun e => hc e.symm
      rw [hl, h1] at hcut
      have e1 : Plan.pathOk (c :: r) = false := by simp [Plan.pathOk, hc]
      rw [e1]
      exact path_no s _ false hs (fun w => hcut w) (Or.inl rfl) w
end Go.Proofs.YtdogacgpfnolfaaGreatDoor.PL

namespace Go.Proofs.YtdogacgpfnolfaaGreatDoor.PL
open Go.RowKit
set_option linter.unusedSimpArgs false
set_option linter.unusedVariables false
namespace Plan
/-- A deed. -/
structure D where
  kind : Int
  path : List UInt8
  data : List UInt8
  deriving DecidableEq
def journal : List UInt8 := [47, 106, 111, 117, 114, 110, 97, 108]
def free (p : List UInt8) : Bool := !decide (p = journal) && !(journal ++ [47]).isPrefixOf p
/-- May a deed be, for itself, behind one of the kind least? -/
def okD (least : Int) (d : D) : Bool := decide (least ≤ d.kind) && (decide (d.kind ≤ 4) && ((decide (d.kind = 4) || d.data.isEmpty) && (pathOk d.path && free d.path)))
/-- May a deed of that kind be at a path at which k is noted? -/
def fits (k kind : Int) : Bool := decide (k = 0) || ((decide (k = 1) && decide (kind = 3)) || (decide (k = 2) && decide (kind = 4)))
/-- What is noted behind it. -/
def note (k kind : Int) : Int := if k = 0 then kind else -1
def upd (s : List UInt8 → Int) (p : List UInt8) (v : Int) : List UInt8 → Int := fun q => if q = p then v else s q
/-- Are deeds a plan, from here on? -/
def chk (least : Int) (s : List UInt8 → Int) : List D → Bool
  | [] => true
  | d :: r => okD least d && (fits (s d.path) d.kind && chk d.kind (upd s d.path (note (s d.path) d.kind)) r)
def ok (ds : List D) : Bool := chk 1 (fun _ => 0) ds
/-- What Check answers. -/
def code (ds : List D) : Int := if ok ds then 0 else 44
theorem code_yes {ds : List D} (h : ok ds = true) : code ds = 0 := by unfold code; rw [if_pos h]
theorem code_no {ds : List D} (h : ok ds = false) : code ds = 44 := by unfold code; rw [h]; rfl
end Plan
/-- The cells of a deed. -/
def dcells (d : Plan.D) : Array Value := #[.int .i64 d.kind, .string (bs d.path), .string (bs d.data)]
/-- The slice v has the deeds ds, in blocks below B. -/
structure Deeds (w : World) (B : Nat) (v : Value) (ds : List Plan.D) : Prop where
  is : ∃ a cap, v = .slice a ds.length cap ∧ ∀ (i : Nat) d, ds[i]? = some d → ∃ bk o, a = some ⟨bk, o, none⟩ ∧ bk < B ∧
    w.cell? ⟨bk, o + i * 3, none⟩ = some (.int .i64 d.kind) ∧ w.cell? ⟨bk, o + i * 3 + 1, none⟩ = some (.string (bs d.path)) ∧ w.cell? ⟨bk, o + i * 3 + 2, none⟩ = some (.string (bs d.data))
theorem Deeds.nil (w : World) (B : Nat) : Deeds w B (.slice none 0 0) [] := ⟨none, 0, rfl, fun i d h => by simp at h⟩
theorem Deeds.form {w : World} {B : Nat} {v : Value} {ds : List Plan.D} (h : Deeds w B v ds) : ∃ a cap, v = .slice a ds.length cap := by
  obtain ⟨a, cap, rfl, _⟩ := h.is
  exact ⟨a, cap, rfl⟩
theorem Deeds.at {w : World} {B : Nat} {v : Value} {ds : List Plan.D} (h : Deeds w B v ds) (hn : 0 < ds.length) : ∃ bk o cap, v = .slice (some ⟨bk, o, none⟩) ds.length cap ∧ bk < B ∧ ∀ (i : Nat) d, ds[i]? = some d →
    w.cell? ⟨bk, o + i * 3, none⟩ = some (.int .i64 d.kind) ∧ w.cell? ⟨bk, o + i * 3 + 1, none⟩ = some (.string (bs d.path)) ∧ w.cell? ⟨bk, o + i * 3 + 2, none⟩ = some (.string (bs d.data)) := by
  obtain ⟨a, cap, rfl, hc⟩ := h.is
  obtain ⟨bk, o, ha, hB, _⟩ := hc 0 ds[0] (List.getElem?_eq_getElem hn)
  subst ha
  refine ⟨bk, o, cap, rfl, hB, fun i d hd => ?_⟩
  obtain ⟨bk', o', ha', _, h1, h2, h3⟩ := hc i d hd
  cases ha'
  exact ⟨h1, h2, h3⟩
theorem Deeds.below {w w' : World} {n B : Nat} {v : Value} {ds : List Plan.D} (h : Deeds w B v ds) (hb : Below n w w') (hB : B ≤ n) : Deeds w' B v ds := by
  obtain ⟨a, cap, rfl, hc⟩ := h.is
  refine ⟨a, cap, rfl, fun i d hd => ?_⟩
  obtain ⟨bk, o, ha, hb', h1, h2, h3⟩ := hc i d hd
  refine ⟨bk, o, ha, hb', ?_, ?_, ?_⟩
  · rw [hb.cell (p := ⟨bk, o + i * 3, none⟩) (by show bk < n; omega)]; exact h1
  · rw [hb.cell (p := ⟨bk, o + i * 3 + 1, none⟩) (by show bk < n; omega)]; exact h2
  · rw [hb.cell (p := ⟨bk, o + i * 3 + 2, none⟩) (by show bk < n; omega)]; exact h3
theorem Deeds.mono {w : World} {B B' : Nat} {v : Value} {ds : List Plan.D} (h : Deeds w B v ds) (hB : B ≤ B') : Deeds w B' v ds := by
  obtain ⟨a, cap, rfl, hc⟩ := h.is
  refine ⟨a, cap, rfl, fun i d hd => ?_⟩
  obtain ⟨bk, o, ha, hb', h1⟩ := hc i d hd
  exact ⟨bk, o, ha, by omega, h1⟩
end Go.Proofs.YtdogacgpfnolfaaGreatDoor.PL
