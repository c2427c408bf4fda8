/- Lines, whatever the bound is: one contract for both. -/
import Derived.Test.YtjiifieafnjpgaaDoorScanK
namespace Go.Proofs.YtjiifieafnjpgaaDoor
open Go.RowKit
set_option linter.unusedSimpArgs false
set_option linter.unusedVariables false
namespace Scan
open Cut
/-- What Lines answers: the code, the line's number, the lines. -/
def ans (s : ByteArray) (most : Int) : Int × Int × List (List (List UInt8)) :=
  if most < s.size then (25, 0, []) else match spec s.data.toList with
    | .inr ls => (0, 0, ls)
    | .inl n => (22, n, [])
theorem scanL_sizes : ∀ (P : List (List UInt8)) (k : Nat) (ls : List (List (List UInt8))), scanL k P = .inr ls → ls.length ≤ P.length ∧ ∀ l ∈ ls, ∃ p ∈ P, l = cuts 32 p
  | [], k, ls, h => by
    simp only [scanL, Sum.inr.injEq] at h
    subst h
    exact ⟨Nat.le_refl _, fun l hl => by simp at hl⟩
  | [p], k, ls, h => by
    simp only [scanL] at h
    split at h
    · simp only [Sum.inr.injEq] at h
      subst h
      exact ⟨by simp, fun l hl => by simp at hl⟩
    · exact absurd h (by simp)
  | p :: q :: r, k, ls, h => by
    simp only [scanL] at h
    split at h
    · cases hh : scanL (k + 1) (q :: r) with
      | inl n => rw [hh] at h; exact absurd h (by simp)
      | inr x =>
        rw [hh] at h
        simp only [Sum.inr.injEq] at h
        subst h
        obtain ⟨h1, h2⟩ := scanL_sizes (q :: r) (k + 1) x hh
        refine ⟨by simp at h1 ⊢; omega, fun l hl => ?_⟩
        rcases List.mem_cons.1 hl with rfl | hl
        · exact ⟨p, List.mem_cons_self, rfl⟩
        · obtain ⟨p', hp, e⟩ := h2 l hl
          exact ⟨p', List.mem_cons_of_mem _ hp, e⟩
    · exact absurd h (by simp)
theorem ans_sizes (s : ByteArray) (most : Int) : (ans s most).2.2.length ≤ s.size + 1 ∧ ∀ l ∈ (ans s most).2.2, l.length ≤ s.size + 1 ∧ 0 < l.length := by
  unfold ans
  split
  · exact ⟨by simp, fun l hl => by simp at hl⟩
  · cases h : spec s.data.toList with
    | inl n => exact ⟨by simp, fun l hl => by simp at hl⟩
    | inr ls =>
      obtain ⟨h1, h2⟩ := scanL_sizes _ _ _ h
      have hl := bal_length s
      refine ⟨?_, fun l hm => ?_⟩
      · show ls.length ≤ _
        rw [cuts_length] at h1
        have : s.data.toList.count 10 ≤ s.data.toList.length := List.count_le_length
        omega
      · obtain ⟨p, hp, rfl⟩ := h2 l hm
        have e1 := cuts_length 32 p
        have e2 : p.count 32 ≤ p.length := List.count_le_length
        have e3 := cuts_le 10 _ p hp
        omega
end Scan
/-- The same of memory and answer. -/
def LinesAns (s : ByteArray) (most : Int) (w : World) (e : Ending) (w' : World) : Prop :=
  ∃ v hs, e = .returned (.tuple #[v, .int .i64 (Scan.ans s most).1, .int .i64 (Scan.ans s most).2.1]) ∧ LinesAt w' w.heap.size w'.heap.size v hs (Scan.ans s most).2.2 ∧ Below w.heap.size w w'
theorem ans_of_post {s : ByteArray} {most : Int} {w : World} {e : Ending} {w' : World} (hm : ¬ most < s.size) (h : LinesPost s w e w') : LinesAns s most w e w' := by
  obtain ⟨hb, h⟩ := h
  unfold LinesAns Scan.ans
  rw [if_neg hm]
  cases hs : Scan.spec s.data.toList with
  | inl n =>
    rw [hs] at h
    exact ⟨_, [], h, Lines.nil _ _ _ _ _, hb⟩
  | inr ls =>
    rw [hs] at h
    obtain ⟨v, hs', he, hl⟩ := h
    exact ⟨v, hs', he, hl, hb⟩
theorem ans_long {s : ByteArray} {most : Int} {w : World} (hm : most < s.size) : LinesAns s most w (.returned (.tuple #[.slice none 0 0, .int .i64 25, .int .i64 0])) w := by
  unfold LinesAns Scan.ans
  rw [if_pos hm]
  exact ⟨_, [], rfl, Lines.nil _ _ _ _ _, Below.refl _ _⟩
set_option maxHeartbeats 1000000 in
set_option maxRecDepth 100000 in
theorem lines_long (s : ByteArray) (most : Int) (hm : most < s.size) (w : World) :
    Calls Tryd.prog 25 #[.string s, .int .i64 most] w (LinesAns s most w) := by
  have H := Lib.hid (@ans_long s most w hm)
  go_enter Tryd.func25, Tryd.ntmps25
  go_wp2
  go_step3
  go_wp2
  go_returns
  exact H.out
theorem lines_ans (s : ByteArray) (most : Int) (hs : s.size ≤ 4398046511104) (w : World) : Calls Tryd.prog 25 #[.string s, .int .i64 most] w (LinesAns s most w) := by
  by_cases hm : most < s.size
  · exact lines_long s most hm w
  · exact (lines_any s most hs (by omega) w).mono fun e w' h => ans_of_post hm h
end Go.Proofs.YtjiifieafnjpgaaDoor
