/- The walk of the statement VersRanks: it returns true, and what was there before stays. -/
import Derived.Test.YthbepoeohjddnaaDoorVersKnown
namespace Go.Proofs.YthbepoeohjddnaaDoor
open Go.RowKit
set_option linter.unusedSimpArgs false
set_option linter.unusedVariables false
theorem V.same_self (a b c : Int) : V.same a b c a b c = true := V.same_iff.2 ⟨rfl, rfl, rfl⟩
set_option maxHeartbeats 4000000 in
set_option maxRecDepth 100000 in
theorem ranks_walk (a b c n : Int) (w : World) :
    Calls Tryd.prog 3 #[.agg #[.int .i64 a, .int .i64 b, .int .i64 c], .int .i64 n] w fun e w' => e = .returned (.bool true) ∧ Below w.heap.size w w' := by
  have hs := V.same_self
  go_enter Tryd.func3, Tryd.ntmps3
  go_wp2_with fail
  refine (rank_any _ _ _ _).mono ?_
  rintro e w1 ⟨rfl, hb1⟩
  have B1 : Below w.heap.size w w1 := by refine Below.trans ?_ (hb1.mono ?_) <;> go_grown
  obtain ⟨hc1, hf1⟩ := bcell hb1
  have hz10 : w.heap.size < w1.heap.size := by have := hb1.size; (try simp at this); omega
  clear hb1
  go_wp2_with fail
  refine (rrank_any _ _ _ _).mono ?_
  rintro e w2 ⟨rfl, hb2⟩
  have B2 : Below w.heap.size w w2 := by refine Below.trans ?_ (hb2.mono ?_) <;> go_grown
  clear B1
  obtain ⟨hc2, hf2⟩ := bcell hb2
  have hz20 : w.heap.size < w2.heap.size := by have := hb2.size; (try simp at this); omega
  clear hb2
  go_wp2_with fail
  refine (at_any _ _).mono ?_
  rintro e w3 ⟨rfl, hb3⟩
  have B3 : Below w.heap.size w w3 := by refine Below.trans ?_ (hb3.mono ?_) <;> go_grown
  clear B2
  obtain ⟨hc3, hf3⟩ := bcell hb3
  have hz30 : w.heap.size < w3.heap.size := by have := hb3.size; (try simp at this); omega
  clear hb3
  go_wp2_with fail
  refine (rat_any _ _).mono ?_
  rintro e w4 ⟨rfl, hb4⟩
  have B4 : Below w.heap.size w w4 := by refine Below.trans ?_ (hb4.mono ?_) <;> go_grown
  clear B3
  obtain ⟨hc4, hf4⟩ := bcell hb4
  have hz40 : w.heap.size < w4.heap.size := by have := hb4.size; (try simp at this); omega
  have hz41 : w3.heap.size < w4.heap.size := by have := hb4.size; (try simp at this); omega
  clear hb4
  go_wp2_with fail
  refine (next_any _ _ _ _).mono ?_
  rintro e w5 ⟨rfl, hb5⟩
  have B5 : Below w.heap.size w w5 := by refine Below.trans ?_ (hb5.mono ?_) <;> go_grown
  clear B4
  obtain ⟨hc5, hf5⟩ := bcell hb5
  have hz50 : w.heap.size < w5.heap.size := by have := hb5.size; (try simp at this); omega
  have hz51 : w3.heap.size < w5.heap.size := by have := hb5.size; (try simp at this); omega
  have hz52 : w4.heap.size < w5.heap.size := by have := hb5.size; (try simp at this); omega
  clear hb5
  go_wp2_with fail
  refine (rnext_any _ _ _ _).mono ?_
  rintro e w6 ⟨rfl, hb6⟩
  have B6 : Below w.heap.size w w6 := by refine Below.trans ?_ (hb6.mono ?_) <;> go_grown
  clear B5
  obtain ⟨hc6, hf6⟩ := bcell hb6
  have hz60 : w.heap.size < w6.heap.size := by have := hb6.size; (try simp at this); omega
  have hz61 : w3.heap.size < w6.heap.size := by have := hb6.size; (try simp at this); omega
  have hz62 : w4.heap.size < w6.heap.size := by have := hb6.size; (try simp at this); omega
  have hz63 : w5.heap.size < w6.heap.size := by have := hb6.size; (try simp at this); omega
  clear hb6
  go_wp2_with fail
  refine (prev_any _ _ _ _).mono ?_
  rintro e w7 ⟨rfl, hb7⟩
  have B7 : Below w.heap.size w w7 := by refine Below.trans ?_ (hb7.mono ?_) <;> go_grown
  clear B6
  obtain ⟨hc7, hf7⟩ := bcell hb7
  have hz70 : w.heap.size < w7.heap.size := by have := hb7.size; (try simp at this); omega
  have hz71 : w3.heap.size < w7.heap.size := by have := hb7.size; (try simp at this); omega
  have hz72 : w4.heap.size < w7.heap.size := by have := hb7.size; (try simp at this); omega
  have hz73 : w5.heap.size < w7.heap.size := by have := hb7.size; (try simp at this); omega
  have hz74 : w6.heap.size < w7.heap.size := by have := hb7.size; (try simp at this); omega
  clear hb7
  go_wp2_with fail
  refine (rprev_any _ _ _ _).mono ?_
  rintro e w8 ⟨rfl, hb8⟩
  have B8 : Below w.heap.size w w8 := by refine Below.trans ?_ (hb8.mono ?_) <;> go_grown
  clear B7
  obtain ⟨hc8, hf8⟩ := bcell hb8
  have hz80 : w.heap.size < w8.heap.size := by have := hb8.size; (try simp at this); omega
  have hz81 : w3.heap.size < w8.heap.size := by have := hb8.size; (try simp at this); omega
  have hz82 : w4.heap.size < w8.heap.size := by have := hb8.size; (try simp at this); omega
  have hz83 : w5.heap.size < w8.heap.size := by have := hb8.size; (try simp at this); omega
  have hz84 : w6.heap.size < w8.heap.size := by have := hb8.size; (try simp at this); omega
  have hz85 : w7.heap.size < w8.heap.size := by have := hb8.size; (try simp at this); omega
  clear hb8
  go_wp2_with fail
  refine (known_true _).mono ?_
  rintro e w9 ⟨rfl, hb9⟩
  have B9 : Below w.heap.size w w9 := by refine Below.trans ?_ (hb9.mono ?_) <;> go_grown
  go_wp2_with fail
  go_returns
  exact ⟨ret_bool (by decide +kernel), B9⟩
end Go.Proofs.YthbepoeohjddnaaDoor
