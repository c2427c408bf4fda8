/- Both Parses answer alike; the walks of the statements VersReads and VersWrites. -/
import Derived.Test.YthbepoeohjddnaaDoorVersParse2
import Derived.Test.YthbepoeohjddnaaDoorVersRef3
import Derived.Test.YthbepoeohjddnaaDoorVersPrint
namespace Go.Proofs.YthbepoeohjddnaaDoor
open Go.RowKit
set_option linter.unusedSimpArgs false
set_option linter.unusedVariables false
theorem run_digits : ∀ (l : List UInt8) (pre : List Int) (x : Nat), (∀ c ∈ l, Num.Digit c) → Num.valFrom x l ≤ 9999 → V.run (pre ++ [(x : Int)]) l = some (pre ++ [(Num.valFrom x l : Int)])
  | [], _, _, _, _ => rfl
  | c :: l, pre, x, hd, hv => by
    have hc := hd c List.mem_cons_self
    have hle := Num.valFrom_le (10 * x + (c.toNat - 48)) l
    rw [Num.valFrom_cons] at hv ⊢
    unfold Num.Digit at hc
    have e : V.step (pre ++ [(x : Int)]) c = some (pre ++ [((10 * x + (c.toNat - 48) : Nat) : Int)]) := by
      unfold V.step
      have e1 : (pre ++ [(x : Int)]).getLastD 0 = x := by simp
      rw [if_neg (by omega), if_pos ⟨hc, by rw [e1]; omega⟩, e1]
      simp
    simp only [V.run, e]
    exact run_digits l pre _ (fun y hy => hd y (List.mem_cons_of_mem _ hy)) hv
theorem run_dot (ls : List Int) (l : List UInt8) : V.run ls (46 :: l) = V.run (ls ++ [0]) l := rfl
theorem run_text {a b c : Int} (h : V.may a b c = true) : V.run [0] (V.text a b c) = some [a, b, c] := by
  have hb := V.may_iff.1 h
  unfold V.text
  have d1 := run_digits (Go.Lib.decDigits a.toNat) [] 0 (Num.dec_digit _) (by rw [Num.val_dec]; omega)
  have d2 := run_digits (Go.Lib.decDigits b.toNat) [a] 0 (Num.dec_digit _) (by rw [Num.val_dec]; omega)
  have d3 := run_digits (Go.Lib.decDigits c.toNat) [a, b] 0 (Num.dec_digit _) (by rw [Num.val_dec]; omega)
  rw [Num.val_dec] at d1 d2 d3
  rw [show ((a.toNat : Nat) : Int) = a by omega] at d1
  rw [show ((b.toNat : Nat) : Int) = b by omega] at d2
  rw [show ((c.toNat : Nat) : Int) = c by omega] at d3
  simp only [List.nil_append, List.cons_append, Int.ofNat_zero, Int.natCast_zero] at d1 d2 d3
  rw [V.run_append, d1]
  simp only [Option.bind_some]
  rw [run_dot, V.run_append]
  simp only [List.cons_append, List.nil_append]
  rw [d2]
  simp only [Option.bind_some]
  rw [run_dot]
  exact d3
def V.ryes (a b c : Int) : Value := .tuple #[.agg #[.int .i64 a, .int .i64 b, .int .i64 c], .bool true]
theorem rans_yes {a b c : Int} (h : V.may a b c = true) : V.rans (V.text a b c) = V.ryes a b c := by
  unfold V.rans
  rw [run_text h]
  simp only [V.str_list h, beq_self_eq_true, if_true]
  rfl
theorem rans_no {l : List UInt8} (h : ¬ V.IsVer l) : V.rans l = V.rno := by
  unfold V.rans
  split
  · rename_i a b c hr
    split
    · rename_i he
      rw [beq_iff_eq] at he
      cases hm : V.may a b c
      · rw [V.str_no hm] at he
        have : l = [] := by rw [← he, ByteArray.toList_eq]
        rw [this] at hr
        exact absurd hr (by simp [V.run])
      · exact absurd ⟨a, b, c, hm, by rw [← he, V.str_list hm]⟩ h
    · rfl
  · rfl
/-- Parse of the program, of any text. -/
theorem parse_any (s : ByteArray) (hs : s.size ≤ 1048576) (w : World) (hE : Env w) :
    Calls Tryd.prog 23 #[.string s] w fun e w' => e = .returned (V.rans s.data.toList) ∧ Below w.heap.size w w' := by
  by_cases h : V.IsVer s.data.toList
  · obtain ⟨a, b, c, hm, e⟩ := h
    rw [e, rans_yes hm]
    exact parse_yes_any s a b c hm e w hE
  · rw [rans_no h]
    exact parse_no_any s hs h w hE
/-- What Parse answers, spelt out. -/
theorem rans_form (l : List UInt8) : ∃ (a b c : Int) (x : Bool), V.rans l = .tuple #[.agg #[.int .i64 a, .int .i64 b, .int .i64 c], .bool x] := by
  unfold V.rans
  split
  · split
    · exact ⟨_, _, _, _, rfl⟩
    · exact ⟨_, _, _, _, rfl⟩
  · exact ⟨_, _, _, _, rfl⟩
set_option maxHeartbeats 1000000 in
set_option maxRecDepth 100000 in
theorem reads_walk (s : ByteArray) (hs : s.size ≤ 1048576) (w : World) (hE : Env w) :
    Calls Tryd.prog 7 #[.string s] w fun e w' => e = .returned (.bool true) ∧ Below w.heap.size w w' := by
  obtain ⟨a, b, c, x, hr⟩ := rans_form s.data.toList
  have h1 := parse_any s hs w hE
  have h2 := rparse_any s hs
  rw [hr] at h1
  have H2 : Hid (∀ w, Calls Tryd.prog 24 #[.string s] w fun e w' => e = .returned (.tuple #[.agg #[.int .i64 a, .int .i64 b, .int .i64 c], .bool x]) ∧ Below w.heap.size w w') := by
    rw [← hr]; exact h2
  have H1 := Lib.hid h1
  have hself : ∀ a b c : Int, V.same a b c a b c = true := fun a b c => V.same_iff.2 ⟨rfl, rfl, rfl⟩
  clear h1 h2 hr
  go_enter Tryd.func7, Tryd.ntmps7
  go_wp2_with fail
  refine (H1.out).mono ?_
  rintro e w1 ⟨rfl, hb1⟩
  have B1 : Below w.heap.size w w1 := by refine Below.trans ?_ (hb1.mono ?_) <;> go_grown
  have s1 := B1.size
  obtain ⟨hc1, hf1⟩ := bcell hb1
  clear hb1
  go_wp2_with fail
  refine (H2.out _).mono ?_
  rintro e w2 ⟨rfl, hb2⟩
  have B2 : Below w.heap.size w w2 := by refine Below.trans ?_ (hb2.mono ?_) <;> go_grown
  have s2 := B2.size
  clear B1
  obtain ⟨hc2, hf2⟩ := bcell hb2
  have hz20 : w1.heap.size < w2.heap.size := Nat.lt_of_lt_of_le (by first | omega | (simp; done) | (simp; omega)) hb2.size
  clear hb2
  go_wp2_with fail
  refine (known_true _).mono ?_
  rintro e w3 ⟨rfl, hb3⟩
  have B3 : Below w.heap.size w w3 := by refine Below.trans ?_ (hb3.mono ?_) <;> go_grown
  have s3 := B3.size
  clear B2
  obtain ⟨hc3, hf3⟩ := bcell hb3
  have hz30 : w1.heap.size < w3.heap.size := Nat.lt_of_lt_of_le (by first | omega | (simp; done) | (simp; omega)) hb3.size
  have hz31 : w2.heap.size < w3.heap.size := Nat.lt_of_lt_of_le (by first | omega | (simp; done) | (simp; omega)) hb3.size
  clear hb3
  go_wp2_with fail
  go_returns
  exact ⟨rfl, by go_grown⟩
theorem text_size {a b c : Int} : (V.str a b c).size = (V.str a b c).data.toList.length := by simp
set_option maxHeartbeats 1000000 in
set_option maxRecDepth 100000 in
theorem writes_no (a b c : Int) (hm : V.may a b c = false) (w : World) (hE : Env w) :
    Calls Tryd.prog 8 #[.agg #[.int .i64 a, .int .i64 b, .int .i64 c]] w fun e w' => e = .returned (.bool true) ∧ Below w.heap.size w w' := by
  have H1 : Hid (∀ w, Env w → Calls Tryd.prog 23 #[.string (V.str a b c)] w fun e w' => e = .returned (.tuple #[.agg #[.int .i64 0, .int .i64 0, .int .i64 0], .bool false]) ∧ Below w.heap.size w w') := fun w hE => parse_no_any _ (by rw [V.str_no hm]; decide) (by rw [V.str_no hm]; rintro ⟨x, y, z, h, e⟩; exact absurd e (by simp [V.text])) w hE
  have HM := Lib.hid hm
  have HE := Lib.hid hE
  have hself : ∀ a b c : Int, V.same a b c a b c = true := fun a b c => V.same_iff.2 ⟨rfl, rfl, rfl⟩
  clear hm hE
  go_enter Tryd.func8, Tryd.ntmps8
  go_wp2_with fail
  refine (print_any _ _ _ _ ((HE.out.to (by go_grown)).pow)).mono ?_
  rintro e w1 ⟨rfl, hb1⟩
  have B1 : Below w.heap.size w w1 := by refine Below.trans ?_ (hb1.mono ?_) <;> go_grown
  have s1 := B1.size
  obtain ⟨hc1, hf1⟩ := bcell hb1
  have hz10 : w.heap.size < w1.heap.size := Nat.lt_of_lt_of_le (by first | omega | (simp; done) | (simp; omega)) hb1.size
  clear hb1
  go_wp2_with fail
  refine (H1.out _ (HE.out.to (by go_grown))).mono ?_
  rintro e w2 ⟨rfl, hb2⟩
  have B2 : Below w.heap.size w w2 := by refine Below.trans ?_ (hb2.mono ?_) <;> go_grown
  have s2 := B2.size
  clear B1
  obtain ⟨hc2, hf2⟩ := bcell hb2
  have hz20 : w.heap.size < w2.heap.size := Nat.lt_of_lt_of_le (by first | omega | (simp; done) | (simp; omega)) hb2.size
  clear hb2
  go_wp2_with fail
  refine (rmay_any _ _ _ _).mono ?_
  rintro e w3 ⟨rfl, hb3⟩
  rw [HM.out]
  have B3 : Below w.heap.size w w3 := by refine Below.trans ?_ (hb3.mono ?_) <;> go_grown
  have s3 := B3.size
  clear B2
  obtain ⟨hc3, hf3⟩ := bcell hb3
  have hz30 : w.heap.size < w3.heap.size := Nat.lt_of_lt_of_le (by first | omega | (simp; done) | (simp; omega)) hb3.size
  have hz31 : w2.heap.size < w3.heap.size := Nat.lt_of_lt_of_le (by first | omega | (simp; done) | (simp; omega)) hb3.size
  clear hb3
  go_wp2_with fail
  refine (rprint_any _ _ _ _).mono ?_
  rintro e w4 ⟨rfl, hb4⟩
  have B4 : Below w.heap.size w w4 := by refine Below.trans ?_ (hb4.mono ?_) <;> go_grown
  have s4 := B4.size
  clear B3
  obtain ⟨hc4, hf4⟩ := bcell hb4
  have hz40 : w.heap.size < w4.heap.size := Nat.lt_of_lt_of_le (by first | omega | (simp; done) | (simp; omega)) hb4.size
  have hz41 : w2.heap.size < w4.heap.size := Nat.lt_of_lt_of_le (by first | omega | (simp; done) | (simp; omega)) hb4.size
  clear hb4
  go_wp2_with fail
  refine (known_true _).mono ?_
  rintro e w5 ⟨rfl, hb5⟩
  have B5 : Below w.heap.size w w5 := by refine Below.trans ?_ (hb5.mono ?_) <;> go_grown
  have s5 := B5.size
  clear B4
  obtain ⟨hc5, hf5⟩ := bcell hb5
  have hz50 : w.heap.size < w5.heap.size := Nat.lt_of_lt_of_le (by first | omega | (simp; done) | (simp; omega)) hb5.size
  have hz51 : w2.heap.size < w5.heap.size := Nat.lt_of_lt_of_le (by first | omega | (simp; done) | (simp; omega)) hb5.size
  clear hb5
  go_wp2_with fail
  go_returns
  exact ⟨rfl, by go_grown⟩
set_option maxHeartbeats 1000000 in
set_option maxRecDepth 100000 in
theorem writes_yes (a b c : Int) (hm : V.may a b c = true) (w : World) (hE : Env w) :
    Calls Tryd.prog 8 #[.agg #[.int .i64 a, .int .i64 b, .int .i64 c]] w fun e w' => e = .returned (.bool true) ∧ Below w.heap.size w w' := by
  have H1 : Hid (∀ w, Env w → Calls Tryd.prog 23 #[.string (V.str a b c)] w fun e w' => e = .returned (.tuple #[.agg #[.int .i64 a, .int .i64 b, .int .i64 c], .bool true]) ∧ Below w.heap.size w w') := fun w hE => parse_yes_any _ a b c hm (by rw [← ByteArray.toList_eq, V.str_list hm]) w hE
  have HM := Lib.hid hm
  have HE := Lib.hid hE
  have hself : ∀ a b c : Int, V.same a b c a b c = true := fun a b c => V.same_iff.2 ⟨rfl, rfl, rfl⟩
  clear hm hE
  go_enter Tryd.func8, Tryd.ntmps8
  go_wp2_with fail
  refine (print_any _ _ _ _ ((HE.out.to (by go_grown)).pow)).mono ?_
  rintro e w1 ⟨rfl, hb1⟩
  have B1 : Below w.heap.size w w1 := by refine Below.trans ?_ (hb1.mono ?_) <;> go_grown
  have s1 := B1.size
  obtain ⟨hc1, hf1⟩ := bcell hb1
  have hz10 : w.heap.size < w1.heap.size := Nat.lt_of_lt_of_le (by first | omega | (simp; done) | (simp; omega)) hb1.size
  clear hb1
  go_wp2_with fail
  refine (H1.out _ (HE.out.to (by go_grown))).mono ?_
  rintro e w2 ⟨rfl, hb2⟩
  have B2 : Below w.heap.size w w2 := by refine Below.trans ?_ (hb2.mono ?_) <;> go_grown
  have s2 := B2.size
  clear B1
  obtain ⟨hc2, hf2⟩ := bcell hb2
  have hz20 : w.heap.size < w2.heap.size := Nat.lt_of_lt_of_le (by first | omega | (simp; done) | (simp; omega)) hb2.size
  clear hb2
  go_wp2_with fail
  refine (rmay_any _ _ _ _).mono ?_
  rintro e w3 ⟨rfl, hb3⟩
  rw [HM.out]
  have B3 : Below w.heap.size w w3 := by refine Below.trans ?_ (hb3.mono ?_) <;> go_grown
  have s3 := B3.size
  clear B2
  obtain ⟨hc3, hf3⟩ := bcell hb3
  have hz30 : w.heap.size < w3.heap.size := Nat.lt_of_lt_of_le (by first | omega | (simp; done) | (simp; omega)) hb3.size
  have hz31 : w2.heap.size < w3.heap.size := Nat.lt_of_lt_of_le (by first | omega | (simp; done) | (simp; omega)) hb3.size
  clear hb3
  go_wp2_with fail
  refine (rprint_any _ _ _ _).mono ?_
  rintro e w4 ⟨rfl, hb4⟩
  have B4 : Below w.heap.size w w4 := by refine Below.trans ?_ (hb4.mono ?_) <;> go_grown
  have s4 := B4.size
  clear B3
  obtain ⟨hc4, hf4⟩ := bcell hb4
  have hz40 : w.heap.size < w4.heap.size := Nat.lt_of_lt_of_le (by first | omega | (simp; done) | (simp; omega)) hb4.size
  have hz41 : w2.heap.size < w4.heap.size := Nat.lt_of_lt_of_le (by first | omega | (simp; done) | (simp; omega)) hb4.size
  clear hb4
  go_wp2_with fail
  refine (known_true _).mono ?_
  rintro e w5 ⟨rfl, hb5⟩
  have B5 : Below w.heap.size w w5 := by refine Below.trans ?_ (hb5.mono ?_) <;> go_grown
  have s5 := B5.size
  clear B4
  obtain ⟨hc5, hf5⟩ := bcell hb5
  have hz50 : w.heap.size < w5.heap.size := Nat.lt_of_lt_of_le (by first | omega | (simp; done) | (simp; omega)) hb5.size
  have hz51 : w2.heap.size < w5.heap.size := Nat.lt_of_lt_of_le (by first | omega | (simp; done) | (simp; omega)) hb5.size
  clear hb5
  go_wp2_with fail
  go_returns
  exact ⟨rfl, by go_grown⟩
theorem writes_walk (a b c : Int) (w : World) (hE : Env w) :
    Calls Tryd.prog 8 #[.agg #[.int .i64 a, .int .i64 b, .int .i64 c]] w fun e w' => e = .returned (.bool true) ∧ Below w.heap.size w w' := by
  cases hm : V.may a b c
  · exact writes_no a b c hm w hE
  · exact writes_yes a b c hm w hE
end Go.Proofs.YthbepoeohjddnaaDoor
