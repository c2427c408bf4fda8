/- Plans: what their texts and their checks answer (part 3). -/
import Derived.Test.YtjiifieafnjpgaaDoorVL2
namespace Go.Proofs.YtjiifieafnjpgaaDoor.VL
open Go.RowKit
set_option linter.unusedSimpArgs false
set_option linter.unusedVariables false
theorem run_digits : ∀ (l : List UInt8) (pre : List Int) (x : Nat), (∀ c ∈ l, Num.Digit c) → Num.valFrom x l ≤ 9999 → V.run (pre ++ [(x : Int)]) l = some (pre ++ [(Num.valFrom x l : Int)])
  | [], _, _, _, _ => rfl
  | c :: l, pre, x, hd, hv => by
    have hc := hd c List.mem_cons_self
    have hle := Num.valFrom_le (10 * x + (c.toNat - 48)) l
    rw [Num.valFrom_cons] at hv ⊢
    unfold Num.Digit at hc
    have e : V.step (pre ++ [(x : Int)]) c = some (pre ++ [((10 * x + (c.toNat - 48) : Nat) : Int)]) := by
      unfold V.step
      have e1 : (pre ++ [(x : Int)]).getLastD 0 = x := by simp
      rw [if_neg (by omega), if_pos ⟨hc, by rw [e1]; omega⟩, e1]
      simp
    simp only [V.run, e]
    exact run_digits l pre _ (fun y hy => hd y (List.mem_cons_of_mem _ hy)) hv
theorem run_dot (ls : List Int) (l : List UInt8) : V.run ls (46 :: l) = V.run (ls ++ [0]) l := rfl
theorem run_text {a b c : Int} (h : V.may a b c = true) : V.run [0] (V.text a b c) = some [a, b, c] := by
  have hb := V.may_iff.1 h
  unfold V.text
  have d1 := run_digits (Go.Lib.decDigits a.toNat) [] 0 (Num.dec_digit _) (by rw [Num.val_dec]; omega)
  have d2 := run_digits (Go.Lib.decDigits b.toNat) [a] 0 (Num.dec_digit _) (by rw [Num.val_dec]; omega)
  have d3 := run_digits (Go.Lib.decDigits c.toNat) [a, b] 0 (Num.dec_digit _) (by rw [Num.val_dec]; omega)
  rw [Num.val_dec] at d1 d2 d3
  rw [show ((a.toNat : Nat) : Int) = a by omega] at d1
  rw [show ((b.toNat : Nat) : Int) = b by omega] at d2
  rw [show ((c.toNat : Nat) : Int) = c by omega] at d3
  simp only [List.nil_append, List.cons_append, Int.ofNat_zero, Int.natCast_zero] at d1 d2 d3
  rw [V.run_append, d1]
  simp only [Option.bind_some]
  rw [run_dot, V.run_append]
  simp only [List.cons_append, List.nil_append]
  rw [d2]
  simp only [Option.bind_some]
  rw [run_dot]
  exact d3
def V.ryes (a b c : Int) : Value := .tuple #[.agg #[.int .i64 a, .int .i64 b, .int .i64 c], .bool true]
theorem rans_yes {a b c : Int} (h : V.may a b c = true) : V.rans (V.text a b c) = V.ryes a b c := by
  unfold V.rans
  rw [run_text h]
  simp only [V.str_list h, beq_self_eq_true, if_true]
  rfl
theorem rans_no {l : List UInt8} (h : ¬ V.IsVer l) : V.rans l = V.rno := by
  unfold V.rans
  split
  · rename_i a b c hr
    split
    · rename_i he
      rw [beq_iff_eq] at he
      cases hm : V.may a b c
      · rw [V.str_no hm] at he
        have : l = [] := by rw [← he, ByteArray.toList_eq]
        rw [this] at hr
        exact absurd hr (by simp [V.run])
      · exact absurd ⟨a, b, c, hm, by rw [← he, V.str_list hm]⟩ h
    · rfl
  · rfl
/-- Parse of the program, of any text. -/
theorem parse_any (s : ByteArray) (hs : s.size ≤ 1048576) (w : World) (hE : Env w) :
    Calls Tryd.prog 26 #[.string s] w fun e w' => e = .returned (V.rans s.data.toList) ∧ Below w.heap.size w w' := by
  by_cases h : V.IsVer s.data.toList
  · obtain ⟨a, b, c, hm, e⟩ := h
    rw [e, rans_yes hm]
    exact parse_yes_any s a b c hm e w hE
  · rw [rans_no h]
    exact parse_no_any s hs h w hE
/-- What Parse answers, spelt out. -/
theorem rans_form (l : List UInt8) : ∃ (a b c : Int) (x : Bool), V.rans l = .tuple #[.agg #[.int .i64 a, .int .i64 b, .int .i64 c], .bool x] := by
  unfold V.rans
  split
  · split
    · exact ⟨_, _, _, _, rfl⟩
    · exact ⟨_, _, _, _, rfl⟩
  · exact ⟨_, _, _, _, rfl⟩
end Go.Proofs.YtjiifieafnjpgaaDoor.VL
