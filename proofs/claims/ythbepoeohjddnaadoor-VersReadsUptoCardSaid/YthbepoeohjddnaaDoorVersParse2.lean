/- Parse of the program: just the texts of versions that may be are read. -/
import Derived.Test.YthbepoeohjddnaaDoorVersParse1
import Derived.Test.YthbepoeohjddnaaDoorVersText
namespace Go.Proofs.YthbepoeohjddnaaDoor
open Go.RowKit
set_option linter.unusedSimpArgs false
set_option linter.unusedVariables false
/-- Is a text a version's? -/
def V.IsVer (l : List UInt8) : Prop := ∃ a b c : Int, V.may a b c = true ∧ l = V.text a b c
theorem piece_lists (s : ByteArray) : (pieces s).map (·.data.toList) = Cut.cuts 46 s.data.toList := Cut.splitB_cuts 46 s
theorem piece_size {s p : ByteArray} (h : p ∈ pieces s) : p.size ≤ s.size := by
  have := Cut.cuts_le 46 s.data.toList p.data.toList (by rw [← piece_lists]; exact List.mem_map.2 ⟨p, h, rfl⟩)
  simpa using this
theorem glued {s p0 p1 p2 : ByteArray} (h : pieces s = [p0, p1, p2]) : s.data.toList = p0.data.toList ++ 46 :: (p1.data.toList ++ 46 :: p2.data.toList) := by
  have := Cut.glue_cuts 46 s.data.toList
  rw [← piece_lists, h] at this
  simpa [Cut.glue] using this.symm
theorem dec_no_dot (u : Nat) : (46 : UInt8) ∉ Go.Lib.decDigits u := fun h => by
  have := (Num.dec_digit u 46 h).1
  exact absurd this (by decide)
theorem cuts_text (a b c : Int) : Cut.cuts 46 (V.text a b c) = [Go.Lib.decDigits a.toNat, Go.Lib.decDigits b.toNat, Go.Lib.decDigits c.toNat] := by
  unfold V.text
  rw [Cut.cuts_append (dec_no_dot _), Cut.cuts_append (dec_no_dot _), Cut.cuts_one (dec_no_dot _)]
theorem isVer_of {s p0 p1 p2 : ByteArray} {x0 x1 x2 : Int} (h : pieces s = [p0, p1, p2]) (e0 : ((itext x0).toList == p0.toList) = true) (e1 : ((itext x1).toList == p1.toList) = true) (e2 : ((itext x2).toList == p2.toList) = true)
    (hm : V.may x0 x1 x2 = true) : s.data.toList = V.text x0 x1 x2 := by
  have hb := V.may_iff.1 hm
  rw [itext_list, ByteArray.toList_eq, beq_iff_eq, Num.itoa_nat (by omega)] at e0 e1 e2
  rw [glued h, ← e0, ← e1, ← e2]
  rfl
set_option maxHeartbeats 1000000 in
theorem parse_len (s : ByteArray) (hs : s.size ≤ 1048576) (hn : ¬ Go.Lib.countB s ⟨#[46]⟩ = 2) (w : World) (hE : Env w) :
    Calls Tryd.prog 23 #[.string s] w fun e w' => e = .returned (.tuple #[.agg #[.int .i64 0, .int .i64 0, .int .i64 0], .bool false]) ∧ Below w.heap.size w w' := by
  have hne : ((((Go.Lib.countB s ⟨#[46]⟩ + 1 : Nat) : Int)) == 3) = false := by rw [beq_eq_false_iff_ne]; omega
  have hle : Go.Lib.countB s ⟨#[46]⟩ ≤ s.size := Go.Lib.countB_le _ (by decide) s.size s (Nat.le_refl _)
  obtain ⟨n, hn'⟩ : ∃ n, Go.Lib.countB s ⟨#[46]⟩ = n := ⟨_, rfl⟩
  rw [hn'] at hne hle
  have HE := Lib.hid hE
  have HN := Lib.hid hn'
  have hn3 : ¬ n = 2 := by rw [← hn']; exact hn
  clear hE hn hn' hne
  go_enter Tryd.func23, Tryd.ntmps23
  go_wp2_with fail
  refine (Split_any s 46 (by omega) _ (HE.out.to (by go_grown))).mono ?_
  rintro e w0 ⟨rfl, rfl⟩
  rw [HN.out]
  go_wp2_with fail
  refine bodyPost_ret (v := .tuple #[.agg #[.int .i64 0, .int .i64 0, .int .i64 0], .bool false]) ?_ rfl ⟨rfl, by go_grown⟩
  simp [results, Tryd.results23, go_sem]
theorem parse_no_any (s : ByteArray) (hs : s.size ≤ 1048576) (h : ¬ V.IsVer s.data.toList) (w : World) (hE : Env w) :
    Calls Tryd.prog 23 #[.string s] w fun e w' => e = .returned (.tuple #[.agg #[.int .i64 0, .int .i64 0, .int .i64 0], .bool false]) ∧ Below w.heap.size w w' := by
  by_cases hn : Go.Lib.countB s ⟨#[46]⟩ = 2
  · have hl := pieces_length s
    rw [hn] at hl
    rcases hp : pieces s with _ | ⟨p0, _ | ⟨p1, _ | ⟨p2, _ | ⟨p3, r⟩⟩⟩⟩
    case cons.cons.cons.nil =>
      have s0 : p0.size ≤ s.size := piece_size (by rw [hp]; simp)
      have s1 : p1.size ≤ s.size := piece_size (by rw [hp]; simp)
      have s2 : p2.size ≤ s.size := piece_size (by rw [hp]; simp)
      by_cases h0 : ∃ x0, Go.Lib.atoiAll p0.data.toList = .ok x0
      · obtain ⟨x0, h0⟩ := h0
        cases e0 : ((itext x0).toList == p0.toList)
        · exact parse_m s p0 p1 p2 hs hp s0 s1 s2 x0 h0 e0 w hE
        by_cases h1 : ∃ x1, Go.Lib.atoiAll p1.data.toList = .ok x1
        · obtain ⟨x1, h1⟩ := h1
          cases e1 : ((itext x1).toList == p1.toList)
          · exact parse_km s p0 p1 p2 hs hp s0 s1 s2 x0 h0 e0 x1 h1 e1 w hE
          by_cases h2 : ∃ x2, Go.Lib.atoiAll p2.data.toList = .ok x2
          · obtain ⟨x2, h2⟩ := h2
            cases e2 : ((itext x2).toList == p2.toList)
            · exact parse_kkm s p0 p1 p2 hs hp s0 s1 s2 x0 h0 e0 x1 h1 e1 x2 h2 e2 w hE
            cases hm : V.may x0 x1 x2
            · exact parse_no s p0 p1 p2 hs hp s0 s1 s2 x0 h0 e0 x1 h1 e1 x2 h2 e2 hm w hE
            · exact absurd ⟨x0, x1, x2, hm, isVer_of hp e0 e1 e2 hm⟩ h
          · exact parse_kkb s p0 p1 p2 hs hp s0 s1 s2 x0 h0 e0 x1 h1 e1 (fun v hv => h2 ⟨v, hv⟩) w hE
        · exact parse_kb s p0 p1 p2 hs hp s0 s1 s2 x0 h0 e0 (fun v hv => h1 ⟨v, hv⟩) w hE
      · exact parse_b s p0 p1 p2 hs hp s0 s1 s2 (fun v hv => h0 ⟨v, hv⟩) w hE
    all_goals (rw [hp] at hl; simp at hl)
  · exact parse_len s hs hn w hE
theorem piece_of {p : ByteArray} {n : Int} (h : 0 ≤ n ∧ n ≤ 999) (e : p.data.toList = Go.Lib.decDigits n.toNat) : Go.Lib.atoiAll p.data.toList = .ok n ∧ ((itext n).toList == p.toList) = true := by
  refine ⟨?_, ?_⟩
  · rw [e, Num.atoi_dec (by omega)]; congr 1; omega
  · rw [itext_list, ByteArray.toList_eq, beq_iff_eq, Num.itoa_nat (by omega), e]
theorem parse_yes_any (s : ByteArray) (a b c : Int) (hm : V.may a b c = true) (e : s.data.toList = V.text a b c) (w : World) (hE : Env w) :
    Calls Tryd.prog 23 #[.string s] w fun e w' => e = .returned (.tuple #[.agg #[.int .i64 a, .int .i64 b, .int .i64 c], .bool true]) ∧ Below w.heap.size w w' := by
  have hb := V.may_iff.1 hm
  have hs : s.size ≤ 1048576 := by
    have h1 := (V.dec_short (u := a.toNat) (by omega)).1
    have h2 := (V.dec_short (u := b.toNat) (by omega)).1
    have h3 := (V.dec_short (u := c.toNat) (by omega)).1
    have h4 : s.size = s.data.toList.length := by simp
    rw [h4, e]
    simp only [V.text, List.length_append, List.length_cons]
    omega
  have hl := piece_lists s
  rw [e, cuts_text] at hl
  rcases hp : pieces s with _ | ⟨p0, _ | ⟨p1, _ | ⟨p2, _ | ⟨p3, r⟩⟩⟩⟩
  case cons.cons.cons.nil =>
    rw [hp] at hl
    simp only [List.map_cons, List.map_nil, List.cons.injEq, and_true] at hl
    obtain ⟨l0, l1, l2⟩ := hl
    obtain ⟨a0, b0⟩ := piece_of hb.1 l0
    obtain ⟨a1, b1⟩ := piece_of hb.2.1 l1
    obtain ⟨a2, b2⟩ := piece_of hb.2.2 l2
    exact parse_yes s p0 p1 p2 hs hp (piece_size (by rw [hp]; simp)) (piece_size (by rw [hp]; simp)) (piece_size (by rw [hp]; simp)) a a0 b0 b a1 b1 c a2 b2 hm w hE
  all_goals (rw [hp] at hl; simp at hl)
end Go.Proofs.YthbepoeohjddnaaDoor
