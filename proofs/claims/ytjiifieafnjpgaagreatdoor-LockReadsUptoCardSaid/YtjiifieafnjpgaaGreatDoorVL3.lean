/- Plans: what their texts and their checks answer (part 3). -/
import Derived.Test.YtjiifieafnjpgaaGreatDoorVL2
namespace Go.Proofs.YtjiifieafnjpgaaGreatDoor.VL
open Go.RowKit
set_option linter.unusedSimpArgs false
set_option linter.unusedVariables false
theorem infoInt : (Tryz.prog.info? 3).map (fun i => (i.zero, i.size, i.bytes)) = some (some (.int .i64 0), 1, 8) := by kernel_rfl
/-- A slice that is owned and holds something leads somewhere. -/
theorem own_some {w : World} {base : Nat} {e : TypeId} {size : Nat} {v : Value} {n : Nat} {xs : List Value} (h : w.ownsRow base e size v n xs) (hn : 0 < n) : ∃ g cap, v = .slice (some ⟨g, 0, none⟩) n cap ∧ base ≤ g ∧ g < w.heap.size := by
  rcases h.2 with ⟨rfl, rfl⟩ | ⟨g, cap, cur, rfl, hb, hg, _⟩
  · omega
  · refine ⟨g, cap, rfl, hb, ?_⟩
    refine Decidable.byContradiction fun hh => ?_
    rw [Array.getElem?_eq_none (by omega)] at hg
    exact absurd hg (by simp)
theorem own_ne {x g n cap : Nat} (h : x < g) : some x ≠ (Value.slice (some ⟨g, 0, none⟩) n cap).ownBlock := fun e => by
  have : x = g := Option.some.inj e
  omega
theorem own_le {x g n cap : Nat} (h : x ≤ g) : ∀ j, (Value.slice (some ⟨g, 0, none⟩) n cap).ownBlock = some j → x ≤ j := fun j e => by
  have : g = j := Option.some.inj e
  omega
/-- What the loop has gathered behind k letters. -/
structure Gath (s : ByteArray) (k n : Nat) (ls : List Int) : Prop where
  run : V.run [0] (s.data.toList.take k) = some ls
  len : ls.length = n + 1
  le : n ≤ k
  lo : 0 ≤ ls.getLastD 0
  hi : ls.getLastD 0 ≤ 9999
theorem Gath.dot {s : ByteArray} {k n : Nat} {ls : List Int} (h : Gath s k n ls) (hk : k < s.size) (hc : (s[k].toNat : Int) = 46) : Gath s (k + 1) (n + 1) (ls ++ [0]) := by
  refine ⟨?_, by simp [h.len], by have := h.le; omega, by simp, by simp⟩
  rw [take_snoc s k hk, V.run_snoc, h.run]
  simp only [Option.bind_some, V.step]
  rw [if_pos (by omega)]
theorem Gath.dig {s : ByteArray} {k n : Nat} {ls : List Int} (h : Gath s k n ls) (hk : k < s.size) (hc : 48 ≤ (s[k].toNat : Int) ∧ (s[k].toNat : Int) ≤ 57) (hl : ls.getLastD 0 ≤ 999) :
    Gath s (k + 1) n (ls.dropLast ++ [10 * ls.getLastD 0 + ((s[k].toNat : Int) - 48)]) := by
  have h1 := h.lo
  have h2 := h.len
  have e : ∀ x : Int, (ls.dropLast ++ [x]).getLastD 0 = x := fun x => by simp
  refine ⟨?_, by simp [h2], by have := h.le; omega, by rw [e]; omega, by rw [e]; omega⟩
  rw [take_snoc s k hk, V.run_snoc, h.run]
  simp only [Option.bind_some, V.step]
  rw [if_neg (by omega), if_pos ⟨by omega, hl⟩]
  congr 3
  omega
theorem Gath.bad {s : ByteArray} {k n : Nat} {ls : List Int} (h : Gath s k n ls) (hk : k < s.size) (hd : ¬ (s[k].toNat : Int) = 46) (hc : ¬ ((48 ≤ (s[k].toNat : Int) ∧ (s[k].toNat : Int) ≤ 57) ∧ ls.getLastD 0 ≤ 999)) :
    V.run [0] s.data.toList = none := by
  have e : s.data.toList = s.data.toList.take (k + 1) ++ s.data.toList.drop (k + 1) := (List.take_append_drop _ _).symm
  rw [e, V.run_append, take_snoc s k hk, V.run_snoc, h.run]
  simp only [Option.bind_some, V.step]
  rw [if_neg (by omega), if_neg (fun q => hc ⟨by omega, q.2⟩)]
  rfl
theorem Gath.last {s : ByteArray} {k n : Nat} {ls : List Int} (h : Gath s k n ls) : (ls.map (Value.int .i64))[n]? = some (.int .i64 (ls.getLastD 0)) := by
  have h2 := h.len
  have : ls[n]? = some (ls.getLastD 0) := by
    rw [List.getLastD_eq_getLast?, List.getLast?_eq_getElem?, h2]
    simp only [Nat.add_sub_cancel]
    have : n < ls.length := by omega
    rw [List.getElem?_eq_getElem this]
    rfl
  simp [this]
theorem set_last {ls : List Int} {n : Nat} (h : ls.length = n + 1) (x : Int) : (ls.map (Value.int .i64)).set n (.int .i64 x) = (ls.dropLast ++ [x]).map (Value.int .i64) := by
  rw [← List.map_set]
  congr 1
  have hne : ls ≠ [] := by intro e; rw [e] at h; simp at h
  conv => lhs; rw [← List.dropLast_concat_getLast hne]
  rw [List.set_append_right _ _ (by simp [h])]
  simp [h]
/-- What Parse of the document answers. -/
def V.rno : Value := .tuple #[.agg #[.int .i64 0, .int .i64 0, .int .i64 0], .bool false]
def V.rans (l : List UInt8) : Value :=
  match V.run [0] l with
  | some [a, b, c] => if ((V.str a b c).toList == l) = true then .tuple #[.agg #[.int .i64 a, .int .i64 b, .int .i64 c], .bool true] else V.rno
  | _ => V.rno
theorem V.rans_none {l : List UInt8} (h : V.run [0] l = none) : V.rans l = V.rno := by unfold V.rans; rw [h]
theorem V.rans_len {l : List UInt8} {ls : List Int} (h : V.run [0] l = some ls) (hl : ls.length ≠ 3) : V.rans l = V.rno := by
  unfold V.rans
  rw [h]
  rcases ls with _ | ⟨a, _ | ⟨b, _ | ⟨c, _ | ⟨d, r⟩⟩⟩⟩
  case cons.cons.cons.nil => simp at hl
  all_goals rfl
/-- The result's variable, as it was made: three zeros in block w.heap.size. -/
def Zeros (w wr : World) : Prop := wr.heap[w.heap.size]? = some (.cells #[.int .i64 0, .int .i64 0, .int .i64 0] 36 (0, 0))
theorem Zeros.cell {w wr : World} (h : Zeros w wr) : (wr.cell? ⟨w.heap.size, 0, none⟩ = some (.int .i64 0) ∧ wr.cell? ⟨w.heap.size, 1, none⟩ = some (.int .i64 0) ∧ wr.cell? ⟨w.heap.size, 2, none⟩ = some (.int .i64 0)) ∧ (wr.frozen? ⟨w.heap.size, 0, none⟩ = false ∧ wr.frozen? ⟨w.heap.size, 1, none⟩ = false ∧ wr.frozen? ⟨w.heap.size, 2, none⟩ = false) :=
  ⟨⟨cell_of_row wr _ 0 _ _ _ h, cell_of_row wr _ 1 _ _ _ h, cell_of_row wr _ 2 _ _ _ h⟩, frozen_of_row wr _ 0 _ _ h, frozen_of_row wr _ 1 _ _ h, frozen_of_row wr _ 2 _ _ h⟩
theorem Zeros.grown {w wr w' : World} {row : Option Nat} (h : Zeros w wr) (hg : wr.grownBy w' row) (hr : some w.heap.size ≠ row) (hz : w.heap.size < wr.heap.size) : Zeros w w' := by
  unfold Zeros; rw [hg.block _ hz hr]; exact h
theorem Zeros.alloc {w wr : World} (h : Zeros w wr) (o : Obj) (hz : w.heap.size < wr.heap.size) : Zeros w (wr.alloc o) := by
  unfold Zeros; rw [Below.heap_alloc _ _ _ hz]; exact h
theorem Zeros.drew {w wr : World} (h : Zeros w wr) : Zeros w wr.drew := h
set_option maxHeartbeats 4000000 in
set_option maxRecDepth 100000 in
theorem rparse_any (s : ByteArray) (hs : s.size ≤ 1048576) (w : World) :
    Calls Tryz.prog 13 #[.string s] w fun e w' => e = .returned (V.rans s.data.toList) ∧ Below w.heap.size w w' := by
  obtain ⟨i0, hi, hz0, hz1, hz2⟩ := info_parts infoInt
  go_enter Tryz.func13, Tryz.ntmps13
  go_wp2
  go_loopw [4, 5] (fun l i wr => ∃ (k n g cap : Nat) (ls : List Int), k ≤ s.size ∧ i = .int .i64 k ∧ l = .slice (some ⟨g, 0, none⟩) (n + 1) cap ∧ Gath s k n ls ∧ wr.ownsRow (w.heap.size + 1) 3 1 l (n + 1) (ls.map (Value.int .i64)) ∧ Below w.heap.size w wr ∧ Zeros w wr ∧ w.heap.size < g ∧ g < wr.heap.size) (fun _ i _ => s.size - (intOf i).toNat)
  case atStart =>
    refine ⟨0, 0, w.heap.size + 1, 1, [0], Nat.zero_le _, rfl, rfl, ⟨rfl, rfl, Nat.le_refl _, by simp, by simp⟩, ?_, by go_grown, ?_, by omega, by simp⟩
    · have h := World.ownsRow_lit (base := w.heap.size + 1) (size := 1) (e := 3) (w.alloc (.cells #[.int .i64 0, .int .i64 0, .int .i64 0] 36)) #[.int .i64 0] 1 (by simp) (by unfold maxLen; omega) rfl
      simpa using h
    · unfold Zeros
      rw [Below.heap_alloc _ _ _ (by simp)]
      exact heap_alloc_new _ _
  case round =>
    obtain ⟨k, n, g, cap, ls, hk, rfl, rfl, HG, hown, hB, hZ, hg1, hg2⟩ := hrel
    have hnk := HG.le
    by_cases hlt : k < s.size
    · by_cases hdot : (s[k].toNat : Int) = 46
      · have hd : (((s[k].toNat : Nat) : Int) == 46) = true := by simpa using hdot
        have HO := Lib.hid hown
        have HD := Lib.hid (HG.dot hlt hdot)
        clear hown hdot
        go_wp2_with (at_builtin; refine wpList_append_own _ rfl _ _ 66 rfl (w.heap.size + 1) 3 i0 (.int .i64 0) 1 8 Tryz.underlying66 hi hz0 hz1 hz2 rfl (by decide) _ _ _ rfl (HO.out.alloc _) ⟨wr.heap.size, 0, none⟩ 1 1 [.int .i64 0] rfl rfl (cell_one_new _ _ _) (fun x hx => by simp at hx; subst hx; rfl) (by unfold maxLen; omega) (by omega) (by simp; omega) ?_; intro v' w1 hown1 hgrow1 hnil1)
        obtain ⟨g', cap', rfl, hg1', hg2'⟩ := own_some hown1 (by omega)
        have hZ1 : Zeros w w1 := (hZ.alloc _ (by omega)).grown hgrow1 (own_ne hg1) (by simp; omega)
        have hB1 : Below w.heap.size w w1 := Below.grown (hB.alloc hB.size _) hgrow1 (by have := hB.size; simp; omega) (own_le (by omega))
        clear hgrow1 HO hZ hB hnil1
        go_wp2
        go_roundw
        case rel => exact ⟨k + 1, n + 1, g', cap', ls ++ [0], by omega, by go_num, rfl, HD.out, by simpa using hown1, hB1, hZ1, by omega, hg2'⟩
        case measure => simp [intOf]; omega
      · have hd : (((s[k].toNat : Nat) : Int) == 46) = false := by simpa using hdot
        have hcell := hown.cellAt n (by omega)
        rw [HG.last] at hcell
        have hfr := hown.frozenAt n
        have hlo := HG.lo
        have hhi := HG.hi
        have HX := fun (hdig : (48 ≤ (s[k].toNat : Int) ∧ (s[k].toNat : Int) ≤ 57) ∧ ls.getLastD 0 ≤ 999) => Lib.hid (HG.dig hlt hdig.1 hdig.2)
        have HY := fun (hdig : ¬ ((48 ≤ (s[k].toNat : Int) ∧ (s[k].toNat : Int) ≤ 57) ∧ ls.getLastD 0 ≤ 999)) => Lib.hid (V.rans_none (HG.bad hlt hdot hdig))
        have HO := Lib.hid (hown.stored n (.int .i64 (10 * ls.getLastD 0 + ((s[k].toNat : Int) - 48))))
        have HL := Lib.hid HG.len
        obtain ⟨L, hL⟩ : ∃ L, ls.getLastD 0 = L := ⟨_, rfl⟩
        rw [hL] at hcell hlo hhi HO HX HY
        clear hown hL HG
        by_cases hdig : (48 ≤ (s[k].toNat : Int) ∧ (s[k].toNat : Int) ≤ 57) ∧ L ≤ 999
        · have HD := HX hdig
          clear HX HY
          have a1 : IntKind.i64.wrap (10 * L) = 10 * L := IntWalk.i64_in _ (by omega)
          have a2 : IntKind.u8.wrap ((s[k].toNat : Int) - 48) = (s[k].toNat : Int) - 48 := IntWalk.u8_in _ (by omega)
          have a3 : IntKind.i64.wrap ((s[k].toNat : Int) - 48) = (s[k].toNat : Int) - 48 := IntWalk.i64_in _ (by omega)
          have a4 : IntKind.i64.wrap (10 * L + ((s[k].toNat : Int) - 48)) = 10 * L + ((s[k].toNat : Int) - 48) := IntWalk.i64_in _ (by omega)
          obtain ⟨⟨hd1, hd2⟩, hd3⟩ := hdig
          clear hdot
          go_wp2
          go_region
          clear a1 a2 a3 a4
          go_wp2
          go_roundw
          case rel => exact ⟨k + 1, n, g, cap, _, by omega, by go_num, rfl, HD.out, by rw [← set_last HL.out]; exact HO.out.1, by go_grown, (hZ.grown HO.out.2 (fun e => by have := Option.some.inj e; omega) (by omega)).drew, by omega, by simpa using hg2⟩
          case measure => simp [intOf]; omega
        · have HD := HY hdig
          clear HX HY
          obtain ⟨⟨q0, q1, q2⟩, f0, f1, f2⟩ := hZ.cell
          by_cases hx : 48 ≤ (s[k].toNat : Int) ∧ (s[k].toNat : Int) ≤ 57
          · have hx3 : ¬ L ≤ 999 := fun q => hdig ⟨hx, q⟩
            obtain ⟨hx1, hx2⟩ := hx
            clear hdig hdot
            go_wp2
            refine bodyPost_ret (v := V.rno) ?_ rfl ⟨by rw [HD.out], by go_grown⟩
            simp [results, Tryz.results13, go_sem, V.rno, q0, q1, q2, f0, f1, f2]
          · clear hdig hdot
            by_cases hx1 : 48 ≤ (s[k].toNat : Int)
            all_goals
              go_wp2
              refine bodyPost_ret (v := V.rno) ?_ rfl ⟨by rw [HD.out], by go_grown⟩
              simp [results, Tryz.results13, go_sem, V.rno, q0, q1, q2, f0, f1, f2]
    · obtain rfl : k = s.size := by omega
      have hrun : V.run [0] s.data.toList = some ls := by
        have := HG.run
        rwa [List.take_of_length_le (by simp)] at this
      obtain ⟨⟨q0, q1, q2⟩, f0, f1, f2⟩ := hZ.cell
      by_cases hn : n = 2
      · subst hn
        rcases ls with _ | ⟨a, _ | ⟨b, _ | ⟨c, _ | ⟨d, r⟩⟩⟩⟩
        case cons.cons.cons.nil =>
          have c0 := hown.cellAt 0 (by omega)
          have c1 := hown.cellAt 1 (by omega)
          have c2 := hown.cellAt 2 (by omega)
          simp at c0 c1 c2
          have hsne : s.toList ≠ [] := fun e => by
            rw [ByteArray.toList_eq] at e
            rw [e] at hrun
            exact absurd hrun (by simp [V.run])
          have hse : s.toList.isEmpty = false := by simpa using hsne
          have hse2 : (s.toList == []) = false := by simpa using hsne
          clear hown HG
          cases ht : ((V.str a b c).toList == s.toList)
          all_goals
            have HR := Lib.hid hrun
            have ht' := ht
            rw [ByteArray.toList_eq s] at ht'
            have HT := Lib.hid ht'
            clear ht'
            clear hrun
            go_wp2
            go_region
            go_wp2_with fail
            refine (rprint_any _ _ _ _).mono ?_
            rintro e w2 ⟨rfl, hb⟩
            have B2 : Below w.heap.size w w2 := by refine Below.trans ?_ (hb.mono ?_) <;> go_grown
            obtain ⟨hc, hf⟩ := bcell hb
            have hz2 : w.heap.size < w2.heap.size := Nat.lt_of_le_of_lt (Nat.le_of_lt (Nat.lt_trans (by omega) hg2)) (Nat.lt_of_lt_of_le (by simp) hb.size)
            have hzr : w.heap.size < wr.heap.size := by omega
            have hz3 : wr.heap.size < w2.heap.size := Nat.lt_of_lt_of_le (by simp) hb.size
            have p0 : w2.cell? ⟨w.heap.size, 0, none⟩ = some (.int .i64 0) := by go_cell
            have p1 : w2.cell? ⟨w.heap.size, 1, none⟩ = some (.int .i64 0) := by go_cell
            have p2 : w2.cell? ⟨w.heap.size, 2, none⟩ = some (.int .i64 0) := by go_cell
            have g0 : w2.frozen? ⟨w.heap.size, 0, none⟩ = false := by go_cell
            have g1 : w2.frozen? ⟨w.heap.size, 1, none⟩ = false := by go_cell
            have g2 : w2.frozen? ⟨w.heap.size, 2, none⟩ = false := by go_cell
            go_wp2_with fail
          · refine bodyPost_ret (v := V.rno) ?_ rfl ⟨by unfold V.rans; rw [HR.out]; simp only [HT.out]; first | rfl | simp, by go_grown⟩
            simp [results, Tryz.results13, go_sem, V.rno, p0, p1, p2, g0, g1, g2]
          · refine bodyPost_ret (v := .tuple #[.agg #[.int .i64 a, .int .i64 b, .int .i64 c], .bool true]) ?_ rfl ⟨by unfold V.rans; rw [HR.out]; simp only [HT.out]; first | rfl | simp, by go_grown⟩
            simp [results, Tryz.results13, go_sem, p0, p1, p2, g0, g1, g2]
        all_goals (have := HG.len; simp at this)
      · have HD := Lib.hid (V.rans_len hrun (by rw [HG.len]; omega))
        have hnn : (((n : Int) + 1) == 3) = false := by rw [beq_eq_false_iff_ne]; omega
        clear HG hown hrun
        go_wp2
        refine bodyPost_ret (v := V.rno) ?_ rfl ⟨by rw [HD.out], by go_grown⟩
        simp [results, Tryz.results13, go_sem, V.rno, q0, q1, q2, f0, f1, f2]
end Go.Proofs.YtjiifieafnjpgaaGreatDoor.VL

namespace Go.Proofs.YtjiifieafnjpgaaGreatDoor.VL
open Go.RowKit
set_option linter.unusedSimpArgs false
set_option linter.unusedVariables false
theorem run_digits : ∀ (l : List UInt8) (pre : List Int) (x : Nat), (∀ c ∈ l, Num.Digit c) → Num.valFrom x l ≤ 9999 → V.run (pre ++ [(x : Int)]) l = some (pre ++ [(Num.valFrom x l : Int)])
  | [], _, _, _, _ => rfl
  | c :: l, pre, x, hd, hv => by
    have hc := hd c List.mem_cons_self
    have hle := Num.valFrom_le (10 * x + (c.toNat - 48)) l
    rw [Num.valFrom_cons] at hv ⊢
    unfold Num.Digit at hc
    have e : V.step (pre ++ [(x : Int)]) c = some (pre ++ [((10 * x + (c.toNat - 48) : Nat) : Int)]) := by
      unfold V.step
      have e1 : (pre ++ [(x : Int)]).getLastD 0 = x := by simp
      rw [if_neg (by omega), if_pos ⟨hc, by rw [e1]; omega⟩, e1]
      simp
    simp only [V.run, e]
    exact run_digits l pre _ (fun y hy => hd y (List.mem_cons_of_mem _ hy)) hv
theorem run_dot (ls : List Int) (l : List UInt8) : V.run ls (46 :: l) = V.run (ls ++ [0]) l := rfl
theorem run_text {a b c : Int} (h : V.may a b c = true) : V.run [0] (V.text a b c) = some [a, b, c] := by
  have hb := V.may_iff.1 h
  unfold V.text
  have d1 := run_digits (Go.Lib.decDigits a.toNat) [] 0 (Num.dec_digit _) (by rw [Num.val_dec]; omega)
  have d2 := run_digits (Go.Lib.decDigits b.toNat) [a] 0 (Num.dec_digit _) (by rw [Num.val_dec]; omega)
  have d3 := run_digits (Go.Lib.decDigits c.toNat) [a, b] 0 (Num.dec_digit _) (by rw [Num.val_dec]; omega)
  rw [Num.val_dec] at d1 d2 d3
  rw [show ((a.toNat : Nat) : Int) = a by omega] at d1
  rw [show ((b.toNat : Nat) : Int) = b by omega] at d2
  rw [show ((c.toNat : Nat) : Int) = c by omega] at d3
  simp only [List.nil_append, List.cons_append, Int.ofNat_zero, Int.natCast_zero] at d1 d2 d3
  rw [V.run_append, d1]
  simp only [Option.bind_some]
  rw [run_dot, V.run_append]
  simp only [List.cons_append, List.nil_append]
  rw [d2]
  simp only [Option.bind_some]
  rw [run_dot]
  exact d3
def V.ryes (a b c : Int) : Value := .tuple #[.agg #[.int .i64 a, .int .i64 b, .int .i64 c], .bool true]
theorem rans_yes {a b c : Int} (h : V.may a b c = true) : V.rans (V.text a b c) = V.ryes a b c := by
  unfold V.rans
  rw [run_text h]
  simp only [V.str_list h, beq_self_eq_true, if_true]
  rfl
theorem rans_no {l : List UInt8} (h : ¬ V.IsVer l) : V.rans l = V.rno := by
  unfold V.rans
  split
  · rename_i a b c hr
    split
    · rename_i he
      rw [beq_iff_eq] at he
      cases hm : V.may a b c
      · rw [V.str_no hm] at he
        have : l = [] := by rw [← he, ByteArray.toList_eq]
        rw [this] at hr
        exact absurd hr (by simp [V.run])
      · exact absurd ⟨a, b, c, hm, by rw [← he, V.str_list hm]⟩ h
    · rfl
  · rfl
/-- Parse of the program, of any text. -/
theorem parse_any (s : ByteArray) (hs : s.size ≤ 1048576) (w : World) (hE : Env w) :
    Calls Tryz.prog 9 #[.string s] w fun e w' => e = .returned (V.rans s.data.toList) ∧ Below w.heap.size w w' := by
  by_cases h : V.IsVer s.data.toList
  · obtain ⟨a, b, c, hm, e⟩ := h
    rw [e, rans_yes hm]
    exact parse_yes_any s a b c hm e w hE
  · rw [rans_no h]
    exact parse_no_any s hs h w hE
/-- What Parse answers, spelt out. -/
theorem rans_form (l : List UInt8) : ∃ (a b c : Int) (x : Bool), V.rans l = .tuple #[.agg #[.int .i64 a, .int .i64 b, .int .i64 c], .bool x] := by
  unfold V.rans
  split
  · split
    · exact ⟨_, _, _, _, rfl⟩
    · exact ⟨_, _, _, _, rfl⟩
  · exact ⟨_, _, _, _, rfl⟩
end Go.Proofs.YtjiifieafnjpgaaGreatDoor.VL
