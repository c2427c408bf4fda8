/- Plans: what their texts and their checks answer (part 1). -/
import Derived.Below
import Derived.Test.YtjiifieafnjpgaaDoorChecked
import Derived.Handy
import Derived.WalkLawsBesides
import Derived.WalkSpells
import Derived.Lib.Hide
import Derived.Outline
import Derived.Deep.QuietTactic
import Derived.BigQuiet
import Derived.Laws.StructEq
import Derived.Test.YtjiifieafnjpgaaDoorShelf
import Derived.Lib.ItoaNum
import Derived.Deep.RegionHeld3
import Derived.Lib.LaidTab
import Derived.Test.YtjiifieafnjpgaaDoorEnv
import Derived.Laws.AppendOwn
import Derived.Laws.OwnMore
import Derived.Lib.ConvBytes
import Derived.Deep.RegionWith
import Derived.Test.YtjiifieafnjpgaaDoorCuts
namespace Go.Proofs.YtjiifieafnjpgaaDoor.VL
namespace V
/-- May a version be? -/
def may (a b c : Int) : Bool := decide (0 ≤ a) && decide (a ≤ 999) && (decide (0 ≤ b) && decide (b ≤ 999)) && (decide (0 ≤ c) && decide (c ≤ 999))
theorem may_iff {a b c : Int} : may a b c = true ↔ (0 ≤ a ∧ a ≤ 999) ∧ (0 ≤ b ∧ b ≤ 999) ∧ (0 ≤ c ∧ c ≤ 999) := by
  simp [may]; omega
theorem may_of {a b c : Int} (h : (0 ≤ a ∧ a ≤ 999) ∧ (0 ≤ b ∧ b ≤ 999) ∧ (0 ≤ c ∧ c ≤ 999)) : may a b c = true := may_iff.2 h
theorem may_not {a b c : Int} (h : ¬ ((0 ≤ a ∧ a ≤ 999) ∧ (0 ≤ b ∧ b ≤ 999) ∧ (0 ≤ c ∧ c ≤ 999))) : may a b c = false := by
  cases e : may a b c
  · rfl
  · exact absurd (may_iff.1 e) h
end V
end Go.Proofs.YtjiifieafnjpgaaDoor.VL

namespace Go.Proofs.YtjiifieafnjpgaaDoor.VL
open Go.RowKit
set_option linter.unusedSimpArgs false
set_option linter.unusedVariables false
theorem bcell {W w1 : World} (hb : Below W.heap.size W w1) : (∀ b o, b < W.heap.size → w1.cell? ⟨b, o, none⟩ = W.cell? ⟨b, o, none⟩) ∧ (∀ b o, b < W.heap.size → w1.frozen? ⟨b, o, none⟩ = W.frozen? ⟨b, o, none⟩) :=
  ⟨fun b o h => hb.cell (p := ⟨b, o, none⟩) h, fun b o h => hb.frozen (p := ⟨b, o, none⟩) h⟩
theorem ret_bool {a b : Bool} (h : a = b) : Ending.returned (.bool a) = .returned (.bool b) := by rw [h]
set_option maxHeartbeats 400000 in
theorem part_any (a : Int) (w : World) :
    Calls Tryd.prog 37 #[.int .i64 a] w fun e w' => e = .returned (.bool (decide (0 ≤ a) && decide (a ≤ 999))) ∧ w = w' := by
  by_cases h : 0 ≤ a
  all_goals
    go_enter Tryd.func37, Tryd.ntmps37
    go_wp2
    go_ret
    exact ⟨ret_bool (by rw [Bool.eq_iff_iff]; simp; omega), rfl⟩
set_option maxHeartbeats 400000 in
theorem may_any (a b c : Int) (w : World) :
    Calls Tryd.prog 19 #[.agg #[.int .i64 a, .int .i64 b, .int .i64 c]] w fun e w' => e = .returned (.bool (V.may a b c)) ∧ Below w.heap.size w w' := by
  have i0 : ∀ w, (Instr.index 71 (.agg #[.int .i64 a, .int .i64 b, .int .i64 c]) (.int .i64 0)).run Tryd.prog w = .ok (.int .i64 a) w := fun _ => by kernel_rfl
  have i1 : ∀ w, (Instr.index 71 (.agg #[.int .i64 a, .int .i64 b, .int .i64 c]) (.int .i64 1)).run Tryd.prog w = .ok (.int .i64 b) w := fun _ => by kernel_rfl
  have i2 : ∀ w, (Instr.index 71 (.agg #[.int .i64 a, .int .i64 b, .int .i64 c]) (.int .i64 2)).run Tryd.prog w = .ok (.int .i64 c) w := fun _ => by kernel_rfl
  go_enter Tryd.func19, Tryd.ntmps19
  go_wp2
  go_rounds 4
  all_goals go_returns
  all_goals refine ⟨?_, by go_grown⟩
  all_goals first | exact ret_bool (V.may_of (by omega)).symm | exact ret_bool (V.may_not (by omega)).symm
set_option maxHeartbeats 400000 in
theorem rmay_any (a b c : Int) (w : World) :
    Calls Tryd.prog 22 #[.agg #[.int .i64 a, .int .i64 b, .int .i64 c]] w fun e w' => e = .returned (.bool (V.may a b c)) ∧ Below w.heap.size w w' := by
  go_enter Tryd.func22, Tryd.ntmps22
  go_wp2_with (first | (go_at_call 37; refine (part_any _ _).mono ?_; rintro e w' ⟨rfl, rfl⟩))
  all_goals go_returns
  all_goals refine ⟨?_, by go_grown⟩
  all_goals exact ret_bool (by rw [Bool.eq_iff_iff]; simp [V.may]; omega)
end Go.Proofs.YtjiifieafnjpgaaDoor.VL

namespace Go.Proofs.YtjiifieafnjpgaaDoor.VL
open Go.RowKit
set_option linter.unusedSimpArgs false
set_option linter.unusedVariables false
theorem verStruct : Tryd.prog.underlying 34 = some (.struct (Tryd.prog.fieldsOf 34)) := by kernel_rfl
theorem verFields : (Tryd.prog.fieldsOf 34).toList.map (fun f => (f.name, f.type, f.offset)) = [("Major", 3, 0), ("Minor", 3, 1), ("Patch", 3, 2)] := by kernel_rfl
/-- Are two versions the same? -/
def V.same (a b c a' b' c' : Int) : Bool := decide (a = a') && (decide (b = b') && decide (c = c'))
@[go_sem high] theorem verGuard (w : World) (x y : Operand) (xs ys : Array Value) : (eqGuard .eql 34 x y (.agg xs) (.agg ys)).run Tryd.prog w = .ok () w :=
  run_eqGuard_agg w .eql 34 x y xs ys (by kernel_rfl)
theorem verEqual (w : World) (a b c a' b' c' : Int) : (Op.equalIn 10000 34 (.agg #[.int .i64 a, .int .i64 b, .int .i64 c]) (.agg #[.int .i64 a', .int .i64 b', .int .i64 c'])).run Tryd.prog w = .ok (V.same a b c a' b' c') w := by
  have hs := verFields
  have e : ∀ w (a b : Int), (Op.equalIn 9999 3 (.int .i64 a) (.int .i64 b)).run Tryd.prog w = .ok (a == b) w := fun w a b => run_equalIn_int w 9998 3 _ _ a b Tryd.underlying3
  rw [run_equalIn_agg w 9999 34 _ _ verStruct (by kernel_rfl)]
  generalize (Tryd.prog.fieldsOf 34).toList = fs at hs
  rcases fs with _ | ⟨f, _ | ⟨g, _ | ⟨h, _ | ⟨k, l⟩⟩⟩⟩
  case cons.cons.cons.nil =>
    simp only [List.map_cons, List.map_nil, List.cons.injEq, Prod.mk.injEq, and_true] at hs
    obtain ⟨⟨n1, t1, o1⟩, ⟨n2, t2, o2⟩, ⟨n3, t3, o3⟩⟩ := hs
    by_cases ha : a = a' <;> by_cases hb : b = b' <;> by_cases hc : c = c' <;>
      simp [Op.eqFields, n1, t1, o1, n2, t2, o2, n3, t3, o3, go_sem, V.same, ha, hb, hc, e]
  all_goals simp at hs
/-- 'v == u' of two versions. -/
@[go_sem high] theorem verEql (w : World) (a b c a' b' c' : Int) : (binOp .eql 34 (.agg #[.int .i64 a, .int .i64 b, .int .i64 c]) (.agg #[.int .i64 a', .int .i64 b', .int .i64 c'])).run Tryd.prog w = .ok (.bool (V.same a b c a' b' c')) w := by
  rw [run_eql_struct, verEqual]
  rfl
end Go.Proofs.YtjiifieafnjpgaaDoor.VL

namespace Go.Proofs.YtjiifieafnjpgaaDoor.VL
namespace V
/-- A numeral's value. -/
def val (l : List UInt8) : Nat := l.foldl (fun n c => 10 * n + (c.toNat - 48)) 0
theorem val_snoc (l : List UInt8) (c : UInt8) : val (l ++ [c]) = 10 * val l + (c.toNat - 48) := by simp [val]
theorem ofNat_toNat {n : Nat} (h : n < 256) : (UInt8.ofNat n).toNat = n := by simp [Nat.mod_eq_of_lt h]
theorem val_dec (u : Nat) : val (Go.Lib.decDigits u) = u := by
  induction u using Nat.strongRecOn with
  | _ u ih =>
    by_cases h : u < 10
    · rw [Go.Lib.decDigits, dif_pos h]
      show 10 * 0 + ((UInt8.ofNat (48 + u)).toNat - 48) = u
      rw [ofNat_toNat (by omega)]; omega
    · rw [Go.Lib.decDigits, dif_neg h, val_snoc, ih (u / 10) (by omega), ofNat_toNat (by omega)]; omega
theorem dec_inj {u v : Nat} (h : Go.Lib.decDigits u = Go.Lib.decDigits v) : u = v := by rw [← val_dec u, ← val_dec v, h]
theorem dec_digit (u : Nat) : ∀ c ∈ Go.Lib.decDigits u, 48 ≤ c.toNat ∧ c.toNat ≤ 57 := by
  induction u using Nat.strongRecOn with
  | _ u ih =>
    intro c hc
    by_cases h : u < 10
    · rw [Go.Lib.decDigits, dif_pos h] at hc
      obtain rfl := List.mem_singleton.1 hc
      rw [ofNat_toNat (by omega)]; omega
    · rw [Go.Lib.decDigits, dif_neg h] at hc
      rcases List.mem_append.1 hc with hc | hc
      · exact ih (u / 10) (by omega) c hc
      · obtain rfl := List.mem_singleton.1 hc
        rw [ofNat_toNat (by omega)]; omega
theorem dec_short {u : Nat} (h : u < 1000) : (Go.Lib.decDigits u).length ≤ 3 ∧ 1 ≤ (Go.Lib.decDigits u).length := by
  rw [Go.Lib.decDigits_length]
  by_cases h1 : u < 10
  · rw [Go.Lib.nDigits_small h1]; omega
  · rw [Go.Lib.nDigits_big h1]
    by_cases h2 : u / 10 < 10
    · rw [Go.Lib.nDigits_small h2]; omega
    · rw [Go.Lib.nDigits_big h2, Go.Lib.nDigits_small (by omega)]; omega
/-- What stands ahead of the first sign d, and behind it, is one pair alone. -/
theorem cut_unique {d : UInt8} : ∀ {l l' r r' : List UInt8}, l ++ d :: r = l' ++ d :: r' → d ∉ l → d ∉ l' → l = l' ∧ r = r'
  | [], [], _, _, h, _, _ => ⟨rfl, by simpa using h⟩
  | [], c :: l', _, _, h, _, h' => by
    simp only [List.nil_append, List.cons_append, List.cons.injEq] at h
    exact absurd (List.mem_cons.2 (Or.inl h.1)) h'
  | c :: l, [], _, _, h, h', _ => by
    simp only [List.nil_append, List.cons_append, List.cons.injEq] at h
    exact absurd (List.mem_cons.2 (Or.inl h.1.symm)) h'
  | c :: l, c' :: l', r, r', h, h1, h2 => by
    simp only [List.cons_append, List.cons.injEq] at h
    obtain ⟨rfl, h⟩ := h
    obtain ⟨rfl, rfl⟩ := cut_unique h (fun k => h1 (List.mem_cons_of_mem _ k)) (fun k => h2 (List.mem_cons_of_mem _ k))
    exact ⟨rfl, rfl⟩
theorem dec_no_dot (u : Nat) : (46 : UInt8) ∉ Go.Lib.decDigits u := fun h => by
  have := (dec_digit u 46 h).1
  exact absurd this (by decide)
/-- A number's text. -/
def dig (n : Int) : ByteArray := ⟨(Go.Lib.decDigits n.toNat).toArray⟩
theorem dig_size (n : Int) : (dig n).size = (Go.Lib.decDigits n.toNat).length := rfl
theorem dig_short {n : Int} (h : 0 ≤ n ∧ n ≤ 999) : (dig n).size ≤ 3 := by rw [dig_size]; exact (dec_short (by omega)).1
/-- A version's text, as a list of bytes. -/
def text (a b c : Int) : List UInt8 := Go.Lib.decDigits a.toNat ++ 46 :: (Go.Lib.decDigits b.toNat ++ 46 :: Go.Lib.decDigits c.toNat)
theorem text_inj {a b c x y z : Int} (h : may a b c = true) (h' : may x y z = true) (e : text a b c = text x y z) : a = x ∧ b = y ∧ c = z := by
  have hb := may_iff.1 h
  have hb' := may_iff.1 h'
  obtain ⟨e1, e2⟩ := cut_unique e (dec_no_dot _) (dec_no_dot _)
  obtain ⟨e3, e4⟩ := cut_unique e2 (dec_no_dot _) (dec_no_dot _)
  have := dec_inj e1
  have := dec_inj e3
  have := dec_inj e4
  omega
/-- A version's text; none if it may not be. -/
def str (a b c : Int) : ByteArray := if may a b c = true then ⟨(text a b c).toArray⟩ else ⟨#[]⟩
theorem str_yes {a b c : Int} (h : may a b c = true) : str a b c = dig a ++ ⟨#[46]⟩ ++ dig b ++ ⟨#[46]⟩ ++ dig c := by
  unfold str
  rw [if_pos h]
  apply ByteArray.ext
  apply Array.toList_inj.1
  simp [text, dig, ByteArray.data_append]
theorem str_no {a b c : Int} (h : may a b c = false) : str a b c = ⟨#[]⟩ := by unfold str; rw [h]; rfl
theorem str_list {a b c : Int} (h : may a b c = true) : (str a b c).toList = text a b c := by
  unfold str
  rw [if_pos h, ByteArray.toList_eq]
end V
end Go.Proofs.YtjiifieafnjpgaaDoor.VL

namespace Go.Proofs.YtjiifieafnjpgaaDoor.VL
open Go.RowKit
set_option linter.unusedSimpArgs false
set_option linter.unusedVariables false
/-- The table of powers of ten holds what its initialiser lays. -/
def Pow10 (w : World) : Prop := Go.Lib.TabIs Tryd.prog w "internal/strconv.uint64pow10" .u64 Go.Lib.pow10Tab
theorem gPow10 : Tryd.prog.globalNamed "internal/strconv.uint64pow10" = some 0 := by kernel_rfl
theorem Pow10.size {w : World} (h : Pow10 w) : 0 < w.heap.size := by
  unfold Pow10 Go.Lib.TabIs World.var? at h
  rw [gPow10] at h
  simp only [Option.bind_some] at h
  refine Decidable.byContradiction fun hh => ?_
  rw [Array.getElem?_eq_none (by omega)] at h
  exact absurd h (by simp)
theorem Pow10.below {B : Nat} {w w' : World} (h : Pow10 w) (hb : Below B w w') (hB : w.heap.size ≤ B) : Pow10 w' :=
  var?_below hb gPow10 (Nat.lt_of_lt_of_le h.size hB) h
theorem below_grow {w : World} (k : Nat) (os : Array Obj) : Below w.heap.size w (Go.Sort.grow (w.drewN k) os) := by
  refine ⟨rfl, rfl, rfl, by simp [Go.Sort.grow], fun i hi => ?_⟩
  show (w.heap ++ os)[i]? = w.heap[i]?
  exact Array.getElem?_append_left hi
theorem itoa_any (n : Int) (h : 0 ≤ n ∧ n ≤ 9223372036854775807) (w : World) (ht : Pow10 w) :
    Calls Tryd.prog 15 #[.int .i64 n] w fun e w' => e = .returned (.string (V.dig n)) ∧ Below w.heap.size w w' := by
  refine (Tryd.strconv_Itoa n (by omega) h.2 w ht).mono fun e w' hh => ?_
  obtain ⟨rfl, k, os, rfl⟩ := hh
  refine ⟨?_, below_grow k os⟩
  unfold V.dig Go.Lib.itoa
  rw [if_neg (by omega)]
/-- A version in block n stays there while a callee makes blocks of its own. -/
theorem one_keep {w W w2 : World} {a b c : Value} (hb : Below W.heap.size W w2) (hw : Pow10 w)
    (h : W.cell? ⟨w.heap.size, 0, none⟩ = some a ∧ W.cell? ⟨w.heap.size, 1, none⟩ = some b ∧ W.cell? ⟨w.heap.size, 2, none⟩ = some c ∧ w.heap.size < W.heap.size ∧ Below w.heap.size w W) :
    w2.cell? ⟨w.heap.size, 0, none⟩ = some a ∧ w2.cell? ⟨w.heap.size, 1, none⟩ = some b ∧ w2.cell? ⟨w.heap.size, 2, none⟩ = some c ∧ w.heap.size < w2.heap.size ∧ Below w.heap.size w w2 := by
  obtain ⟨h0, h1, h2, hz, hB⟩ := h
  have hs := hb.size
  refine ⟨?_, ?_, ?_, by omega, hB.trans (hb.mono (by omega))⟩
  all_goals (rw [hb.cell (p := ⟨w.heap.size, _, none⟩) hz]; assumption)
theorem dot_size : ByteArray.size ⟨#[46]⟩ = 1 := rfl
set_option maxHeartbeats 2000000 in
set_option maxRecDepth 100000 in
theorem print_yes (a b c : Int) (h : V.may a b c = true) (w : World) (ht : Pow10 w) :
    Calls Tryd.prog 14 #[.agg #[.int .i64 a, .int .i64 b, .int .i64 c]] w fun e w' => e = .returned (.string (V.str a b c)) ∧ Below w.heap.size w w' := by
  have hb := V.may_iff.1 h
  have ha := V.dig_short hb.1
  have hb' := V.dig_short hb.2.1
  have hc' := V.dig_short hb.2.2
  have e0 : ∀ w, (Op.stringOp .add (V.dig a) (⟨#[46]⟩)).run Tryd.prog w = .ok (.string (V.dig a ++ ⟨#[46]⟩)) w := fun w => run_string_add_sum w _ _ (by simp [ByteArray.size_append, dot_size]; omega)
  have e1 : ∀ w, (Op.stringOp .add (V.dig a ++ ⟨#[46]⟩) (V.dig b)).run Tryd.prog w = .ok (.string (V.dig a ++ ⟨#[46]⟩ ++ V.dig b)) w := fun w => run_string_add_sum w _ _ (by simp [ByteArray.size_append, dot_size]; omega)
  have e2 : ∀ w, (Op.stringOp .add (V.dig a ++ ⟨#[46]⟩ ++ V.dig b) (⟨#[46]⟩)).run Tryd.prog w = .ok (.string (V.dig a ++ ⟨#[46]⟩ ++ V.dig b ++ ⟨#[46]⟩)) w := fun w => run_string_add_sum w _ _ (by simp [ByteArray.size_append, dot_size]; omega)
  have e3 : ∀ w, (Op.stringOp .add (V.dig a ++ ⟨#[46]⟩ ++ V.dig b ++ ⟨#[46]⟩) (V.dig c)).run Tryd.prog w = .ok (.string (V.dig a ++ ⟨#[46]⟩ ++ V.dig b ++ ⟨#[46]⟩ ++ V.dig c)) w := fun w => run_string_add_sum w _ _ (by simp [ByteArray.size_append, dot_size]; omega)
  clear ha hb' hc'
  have HS := Lib.hid (V.str_yes h)
  have H := Lib.hid h
  clear h
  go_enter Tryd.func14, Tryd.ntmps14
  go_wp2_with fail
  refine (may_any _ _ _ _).mono ?_
  rintro e w1 ⟨rfl, hb1⟩
  rw [H.out]
  have B1 : Below w.heap.size w w1 := by refine Below.trans ?_ (hb1.mono ?_) <;> go_grown
  obtain ⟨hc, hf⟩ := bcell hb1
  have hz : w.heap.size < w1.heap.size := by have := hb1.size; simp at this; omega
  go_wp2
  go_region_held3 (fun w' => w'.cell? ⟨w.heap.size, 0, none⟩ = some (.int .i64 a) ∧ w'.cell? ⟨w.heap.size, 1, none⟩ = some (.int .i64 b) ∧ w'.cell? ⟨w.heap.size, 2, none⟩ = some (.int .i64 c) ∧ w.heap.size < w'.heap.size ∧ Below w.heap.size w w')
    (first | (exact one_keep (by assumption) ht (by assumption)) | (refine ⟨by simp [hc], by simp [hc], by simp [hc], by simpa using hz, ?_⟩; exact B1.drew))
    (first | (go_at_call 15; refine (itoa_any _ (by omega) _ (ht.below (And.right (And.right (And.right (And.right ‹_ ∧ _›)))) (Nat.le_refl _))).mono ?_; rintro e w2 ⟨rfl, hb⟩))
  rename_i hH
  obtain ⟨_, _, _, _, hB⟩ := hH
  go_wp2
  go_returns
  exact ⟨by rw [HS.out]; rfl, hB⟩
set_option maxHeartbeats 400000 in
theorem print_no (a b c : Int) (h : V.may a b c = false) (w : World) :
    Calls Tryd.prog 14 #[.agg #[.int .i64 a, .int .i64 b, .int .i64 c]] w fun e w' => e = .returned (.string (V.str a b c)) ∧ Below w.heap.size w w' := by
  have HS := Lib.hid (V.str_no h)
  have H := Lib.hid h
  clear h
  go_enter Tryd.func14, Tryd.ntmps14
  go_wp2_with fail
  refine (may_any _ _ _ _).mono ?_
  rintro e w1 ⟨rfl, hb1⟩
  rw [H.out]
  go_wp2
  go_returns
  exact ⟨by rw [HS.out]; rfl, by refine Below.trans ?_ (hb1.mono ?_) <;> go_grown⟩
theorem print_any (a b c : Int) (w : World) (ht : Pow10 w) :
    Calls Tryd.prog 14 #[.agg #[.int .i64 a, .int .i64 b, .int .i64 c]] w fun e w' => e = .returned (.string (V.str a b c)) ∧ Below w.heap.size w w' := by
  cases h : V.may a b c
  · exact print_no a b c h w
  · exact print_yes a b c h w ht
end Go.Proofs.YtjiifieafnjpgaaDoor.VL

namespace Go.Proofs.YtjiifieafnjpgaaDoor.VL
open Go.RowKit
set_option linter.unusedSimpArgs false
set_option linter.unusedVariables false
namespace V
/-- One letter more: the numbers read so far. -/
def step (ls : List Int) (c : UInt8) : Option (List Int) :=
  if c.toNat = 46 then some (ls ++ [0])
  else if (48 ≤ c.toNat ∧ c.toNat ≤ 57) ∧ ls.getLastD 0 ≤ 999 then some (ls.dropLast ++ [10 * ls.getLastD 0 + (c.toNat - 48 : Nat)])
  else none
/-- A text, letter by letter. -/
def run (ls : List Int) : List UInt8 → Option (List Int)
  | [] => some ls
  | c :: l => match step ls c with
    | some ls' => run ls' l
    | none => none
theorem run_append (ls : List Int) (l r : List UInt8) : run ls (l ++ r) = (run ls l).bind fun x => run x r := by
  induction l generalizing ls with
  | nil => rfl
  | cons c l ih =>
    simp only [List.cons_append, run]
    cases step ls c with
    | none => rfl
    | some x => exact ih x
end V
end Go.Proofs.YtjiifieafnjpgaaDoor.VL

namespace Go.Proofs.YtjiifieafnjpgaaDoor.VL
open Go.RowKit
set_option linter.unusedSimpArgs false
set_option linter.unusedVariables false
/-- One byte in a new block, as a text. -/
theorem conv_one (n : Int) (h : 0 ≤ n ∧ n ≤ 255) (w : World) (g : Nat) (hc : w.cell? ⟨g, 0, none⟩ = some (.int .u8 n)) :
    (convert 45 9 (.slice (some ⟨g, 0, none⟩) 1 1)).run Tryd.prog w = .ok (.string ⟨#[UInt8.ofNat n.toNat]⟩) w := by
  have := run_convert_bytes_back (P := Tryd.prog) w 45 9 5 ⟨g, 0, none⟩ 1 [UInt8.ofNat n.toNat] Tryd.underlying45 Tryd.underlying5 Tryd.underlying9 (fun j hj => by
    have : j = 0 := by simpa using hj
    subst this
    show w.cell? ⟨g, 0, none⟩ = _
    rw [hc]
    simp only [List.getElem_cons_zero, UInt8.toNat_ofNat', Nat.reducePow]
    congr 2
    omega)
  exact this
set_option maxHeartbeats 1000000 in
set_option maxRecDepth 100000 in
theorem number_1 (n : Int) (h : 0 ≤ n ∧ n < 10) (w : World) :
    Calls Tryd.prog 31 #[.int .i64 n] w fun e w' => e = .returned (.string (V.dig n)) ∧ Below w.heap.size w w' := by
  have hd : V.dig n = ⟨#[UInt8.ofNat (48 + n).toNat]⟩ := by
    unfold V.dig
    rw [Num.dec_small (by omega), show (48 + n).toNat = 48 + n.toNat by omega]
  have hcv := conv_one (48 + n) (by omega) (w.alloc (.cells #[.int .u8 (48 + n)] 5)) w.heap.size (World.cell?_alloc_new _ _ _ _)
  rw [← hd] at hcv
  clear hd
  go_enter Tryd.func31, Tryd.ntmps31
  go_wp2
  go_returns
  exact ⟨rfl, by go_grown⟩
/-- The text of a number of two or three digits. -/
theorem dig_more {n : Int} (h : 10 ≤ n ∧ n < 1000) : V.dig n = V.dig (n / 10) ++ ⟨#[UInt8.ofNat (48 + n % 10).toNat]⟩ := by
  apply ByteArray.ext
  apply Array.toList_inj.1
  show Go.Lib.decDigits n.toNat = _
  rw [Num.dec_big (by omega)]
  simp only [V.dig, ByteArray.data_append, Array.toList_append]
  rw [show (n / 10).toNat = n.toNat / 10 by omega, show (48 + n % 10).toNat = 48 + n.toNat % 10 by omega]
set_option maxHeartbeats 2000000 in
set_option maxRecDepth 100000 in
theorem number_step (n : Int) (h : 10 ≤ n ∧ n < 1000) (w : World)
    (ih : ∀ w, Calls Tryd.prog 31 #[.int .i64 (n / 10)] w fun e w' => e = .returned (.string (V.dig (n / 10))) ∧ Below w.heap.size w w') :
    Calls Tryd.prog 31 #[.int .i64 n] w fun e w' => e = .returned (.string (V.dig n)) ∧ Below w.heap.size w w' := by
  have IH := Lib.hid ih
  have hsz : (V.dig (n / 10)).size ≤ 3 := V.dig_short (by omega)
  have hadd : ∀ w, (Op.stringOp .add (V.dig (n / 10)) ⟨#[UInt8.ofNat (48 + n % 10).toNat]⟩).run Tryd.prog w = .ok (.string (V.dig n)) w := fun w => by
    rw [dig_more h]; exact run_string_add_sum w _ _ (by
      have : ByteArray.size ⟨#[UInt8.ofNat (48 + n % 10).toNat]⟩ = 1 := rfl
      omega)
  have hcv : ∀ w g, w.cell? ⟨g, 0, none⟩ = some (.int .u8 (48 + n % 10)) → (convert 45 9 (.slice (some ⟨g, 0, none⟩) 1 1)).run Tryd.prog w = .ok (.string ⟨#[UInt8.ofNat (48 + n % 10).toNat]⟩) w := fun w g hc => conv_one (48 + n % 10) (by omega) w g hc
  have q1 : n.tdiv 10 = n / 10 := Int.tdiv_eq_ediv_of_nonneg (by omega)
  have q2 : n.tmod 10 = n % 10 := Int.tmod_eq_emod_of_nonneg (by omega)
  have q3 : IntKind.i64.wrap (n / 10) = n / 10 := IntWalk.i64_in _ (by omega)
  have q4 : IntKind.i64.wrap (n % 10) = n % 10 := IntWalk.i64_in _ (by omega)
  have q5 : IntKind.i64.wrap (48 + n % 10) = 48 + n % 10 := IntWalk.i64_in _ (by omega)
  have q6 : IntKind.u8.wrap (48 + n % 10) = 48 + n % 10 := IntWalk.u8_in _ (by omega)
  clear ih hsz
  go_enter Tryd.func31, Tryd.ntmps31
  go_wp2
  go_region_with (go_at_call 31; refine (IH.out _).mono ?_; rintro e w2 ⟨rfl, hb⟩; obtain ⟨hc, hf⟩ := bcell hb)
  all_goals
    have B2 : Below w.heap.size w w2 := by refine Below.trans ?_ (hb.mono ?_) <;> go_grown
    have hz2 := B2.size
    go_wp2
    go_returns
    exact ⟨rfl, by go_grown⟩
theorem number_any (n : Int) (h : 0 ≤ n ∧ n ≤ 999) (w : World) :
    Calls Tryd.prog 31 #[.int .i64 n] w fun e w' => e = .returned (.string (V.dig n)) ∧ Below w.heap.size w w' := by
  by_cases h1 : n < 10
  · exact number_1 n (by omega) w
  · refine number_step n (by omega) w fun w => ?_
    by_cases h2 : n / 10 < 10
    · exact number_1 _ (by omega) w
    · exact number_step _ (by omega) w fun w => number_1 _ (by omega) w
/-- A version in block n stays there while a callee makes blocks of its own. -/
theorem ver_keep {w W w2 : World} {a b c : Value} (hb : Below W.heap.size W w2)
    (h : W.cell? ⟨w.heap.size, 0, none⟩ = some a ∧ W.cell? ⟨w.heap.size, 1, none⟩ = some b ∧ W.cell? ⟨w.heap.size, 2, none⟩ = some c ∧ w.heap.size < W.heap.size ∧ Below w.heap.size w W) :
    w2.cell? ⟨w.heap.size, 0, none⟩ = some a ∧ w2.cell? ⟨w.heap.size, 1, none⟩ = some b ∧ w2.cell? ⟨w.heap.size, 2, none⟩ = some c ∧ w.heap.size < w2.heap.size ∧ Below w.heap.size w w2 := by
  obtain ⟨h0, h1, h2, hz, hB⟩ := h
  have hs := hb.size
  refine ⟨?_, ?_, ?_, by omega, hB.trans (hb.mono (by omega))⟩
  all_goals (rw [hb.cell (p := ⟨w.heap.size, _, none⟩) hz]; assumption)
set_option maxHeartbeats 2000000 in
set_option maxRecDepth 100000 in
theorem rprint_yes (a b c : Int) (h : V.may a b c = true) (w : World) :
    Calls Tryd.prog 30 #[.agg #[.int .i64 a, .int .i64 b, .int .i64 c]] w fun e w' => e = .returned (.string (V.str a b c)) ∧ Below w.heap.size w w' := by
  have hb := V.may_iff.1 h
  have ha := V.dig_short hb.1
  have hb' := V.dig_short hb.2.1
  have hc' := V.dig_short hb.2.2
  have e0 : ∀ w, (Op.stringOp .add (V.dig a) (⟨#[46]⟩)).run Tryd.prog w = .ok (.string (V.dig a ++ ⟨#[46]⟩)) w := fun w => run_string_add_sum w _ _ (by simp [ByteArray.size_append, dot_size]; omega)
  have e1 : ∀ w, (Op.stringOp .add (V.dig a ++ ⟨#[46]⟩) (V.dig b)).run Tryd.prog w = .ok (.string (V.dig a ++ ⟨#[46]⟩ ++ V.dig b)) w := fun w => run_string_add_sum w _ _ (by simp [ByteArray.size_append, dot_size]; omega)
  have e2 : ∀ w, (Op.stringOp .add (V.dig a ++ ⟨#[46]⟩ ++ V.dig b) (⟨#[46]⟩)).run Tryd.prog w = .ok (.string (V.dig a ++ ⟨#[46]⟩ ++ V.dig b ++ ⟨#[46]⟩)) w := fun w => run_string_add_sum w _ _ (by simp [ByteArray.size_append, dot_size]; omega)
  have e3 : ∀ w, (Op.stringOp .add (V.dig a ++ ⟨#[46]⟩ ++ V.dig b ++ ⟨#[46]⟩) (V.dig c)).run Tryd.prog w = .ok (.string (V.dig a ++ ⟨#[46]⟩ ++ V.dig b ++ ⟨#[46]⟩ ++ V.dig c)) w := fun w => run_string_add_sum w _ _ (by simp [ByteArray.size_append, dot_size]; omega)
  clear ha hb' hc'
  have HS := Lib.hid (V.str_yes h)
  have H := Lib.hid h
  clear h
  go_enter Tryd.func30, Tryd.ntmps30
  go_wp2_with fail
  refine (rmay_any _ _ _ _).mono ?_
  rintro e w1 ⟨rfl, hb1⟩
  rw [H.out]
  have B1 : Below w.heap.size w w1 := by refine Below.trans ?_ (hb1.mono ?_) <;> go_grown
  obtain ⟨hc, hf⟩ := bcell hb1
  have hz : w.heap.size < w1.heap.size := by have := hb1.size; simp at this; omega
  go_wp2
  go_region_held3 (fun w' => w'.cell? ⟨w.heap.size, 0, none⟩ = some (.int .i64 a) ∧ w'.cell? ⟨w.heap.size, 1, none⟩ = some (.int .i64 b) ∧ w'.cell? ⟨w.heap.size, 2, none⟩ = some (.int .i64 c) ∧ w.heap.size < w'.heap.size ∧ Below w.heap.size w w')
    (first | (exact ver_keep (by assumption) (by assumption)) | (refine ⟨by simp [hc], by simp [hc], by simp [hc], by simpa using hz, ?_⟩; exact B1.drew))
    (first | (go_at_call 31; refine (number_any _ (by omega) _).mono ?_; rintro e w2 ⟨rfl, hb⟩))
  rename_i hH
  obtain ⟨_, _, _, _, hB⟩ := hH
  go_wp2
  go_returns
  exact ⟨by rw [HS.out]; rfl, hB⟩
set_option maxHeartbeats 400000 in
theorem rprint_any (a b c : Int) (w : World) :
    Calls Tryd.prog 30 #[.agg #[.int .i64 a, .int .i64 b, .int .i64 c]] w fun e w' => e = .returned (.string (V.str a b c)) ∧ Below w.heap.size w w' := by
  cases h : V.may a b c
  · have HS := Lib.hid (V.str_no h)
    have H := Lib.hid h
    clear h
    go_enter Tryd.func30, Tryd.ntmps30
    go_wp2_with fail
    refine (rmay_any _ _ _ _).mono ?_
    rintro e w1 ⟨rfl, hb1⟩
    rw [H.out]
    go_wp2
    go_returns
    exact ⟨by rw [HS.out]; rfl, by refine Below.trans ?_ (hb1.mono ?_) <;> go_grown⟩
  · exact rprint_yes a b c h w
end Go.Proofs.YtjiifieafnjpgaaDoor.VL

namespace Go.Proofs.YtjiifieafnjpgaaDoor.VL
open Go.RowKit
/-- strings.Split at one sign: the pieces lie in a new block. -/
theorem Split_any (s : ByteArray) (d : UInt8) (hs : s.size < 4294967281) (w : World) (hE : Env w) :
    Calls Tryd.prog 39 #[.string s, .string ⟨#[d]⟩] w fun e w' =>
      e = .returned (.slice (some ⟨w.heap.size, 0, none⟩) (Go.Lib.countB s ⟨#[d]⟩ + 1) (Go.Lib.countB s ⟨#[d]⟩ + 1)) ∧ w' = w.alloc (.cells ((Go.Lib.splitB ⟨#[d]⟩ 0 (Go.Lib.countB s ⟨#[d]⟩) s).map Value.string).toArray 9) := by
  obtain ⟨m, hm⟩ := hE.most
  exact Tryd.strings_Split s ⟨#[d]⟩ m w hs hm (Nat.le_refl 1)
end Go.Proofs.YtjiifieafnjpgaaDoor.VL
