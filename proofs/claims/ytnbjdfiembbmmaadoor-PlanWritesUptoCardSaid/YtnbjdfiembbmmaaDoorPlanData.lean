/- Digits as bytes: the program's walk. -/
import Derived.Test.YtnbjdfiembbmmaaDoorPlanHex
import Derived.Test.YtnbjdfiembbmmaaDoorScanParts
namespace Go.Proofs.YtnbjdfiembbmmaaDoor
open Go.RowKit
set_option linter.unusedSimpArgs false
set_option linter.unusedVariables false
namespace Plan
/-- A digit's number. -/
def val (c : UInt8) : Option Nat := if 48 ≤ c.toNat ∧ c.toNat ≤ 57 then some (c.toNat - 48) else if 97 ≤ c.toNat ∧ c.toNat ≤ 102 then some (c.toNat - 87) else none
def unhex : List UInt8 → Option (List UInt8)
  | [] => some []
  | [_] => none
  | a :: b :: r => match val a, val b with
    | some x, some y => (unhex r).map (UInt8.ofNat (16 * x + y) :: ·)
    | _, _ => none
/-- Digits as bytes. -/
def dataOf (l : List UInt8) : Option (List UInt8) := if l = [45] then some [] else unhex l
theorem val_lt {c : UInt8} {x : Nat} (h : val c = some x) : x < 16 := by
  unfold val at h
  split at h
  · simp at h; omega
  · split at h
    · simp at h; omega
    · exact absurd h (by simp)
theorem val_dig (n : Nat) (h : n < 16) : val (dig n) = some n := by
  have : ∀ n : Fin 16, val (dig n.val) = some n.val := by decide
  exact this ⟨n, h⟩
theorem unhex_hexs (l : List UInt8) : unhex (hexs l) = some l := by
  induction l with
  | nil => rfl
  | cons c l ih =>
    have h := c.toNat_lt
    show unhex (dig (c.toNat / 16) :: dig (c.toNat % 16) :: hexs l) = _
    simp only [unhex, val_dig _ (show c.toNat / 16 < 16 by omega), val_dig _ (show c.toNat % 16 < 16 by omega), ih, Option.map_some]
    rw [show 16 * (c.toNat / 16) + c.toNat % 16 = c.toNat by omega]
    simp
theorem dig_not45 (n : Nat) (h : n < 16) : dig n ≠ 45 := by
  have : ∀ n : Fin 16, dig n.val ≠ 45 := by decide
  exact this ⟨n, h⟩
theorem data_hex (l : List UInt8) : dataOf (hexOf l) = some l := by
  unfold dataOf hexOf
  by_cases h : l = []
  · subst h; rfl
  · rw [if_neg h, if_neg, unhex_hexs]
    intro e
    have := congrArg List.length e
    rw [hexs_length] at this
    simp at this
    omega
theorem unhex_split : ∀ (a b : List UInt8), a.length % 2 = 0 → unhex (a ++ b) = (unhex a).bind fun x => (unhex b).map (x ++ ·)
  | [], b, _ => by simp [unhex]
  | [_], b, h => by simp at h
  | x :: y :: r, b, h => by
    have ih := unhex_split r b (by simp at h; omega)
    simp only [List.cons_append, unhex]
    cases val x with
    | none => rfl
    | some u =>
      cases val y with
      | none => rfl
      | some v =>
        simp only [ih]
        cases unhex r with
        | none => rfl
        | some p => cases unhex b <;> simp
theorem unhex_odd : ∀ (l : List UInt8), l.length % 2 = 1 → unhex l = none
  | [], h => by simp at h
  | [_], _ => rfl
  | x :: y :: r, h => by
    have ih := unhex_odd r (by simp at h; omega)
    simp only [unhex, ih]
    cases val x <;> cases val y <;> rfl
/-- Two digits further. -/
theorem unhex_two {l : List UInt8} {k : Nat} {a b : UInt8} (hk : k % 2 = 0) (ha : l[k]? = some a) (hb : l[k + 1]? = some b) :
    unhex (l.take (k + 2)) = (unhex (l.take k)).bind fun x => match val a, val b with
      | some u, some v => some (x ++ [UInt8.ofNat (16 * u + v)])
      | _, _ => none := by
  have h1 := (List.getElem?_eq_some_iff.1 ha).1
  have e : l.take (k + 2) = l.take k ++ [a, b] := by
    rw [List.take_add_one, hb, List.take_add_one, ha]; simp
  rw [e, unhex_split _ _ (by rw [List.length_take, Nat.min_eq_left (by omega)]; exact hk)]
  cases unhex (l.take k) with
  | none => rfl
  | some x => simp only [unhex, Option.bind_some]; cases val a <;> cases val b <;> rfl
theorem unhex_bad {l : List UInt8} {k : Nat} {a b : UInt8} (hk : k % 2 = 0) (ha : l[k]? = some a) (hb : l[k + 1]? = some b) (h : val a = none ∨ val b = none) : unhex l = none := by
  have h1 := List.getElem?_eq_some_iff.1 ha
  have h2 := List.getElem?_eq_some_iff.1 hb
  have h3 := h1.1
  have e : l = l.take k ++ (a :: b :: l.drop (k + 2)) := by
    have e1 : l = l.take k ++ l.drop k := (List.take_append_drop k l).symm
    rw [List.drop_eq_getElem_cons h1.1, h1.2, List.drop_eq_getElem_cons h2.1, h2.2] at e1
    exact e1
  rw [e, unhex_split _ _ (by rw [List.length_take, Nat.min_eq_left (by omega)]; exact hk)]
  cases unhex (l.take k) with
  | none => rfl
  | some x =>
    simp only [unhex, Option.bind_some]
    rcases h with h | h
    · rw [h]; rfl
    · rw [h]; cases val a <;> rfl
def ix (c : UInt8) : Int := match val c with | some x => x | none => -1
end Plan
theorem digs_index (c : UInt8) : Go.Lib.indexByte digs.data.toList c = Plan.ix c := by
  have := u8_all (p := fun c => Go.Lib.indexByte digs.data.toList c == Plan.ix c) (by decide +kernel) c
  simpa using this
theorem IndexDig (c : UInt8) (w : World) : Calls Tryd.prog 62 #[.string ⟨#[48, 49, 50, 51, 52, 53, 54, 55, 56, 57, 97, 98, 99, 100, 101, 102]⟩, .int .u8 c.toNat] w fun e w' => e = .returned (.int .i64 (Plan.ix c)) ∧ w' = w := by
  have := Tryd.strings_IndexByte digs (c.toNat : Int) w
  rw [show ((c.toNat : Int).toNat.toUInt8) = c by simp, digs_index] at this
  exact this
/-- What data answers. -/
def dataRes (l : List UInt8) : Value := match Plan.dataOf l with
  | some x => .tuple #[.string (bs x), .bool true]
  | none => .tuple #[.string ByteArray.empty, .bool false]
set_option maxHeartbeats 2000000 in
set_option maxRecDepth 100000 in
theorem data_any (s : ByteArray) (hs : s.size ≤ 4398046511104) (w : World) :
    Calls Tryd.prog 42 #[.string s] w fun e w' => e = .returned (dataRes s.data.toList) ∧ Below w.heap.size w w' := by
  have HSL := Lib.hid (bal_length s)
  cases h45 : (s.toList == [45])
  rotate_left 1
  · have HF : Hid (dataRes s.data.toList = .tuple #[.string ByteArray.empty, .bool true]) := Lib.hid (by
      rw [str_eq_lit, decide_eq_true_eq] at h45
      rw [h45]; rfl)
    go_enter Tryd.func42, Tryd.ntmps42
    go_wp2_with fail
    go_returns
    exact ⟨by rw [HF.out]; rfl, by go_grown⟩
  have hdo : Plan.dataOf s.data.toList = Plan.unhex s.data.toList := by
    rw [str_eq_lit, decide_eq_false_iff_not] at h45
    unfold Plan.dataOf; rw [if_neg h45]
  have hmod : (s.size : Int).tmod 2 = ((s.size % 2 : Nat) : Int) := by rw [Int.tmod_eq_emod_of_nonneg (by omega)]; omega
  by_cases hodd : s.size % 2 = 1
  · have HF : Hid (dataRes s.data.toList = .tuple #[.string ByteArray.empty, .bool false]) := Lib.hid (by
      unfold dataRes; rw [hdo, Plan.unhex_odd _ (by rw [HSL.out]; exact hodd)])
    rw [hodd] at hmod
    clear hdo
    go_enter Tryd.func42, Tryd.ntmps42
    go_wp2_with fail
    go_returns
    exact ⟨by rw [HF.out]; rfl, by go_grown⟩
  · have hev : s.size % 2 = 0 := by omega
    rw [hev] at hmod
    have HEV := Lib.hid hev
    have HDO := Lib.hid hdo
    have HB0 := Lib.hid (Go.Lib.fresh_isBuilder 48 5 w)
    clear hev hodd hdo
    go_enter Tryd.func42, Tryd.ntmps42
    go_wp2_with fail
    go_loopw [5] (fun p wr => ∃ (k : Nat) (out : List UInt8), p = .int .i64 k ∧ k ≤ s.size ∧ k % 2 = 0 ∧ Plan.unhex (s.data.toList.take k) = some out ∧ out.length ≤ k ∧ Build w.heap.size w.heap.size (Go.Lib.byteCells out) wr ∧ Below w.heap.size w wr) (fun p _ => s.size - (intOf p).toNat)
    case atStart => exact ⟨0, [], rfl, by omega, rfl, rfl, by simp, HB0.out, by go_grown⟩
    case round =>
      obtain ⟨k, out, rfl, hk, hk2, hun, hol, hbd, hBr⟩ := hrel
      have HBD := Lib.hid hbd
      have HUN := Lib.hid hun
      have HK2 := Lib.hid hk2
      clear hbd hun hk2
      by_cases hks : k < s.size
      · have hks1 : k + 1 < s.size := by have := HEV.out; have := HK2.out; omega
        have qi1 : (0 : Int) ≤ (k : Int) + 1 := by omega
        have qi2 : (k : Int) + 1 < (s.size : Int) := by omega
        have qi3 : ((k : Int) + 1).toNat = k + 1 := by omega
        have qi4 : (0 : Int) ≤ (k : Int) + 1 ∧ (k : Int) + 1 < (s.size : Int) := ⟨qi1, qi2⟩
        have HC1 := Lib.hid (byte_at s hks)
        have HC2 := Lib.hid (byte_at s hks1)
        have HT := Lib.hid (Plan.unhex_two HK2.out HC1.out HC2.out)
        obtain ⟨a, ha⟩ : ∃ a, a = s[k] := ⟨_, rfl⟩
        obtain ⟨b, hb⟩ : ∃ b, b = s[k + 1] := ⟨_, rfl⟩
        have hbad : Plan.val a = none ∨ Plan.val b = none → dataRes s.data.toList = .tuple #[.string ByteArray.empty, .bool false] := fun h => by
          unfold dataRes; rw [HDO.out, Plan.unhex_bad HK2.out HC1.out HC2.out (by rw [← ha, ← hb]; exact h)]
        have HBAD := Lib.hid hbad
        clear hbad
        cases hva : Plan.val a with
        | none =>
          have HF := Lib.hid (HBAD.out (Or.inl hva))
          have hi1 : Plan.ix s[k] = -1 := by rw [← ha]; unfold Plan.ix; rw [hva]
          clear ha hb hva
          go_wp2_with fail
          go_quiet ((first | (go_at_call 62; exact Calls.quiet_of_same (IndexDig _ _))))
          go_wp2_with fail
          go_returns
          exact ⟨by rw [HF.out]; rfl, Below.drewN hBr nq⟩
        | some x =>
          cases hvb : Plan.val b with
          | none =>
            have HF := Lib.hid (HBAD.out (Or.inr hvb))
            have hi1 : Plan.ix s[k] = (x : Int) := by rw [← ha]; unfold Plan.ix; rw [hva]
            have hi2 : Plan.ix s[k + 1] = -1 := by rw [← hb]; unfold Plan.ix; rw [hvb]
            clear ha hb hva hvb
            go_wp2_with fail
            go_quiet ((first | (go_at_call 62; exact Calls.quiet_of_same (IndexDig _ _))))
            go_wp2_with fail
            go_returns
            exact ⟨by rw [HF.out]; rfl, Below.drewN hBr nq⟩
          | some y =>
            have hx16 := Plan.val_lt hva
            have hy16 := Plan.val_lt hvb
            have hi1 : Plan.ix s[k] = (x : Int) := by rw [← ha]; unfold Plan.ix; rw [hva]
            have hi2 : Plan.ix s[k + 1] = (y : Int) := by rw [← hb]; unfold Plan.ix; rw [hvb]
            have HN : Hid (Plan.unhex (s.data.toList.take (k + 2)) = some (out ++ [UInt8.ofNat (16 * x + y)])) := Lib.hid (by
              rw [HT.out, HUN.out, ← ha, ← hb, hva, hvb]; rfl)
            have hw1 : IntKind.u8.wrap (16 * (x : Int) + y) = 16 * (x : Int) + y := IntWalk.u8_in _ (by omega)
            clear ha hb hva hvb
            go_wp2_with fail
            go_quiet ((first | (go_at_call 62; exact Calls.quiet_of_same (IndexDig _ _))))
            go_wp2_with fail
            refine (WriteByte_any w.heap.size w.heap.size _ _ _ (build_drewN HBD.out nq) (by rw [Go.Lib.byteCells_length]; omega) (by have := hBr.size; simpa using this)).mono ?_
            rintro e w1 ⟨rfl, hbd1, hb1⟩
            have HBD1 := Lib.hid hbd1
            clear hbd1
            go_wp2_with fail
            go_roundw
            case rel => exact ⟨k + 2, out ++ [UInt8.ofNat (16 * x + y)], by go_num, by omega, by have := HK2.out; omega, HN.out, by simp; omega, by
              have h2 := HBD1.out
              have e : (.int .u8 (16 * (x : Int) + y) : Value) = .int .u8 ((UInt8.ofNat (16 * x + y)).toNat : Int) := by
                congr 1
                simp
                omega
              rw [e] at h2
              simpa [Go.Lib.byteCells] using h2, (Below.drewN hBr nq).trans hb1⟩
            case measure => simp [intOf]; omega
      · have hfull : s.data.toList.take k = s.data.toList := List.take_of_length_le (by rw [HSL.out]; omega)
        have hu := HUN.out
        rw [hfull] at hu
        have HF : Hid (dataRes s.data.toList = .tuple #[.string (bs out), .bool true]) := Lib.hid (by unfold dataRes; rw [HDO.out, hu])
        clear hu hfull
        go_wp2_with fail
        refine (Tryd.Builder_String_any w.heap.size w.heap.size out _ HBD.out hBr.size).mono ?_
        rintro e w5 ⟨rfl, hb5⟩
        go_wp2
        go_returns
        exact ⟨by rw [HF.out]; rfl, hBr.trans hb5⟩
end Go.Proofs.YtnbjdfiembbmmaaDoor
