/- Bytes in digits, and back: the program's walks. -/
import Derived.Test.YtnbjdfiembbmmaaDoorPlanP
import Derived.Test.YtnbjdfiembbmmaaDoorBuilder
import Derived.Handy
import Derived.WalkMore
import Derived.WalkLawsBesides
import Derived.WalkSpells
import Derived.Outline
import Derived.Lib.Hide
import Derived.BigQuiet
namespace Go.Proofs.YtnbjdfiembbmmaaDoor
open Go.RowKit
set_option linter.unusedSimpArgs false
set_option linter.unusedVariables false
theorem builderAt_drewN {T e : TypeId} {B b : Nat} {p : Value} {xs : List Value} {w : World} (h : Go.Lib.BuilderAt T e B b p xs w) (m : Nat) : Go.Lib.BuilderAt T e B b p xs (w.drewN m) := h
theorem build_drewN {B b : Nat} {xs : List Value} {w : World} (h : Build B b xs w) (m : Nat) : Build B b xs (w.drewN m) := h
namespace Plan
def dig (n : Nat) : UInt8 := if n < 10 then UInt8.ofNat (48 + n) else UInt8.ofNat (87 + n)
def hex2 (c : UInt8) : List UInt8 := [dig (c.toNat / 16), dig (c.toNat % 16)]
/-- Bytes in digits. -/
def hexs (l : List UInt8) : List UInt8 := l.flatMap hex2
theorem hexs_length (l : List UInt8) : (hexs l).length = 2 * l.length := by
  induction l with
  | nil => rfl
  | cons c l ih =>
    show (hex2 c ++ hexs l).length = _
    rw [List.length_append, ih]
    simp [hex2]
    omega
theorem hexs_next {l : List UInt8} {k : Nat} {c : UInt8} (h : l[k]? = some c) : hexs (l.take (k + 1)) = hexs (l.take k) ++ hex2 c := by
  rw [List.take_add_one, h]
  simp [hexs]
def hexOf (l : List UInt8) : List UInt8 := if l = [] then [45] else hexs l
end Plan
def digs : ByteArray := ⟨#[48, 49, 50, 51, 52, 53, 54, 55, 56, 57, 97, 98, 99, 100, 101, 102]⟩
theorem dig_at (n : Nat) (h : n < 16) : (⟨#[48, 49, 50, 51, 52, 53, 54, 55, 56, 57, 97, 98, 99, 100, 101, 102]⟩ : ByteArray)[n]'h = Plan.dig n := by
  have : ∀ n : Fin 16, (⟨#[48, 49, 50, 51, 52, 53, 54, 55, 56, 57, 97, 98, 99, 100, 101, 102]⟩ : ByteArray)[n.val]'n.isLt = Plan.dig n.val := by decide
  exact this ⟨n, h⟩
set_option maxHeartbeats 2000000 in
set_option maxRecDepth 100000 in
theorem hex_any (s : ByteArray) (hs : s.size ≤ 1048576) (w : World) :
    Calls Tryd.prog 32 #[.string s] w fun e w' => e = .returned (.string (bs (Plan.hexOf s.data.toList))) ∧ Below w.heap.size w w' := by
  by_cases h0 : s.size = 0
  · obtain rfl := str_empty h0
    clear h0
    go_enter Tryd.func32, Tryd.ntmps32
    go_wp2
    go_returns
    exact ⟨rfl, by go_grown⟩
  · have hq : (s.toList == ([] : List UInt8)) = false := str_ne_empty (by omega)
    have HSL := Lib.hid (bal_length s)
    have HB0 := Lib.hid (Go.Lib.fresh_isBuilder 48 5 w)
    go_enter Tryd.func32, Tryd.ntmps32
    go_wp2_with fail
    go_loopw [9] (fun p wr => ∃ k : Nat, p = .int .i64 k ∧ k ≤ s.size ∧ Build w.heap.size w.heap.size (Go.Lib.byteCells (Plan.hexs (s.data.toList.take k))) wr ∧ Below w.heap.size w wr) (fun p _ => s.size - (intOf p).toNat)
    case atStart => exact ⟨0, rfl, by omega, HB0.out, by go_grown⟩
    case round =>
      obtain ⟨k, rfl, hk, hbd, hBr⟩ := hrel
      have HBD := Lib.hid hbd
      clear hbd
      by_cases hks : k < s.size
      · have HC := Lib.hid (byte_at s hks)
        have hlen : (Go.Lib.byteCells (Plan.hexs (s.data.toList.take k))).length + 2 ≤ 140737488355328 := by
          rw [Go.Lib.byteCells_length, Plan.hexs_length]
          simp
          omega
        have HLEN := Lib.hid hlen
        have h256 : s[k].toNat < 256 := s[k].toNat_lt
        clear hlen
        go_wp2_with fail
        refine (WriteByte_any w.heap.size w.heap.size _ _ _ HBD.out (by have := HLEN.out; omega) hBr.size).mono ?_
        rintro e w1 ⟨rfl, hbd1, hb1⟩
        have HBD1 := Lib.hid hbd1
        have hz1 : w.heap.size ≤ w1.heap.size := by have := hBr.size; have := hb1.size; omega
        clear hbd1
        go_wp2_with fail
        refine (WriteByte_any w.heap.size w.heap.size _ _ _ HBD1.out (by have := HLEN.out; simp only [List.length_append, List.length_singleton]; omega) hz1).mono ?_
        rintro e w2 ⟨rfl, hbd2, hb2⟩
        have HBD2 := Lib.hid hbd2
        clear hbd2
        go_wp2_with fail
        go_roundw
        case rel => exact ⟨k + 1, by go_num, by omega, by
          have h2 := HBD2.out
          rw [dig_at, dig_at] at h2
          rw [Plan.hexs_next HC.out]
          simpa [Go.Lib.byteCells, Plan.hex2] using h2, (hBr.trans hb1).trans hb2⟩
        case measure => simp [intOf]; omega
      · have hfull : s.data.toList.take k = s.data.toList := List.take_of_length_le (by rw [HSL.out]; omega)
        have hbd2 := HBD.out
        rw [hfull] at hbd2
        have HBD2 := Lib.hid hbd2
        have HO : Hid (Plan.hexOf s.data.toList = Plan.hexs s.data.toList) := Lib.hid (by
          unfold Plan.hexOf
          rw [if_neg]
          intro e
          have := HSL.out
          rw [e] at this
          simp at this
          omega)
        clear hbd2 hfull
        go_wp2_with fail
        refine (Tryd.Builder_String_any w.heap.size w.heap.size (Plan.hexs s.data.toList) _ HBD2.out hBr.size).mono ?_
        rintro e w5 ⟨rfl, hb5⟩
        go_wp2
        go_returns
        exact ⟨by rw [HO.out]; rfl, hBr.trans hb5⟩
end Go.Proofs.YtnbjdfiembbmmaaDoor
