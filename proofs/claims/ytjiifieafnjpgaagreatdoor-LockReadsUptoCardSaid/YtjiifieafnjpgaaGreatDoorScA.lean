/- Small functions of texts as lines of words: are two lists the same? is a text a word? -/
import Derived.Test.YtjiifieafnjpgaaGreatDoorChecked
import Derived.Test.YtjiifieafnjpgaaGreatDoorRead
import Derived.Test.YtjiifieafnjpgaaGreatDoorScanP
import Derived.Handy
import Derived.BigQuiet
import Derived.WalkMore
import Derived.WalkLawsBesides
import Derived.WalkSpells
import Derived.Outline
import Derived.Lib.Hide
namespace Go.Proofs.YtjiifieafnjpgaaGreatDoor
open Go.RowKit
set_option linter.unusedSimpArgs false
set_option linter.unusedVariables false
/-- A reading callee in a reading region, met after some draws. -/
theorem quiet_in {P : Program} {f : FuncId} {args : Array Value} {w : World} {m x : Nat} {v : Value}
    (h : Calls P f args (w.drewN (m + x)) fun e w' => e = .returned v ∧ ∃ k, w' = (w.drewN (m + x)).drewN k) : Calls P f args (w.drewN (m + x)) fun e w'' => e = .returned v ∧ ∃ n, w'' = w.drewN (m + n) :=
  h.mono fun _ _ ⟨he, k, hk⟩ => ⟨he, x + k, by rw [hk, World.drewN_drewN, Nat.add_assoc]⟩
theorem take_eq_of {α : Type} {la lb : List α} (hl : la.length = lb.length) {k : Nat} (h : la.take k = lb.take k) (hk : la.length ≤ k) : la = lb := by
  rw [List.take_of_length_le hk, List.take_of_length_le (by omega)] at h; exact h
theorem take_ne_of {α : Type} {la lb : List α} {k : Nat} {x y : α} (hx : la[k]? = some x) (hy : lb[k]? = some y) (h : x ≠ y) : la ≠ lb := fun e => by
  subst e; rw [hx] at hy; exact h (Option.some.inj hy)
theorem take_next {α : Type} {la lb : List α} {k : Nat} {x y : α} (h : la.take k = lb.take k) (hx : la[k]? = some x) (hy : lb[k]? = some y) (e : x = y) : la.take (k + 1) = lb.take (k + 1) := by
  subst e
  rw [List.take_add_one, List.take_add_one, hx, hy, h]
end Go.Proofs.YtjiifieafnjpgaaGreatDoor

namespace Go.Proofs.YtjiifieafnjpgaaGreatDoor
open Go.RowKit
set_option linter.unusedSimpArgs false
set_option linter.unusedVariables false
theorem byte_at (s : ByteArray) {k : Nat} (h : k < s.size) : s.data.toList[k]? = some s[k] := by
  rw [List.getElem?_eq_getElem (by simpa using h)]; rfl
theorem bal_length (s : ByteArray) : s.data.toList.length = s.size := by simp
theorem isW_no {l : List UInt8} {k : Nat} {c : UInt8} (h : l[k]? = some c) (hc : Scan.letter c = false) : Scan.isW l = false :=
  Scan.isW_bad hc (List.mem_of_getElem? h)
theorem isW_full {l : List UInt8} (hp : 0 < l.length) {k : Nat} (h : ∀ c ∈ l.take k, Scan.letter c = true) (hk : l.length ≤ k) : Scan.isW l = true := by
  rw [List.take_of_length_le hk] at h
  exact Scan.isW_of (fun e => by rw [e] at hp; simp at hp) h
theorem take_all_next {l : List UInt8} {k : Nat} {c : UInt8} (h : ∀ c ∈ l.take k, Scan.letter c = true) (hx : l[k]? = some c) (hc : Scan.letter c = true) : ∀ c ∈ l.take (k + 1), Scan.letter c = true := by
  rw [List.take_add_one, hx]
  intro x hm
  rcases List.mem_append.1 hm with hm | hm
  · exact h x hm
  · simp at hm; subst hm; exact hc
theorem str_empty {s : ByteArray} (h : s.size = 0) : s = ByteArray.empty := by
  apply ByteArray.ext; apply Array.ext' ; have : s.data.toList.length = 0 := by rw [bal_length]; exact h
  rw [List.length_eq_zero_iff.1 this]; rfl
theorem str_ne_empty {s : ByteArray} (h : 0 < s.size) : (s.toList == ([] : List UInt8)) = false := by
  rw [beq_eq_false_iff_ne, ByteArray.toList_eq]
  intro e
  have := bal_length s
  rw [e] at this
  simp at this
  omega
set_option maxHeartbeats 1000000 in
set_option maxRecDepth 100000 in
theorem risWord_any (s : ByteArray) (hs : s.size ≤ 9223372036854775807) (w : World) :
    Calls Tryz.prog 44 #[.string s] w fun e w' => e = .returned (.bool (Scan.isW s.data.toList)) ∧ w' = w := by
  rcases Nat.eq_zero_or_pos s.size with h0 | hp
  · obtain rfl := str_empty h0
    clear h0
    go_enter Tryz.func44, Tryz.ntmps44
    go_wp2
    refine wp_loop_rounds 1 ?_
    rw [rounds_succ]
    go_wp2
    go_returns
    exact ⟨rfl, rfl⟩
  · have hne := str_ne_empty hp
    have hne2 := hne
    rw [ByteArray.toList_eq] at hne2
    go_enter Tryz.func44, Tryz.ntmps44
    go_wp2
    go_loopw [3] (fun p wr => ∃ k : Nat, p = .int .i64 k ∧ k ≤ s.size ∧ (∀ c ∈ s.data.toList.take k, Scan.letter c = true) ∧ wr = w) (fun p _ => s.size - (intOf p).toNat)
    case atStart => exact ⟨0, rfl, by omega, fun c h => by simp at h, rfl⟩
    case round =>
      obtain ⟨k, rfl, hk, hall, rfl⟩ := hrel
      have HA := Lib.hid hall
      clear hall
      by_cases hks : k < s.size
      · have HC := Lib.hid (byte_at s hks)
        by_cases hl : Scan.letter s[k] = true
        · have hl2 := Scan.letter_iff.1 hl
          have q1 : ¬ ((s[k].toNat : Int) < 33) := by omega
          have q2 : ¬ ((126 : Int) < (s[k].toNat : Int)) := by omega
          have HL := Lib.hid hl
          clear hl hl2
          go_wp2
          go_roundw
          case rel => exact ⟨k + 1, by go_num, by omega, take_all_next HA.out HC.out HL.out, trivial⟩
          case measure => simp [intOf]; omega
        · have hf : Scan.letter s[k] = false := by simpa using hl
          have HN := Lib.hid (isW_no HC.out hf)
          have hl2 : (s[k].toNat : Int) < 33 ∨ (126 : Int) < (s[k].toNat : Int) := by
            by_cases hh : 33 ≤ s[k].toNat ∧ s[k].toNat ≤ 126
            · exact absurd (Scan.letter_iff.2 hh) hl
            · omega
          clear hl hf
          by_cases hl1 : (s[k].toNat : Int) < 33
          · clear hl2
            go_wp2
            go_returns
            exact ⟨by rw [HN.out]; rfl, rfl⟩
          · have hl3 : (126 : Int) < (s[k].toNat : Int) := by omega
            clear hl2
            go_wp2
            go_returns
            exact ⟨by rw [HN.out]; rfl, rfl⟩
      · have HN := Lib.hid (isW_full (by rw [bal_length]; exact hp) HA.out (by rw [bal_length]; omega))
        go_wp2
        go_returns
        exact ⟨by rw [HN.out]; rfl, rfl⟩
theorem isWord_ref (x : List UInt8) (hs : (bs x).size ≤ 9223372036854775807) (w : World) :
    Calls Tryz.prog 44 #[.string (bs x)] w fun e w' => e = .returned (.bool (Scan.isW x)) ∧ w' = w := risWord_any (bs x) hs w
end Go.Proofs.YtjiifieafnjpgaaGreatDoor
