/- The document's line, and its Lines. -/
import Derived.Test.YtnbjdfiembbmmaaDoorChecked
import Derived.Test.YtnbjdfiembbmmaaDoorScanC
import Derived.Handy
import Derived.WalkMore
import Derived.WalkLawsBesides
import Derived.WalkSpells
import Derived.Outline
import Derived.Lib.Hide
import Derived.BigQuiet
namespace Go.Proofs.YtnbjdfiembbmmaaDoor
open Go.RowKit
set_option linter.unusedSimpArgs false
set_option linter.unusedVariables false
theorem all_take_full {α : Type} {f : α → Bool} {l : List α} {k : Nat} (h : ∀ c ∈ l.take k, f c = true) (hk : l.length ≤ k) : l.all f = true := by
  rw [List.take_of_length_le hk] at h
  exact List.all_eq_true.2 h
theorem all_no {α : Type} {f : α → Bool} {l : List α} {k : Nat} {c : α} (h : l[k]? = some c) (hc : f c = false) : l.all f = false := by
  rw [List.all_eq_false]
  exact ⟨c, List.mem_of_getElem? h, by simp [hc]⟩
theorem all_take_next {α : Type} {f : α → Bool} {l : List α} {k : Nat} {c : α} (h : ∀ c ∈ l.take k, f c = true) (hx : l[k]? = some c) (hc : f c = true) : ∀ c ∈ l.take (k + 1), f c = true := by
  rw [List.take_add_one, hx]
  intro x hm
  rcases List.mem_append.1 hm with hm | hm
  · exact h x hm
  · simp at hm; subst hm; exact hc
/-- What line of the document answers. -/
def LinePost (s : ByteArray) (w : World) (e : Ending) (w' : World) : Prop := Below w.heap.size w w' ∧
  ((Scan.lineOk s.data.toList = false ∧ e = .returned (.tuple #[.slice none 0 0, .bool false])) ∨
   (Scan.lineOk s.data.toList = true ∧ ∃ v, e = .returned (.tuple #[v, .bool true]) ∧ w'.ownsRow w.heap.size 9 1 v (Cut.cuts 32 s.data.toList).length ((Cut.cuts 32 s.data.toList).map sv)))
set_option maxHeartbeats 2000000 in
set_option maxRecDepth 100000 in
theorem line_any (s : ByteArray) (hs : s.size ≤ 1099511627776) (w : World) :
    Calls Tryd.prog 46 #[.string s] w (LinePost s w) := by
  have hcl := Cut.cuts_length 32 s.data.toList
  have hcount : s.data.toList.count 32 ≤ s.size := by rw [← bal_length s]; exact List.count_le_length
  go_enter Tryd.func46, Tryd.ntmps46
  go_wp2_with fail
  refine (split_any s 32 hs _).mono ?_
  rintro e w1 ⟨v, rfl, hB1, hown⟩
  obtain ⟨g, cap, rfl, hg1, hg2⟩ := own_some hown (by omega)
  obtain ⟨n, hn⟩ : ∃ n, n = (Cut.cuts 32 s.data.toList).length := ⟨_, rfl⟩
  rw [← hn] at hown hcl ⊢
  have HN := Lib.hid hn
  have HOW := Lib.hid hown
  have hnb : n ≤ 1099511627777 := by omega
  clear hn hown hcl hcount
  go_wp2
  go_loopw [5] (fun p wr => ∃ k : Nat, p = .int .i64 k ∧ k ≤ n ∧ (∀ c ∈ (Cut.cuts 32 s.data.toList).take k, Scan.isW c = true) ∧ wr = w1) (fun p _ => n - (intOf p).toNat)
  case atStart => exact ⟨0, rfl, by omega, fun c h => by simp at h, rfl⟩
  case round =>
    obtain ⟨k, rfl, hk, hall, rfl⟩ := hrel
    have HA := Lib.hid hall
    clear hall
    by_cases hkl : k < n
    · obtain ⟨x, hx⟩ : ∃ x, (Cut.cuts 32 s.data.toList)[k]? = some x := ⟨_, List.getElem?_eq_getElem (by have := HN.out; omega)⟩
      have e1 : wr.cell? ⟨g, k, none⟩ = some (.string (bs x)) := by
        rw [HOW.out.cellAt k (by omega), List.getElem?_map, hx]; rfl
      have hxl : (bs x).size ≤ 9223372036854775807 := by
        have := Cut.cuts_le 32 _ x (List.mem_of_getElem? hx)
        rw [bal_length] at this
        show x.toArray.size ≤ _
        simp
        omega
      have HX := Lib.hid hx
      have HXL := Lib.hid hxl
      clear hx hxl
      by_cases hw : Scan.isW x = true
      · go_wp2_with fail
        refine (isWord_ref x HXL.out _).mono ?_
        rintro e w2 ⟨rfl, rfl⟩
        rw [hw]
        go_wp2
        go_roundw
        case rel => exact ⟨k + 1, by go_num, by omega, all_take_next HA.out HX.out hw, trivial⟩
        case measure => simp [intOf]; omega
      · have hf : Scan.isW x = false := by simpa using hw
        have HF := Lib.hid (all_no HX.out hf)
        go_wp2_with fail
        refine (isWord_ref x HXL.out _).mono ?_
        rintro e w2 ⟨rfl, rfl⟩
        rw [hf]
        go_wp2
        go_returns
        exact ⟨hB1, Or.inl ⟨HF.out, rfl⟩⟩
    · have HF := Lib.hid (all_take_full HA.out (by have := HN.out; omega))
      go_wp2
      go_returns
      exact ⟨hB1, Or.inr ⟨HF.out, _, rfl, by rw [← HN.out]; exact HOW.out⟩⟩
end Go.Proofs.YtnbjdfiembbmmaaDoor
