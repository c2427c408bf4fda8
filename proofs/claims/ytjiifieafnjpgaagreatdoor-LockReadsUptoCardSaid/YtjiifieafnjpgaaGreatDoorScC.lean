/- The document's split and line. -/
import Derived.Test.YtjiifieafnjpgaaGreatDoorChecked
import Derived.Test.YtjiifieafnjpgaaGreatDoorScA
import Derived.Test.YtjiifieafnjpgaaGreatDoorScanLines
import Derived.Handy
import Derived.WalkMore
import Derived.WalkLawsBesides
import Derived.WalkSpells
import Derived.Outline
import Derived.Lib.Hide
import Derived.BigQuiet
namespace Go.Proofs.YtjiifieafnjpgaaGreatDoor
open Go.RowKit
set_option linter.unusedSimpArgs false
set_option linter.unusedVariables false
/-- A part of a text. -/
def seg (T : List UInt8) (f k : Nat) : List UInt8 := (T.drop f).take (k - f)
theorem extract_seg (s : ByteArray) (f k : Nat) : Value.string (s.extract f k) = sv (seg s.data.toList f k) := by
  unfold sv bs seg
  congr 1
  apply ByteArray.ext
  apply Array.toList_inj.1
  simp [List.extract]
theorem seg_full (T : List UInt8) (f : Nat) : seg T f T.length = T.drop f := by
  unfold seg
  rw [List.take_of_length_le (by simp)]
theorem seg_next {T : List UInt8} {f k : Nat} {c d : UInt8} (hf : f ≤ k) (hc : T[k]? = some c) (hd : c ≠ d) (h : d ∉ seg T f k) : d ∉ seg T f (k + 1) := by
  have e : seg T f (k + 1) = seg T f k ++ [c] := by
    unfold seg
    rw [show k + 1 - f = (k - f) + 1 by omega, List.take_add_one, List.getElem?_drop, show f + (k - f) = k by omega, hc]
    rfl
  rw [e]
  intro hm
  rcases List.mem_append.1 hm with hm | hm
  · exact h hm
  · simp at hm; exact hd hm.symm
theorem cuts_seg {T : List UInt8} {f k : Nat} {d : UInt8} (hf : f ≤ k) (hc : T[k]? = some d) (h : d ∉ seg T f k) : Cut.cuts d (T.drop f) = seg T f k :: Cut.cuts d (T.drop (k + 1)) := by
  have hk := List.getElem?_eq_some_iff.1 hc
  have e : T.drop f = seg T f k ++ d :: T.drop (k + 1) := by
    have e1 : T.drop f = seg T f k ++ (T.drop f).drop (k - f) := (List.take_append_drop _ _).symm
    rw [List.drop_drop, show f + (k - f) = k by omega, List.drop_eq_getElem_cons hk.1, hk.2] at e1
    exact e1
  rw [e, Cut.cuts_append h]
theorem seg_nil (T : List UInt8) (k : Nat) : seg T k k = [] := by simp [seg]
/-- Where a run of split stands. -/
structure Sp (T : List UInt8) (d : UInt8) (f k : Nat) (ps : List (List UInt8)) : Prop where
  eq : Cut.cuts d T = ps ++ Cut.cuts d (T.drop f)
  fk : f ≤ k
  le : k ≤ T.length
  free : d ∉ seg T f k
  len : ps.length ≤ k
theorem Sp.start (T : List UInt8) (d : UInt8) : Sp T d 0 0 [] := ⟨by simp, Nat.le_refl _, Nat.zero_le _, by simp [seg], Nat.le_refl _⟩
theorem Sp.miss {T d f k ps c} (h : Sp T d f k ps) (hc : T[k]? = some c) (hd : c ≠ d) : Sp T d f (k + 1) ps :=
  ⟨h.eq, by have := h.fk; omega, (List.getElem?_eq_some_iff.1 hc).1, seg_next h.fk hc hd h.free, by have := h.len; omega⟩
theorem Sp.hit {T d f k ps} (h : Sp T d f k ps) (hc : T[k]? = some d) : Sp T d (k + 1) (k + 1) (ps ++ [seg T f k]) :=
  ⟨by rw [h.eq, cuts_seg h.fk hc h.free]; simp, Nat.le_refl _, (List.getElem?_eq_some_iff.1 hc).1, by rw [seg_nil]; simp, by have := h.len; simp; omega⟩
theorem Sp.done {T d f k ps} (h : Sp T d f k ps) (hk : k = T.length) : Cut.cuts d T = ps ++ [seg T f T.length] := by
  have hf := h.free
  rw [hk, seg_full] at hf
  rw [h.eq, Cut.cuts_one hf, seg_full]
set_option maxHeartbeats 2000000 in
set_option maxRecDepth 100000 in
theorem split_any (s : ByteArray) (d : UInt8) (hs : s.size ≤ 1099511627776) (w : World) :
    Calls Tryz.prog 24 #[.string s, .int .u8 d.toNat] w fun e w' => ∃ v, e = .returned v ∧ Below w.heap.size w w' ∧ w'.ownsRow w.heap.size 9 1 v (Cut.cuts d s.data.toList).length ((Cut.cuts d s.data.toList).map sv) := by
  obtain ⟨i0, hi, hz0, hz1, hz2⟩ := info_parts infoStr
  go_enter Tryz.func24, Tryz.ntmps24
  go_wp2
  go_loopw [5, 6, 7] (fun p q r wr => ∃ (v : Value) (f k : Nat) (ps : List (List UInt8)), p = v ∧ q = .int .i64 f ∧ r = .int .i64 k ∧ Sp s.data.toList d f k ps ∧ wr.ownsRow w.heap.size 9 1 v ps.length (ps.map sv) ∧ Below w.heap.size w wr) (fun _ _ r _ => s.size - (intOf r).toNat)
  case atStart => exact ⟨_, 0, 0, [], rfl, rfl, rfl, Sp.start _ _, World.ownsRow_nil _ _ _ _, Below.refl _ _⟩
  case round =>
    obtain ⟨v, f, k, ps, rfl, rfl, rfl, hsp, hown, hB⟩ := hrel
    have HSP := Lib.hid hsp
    have HOW := Lib.hid hown
    have hks : k ≤ s.size := by have := hsp.le; simpa using this
    have hfk := hsp.fk
    have hpl := hsp.len
    obtain ⟨a0, c0, rfl⟩ := own_form hown
    clear hsp hown
    by_cases hlt : k < s.size
    · have HC := Lib.hid (byte_at s hlt)
      by_cases hd : s[k] = d
      · have hdd : ((s[k].toNat : Int) == (d.toNat : Int)) = true := by rw [hd]; simp
        have HD := Lib.hid hd
        clear hd
        go_wp2_with (at_builtin; refine wpList_append_own _ rfl _ _ 34 rfl w.heap.size 9 i0 (.string ByteArray.empty) 1 16 Tryz.underlying34 hi hz0 hz1 hz2 rfl (by decide) _ _ _ rfl (HOW.out.alloc _) ⟨wr.heap.size, 0, none⟩ 1 1 [.string (s.extract f k)] rfl rfl (cell_one_new _ _ _) (fun x hx => by simp at hx; subst hx; rfl) (by unfold maxLen; omega) (by omega) (by have := hB.size; simp; omega) ?_; intro v1 w1 hown1 hgrow1 hnil1)
        have hB1 : Below w.heap.size w w1 := Below.grown (hB.alloc hB.size _) hgrow1 (by have := hB.size; simp; omega) (fun g hg => (HOW.out.lt g hg).1)
        go_roundw
        case rel => exact ⟨_, k + 1, k + 1, ps ++ [seg s.data.toList f k], rfl, by go_num, by go_num, HSP.out.hit (by rw [HC.out, HD.out]), by rw [extract_seg] at hown1; simpa using hown1, hB1⟩
        case measure => simp [intOf]; omega
      · have hdd : ((s[k].toNat : Int) == (d.toNat : Int)) = false := by rw [beq_eq_false_iff_ne]; intro e; exact hd (UInt8.toNat_inj.1 (by omega))
        have HD := Lib.hid hd
        clear hd
        go_wp2
        go_roundw
        case rel => exact ⟨_, f, k + 1, ps, rfl, rfl, by go_num, HSP.out.miss HC.out HD.out, HOW.out, hB⟩
        case measure => simp [intOf]; omega
    · have hkk : k = s.size := by omega
      have hk2 : k = s.data.toList.length := by rw [bal_length]; exact hkk
      have HE := Lib.hid (HSP.out.done hk2)
      have HL := Lib.hid (bal_length s)
      subst hkk
      clear hk2
      go_wp2_with (at_builtin; refine wpList_append_own _ rfl _ _ 34 rfl w.heap.size 9 i0 (.string ByteArray.empty) 1 16 Tryz.underlying34 hi hz0 hz1 hz2 rfl (by decide) _ _ _ rfl (HOW.out.alloc _) ⟨wr.heap.size, 0, none⟩ 1 1 [.string (s.extract f s.size)] rfl rfl (cell_one_new _ _ _) (fun x hx => by simp at hx; subst hx; rfl) (by unfold maxLen; omega) (by omega) (by have := hB.size; simp; omega) ?_; intro v1 w1 hown1 hgrow1 hnil1)
      have hB1 : Below w.heap.size w w1 := Below.grown (hB.alloc hB.size _) hgrow1 (by have := hB.size; simp; omega) (fun g hg => (HOW.out.lt g hg).1)
      go_returns
      exact ⟨_, rfl, hB1, by rw [HE.out, HL.out]; rw [extract_seg] at hown1; simpa using hown1⟩
end Go.Proofs.YtjiifieafnjpgaaGreatDoor

namespace Go.Proofs.YtjiifieafnjpgaaGreatDoor
open Go.RowKit
set_option linter.unusedSimpArgs false
set_option linter.unusedVariables false
theorem all_take_full {α : Type} {f : α → Bool} {l : List α} {k : Nat} (h : ∀ c ∈ l.take k, f c = true) (hk : l.length ≤ k) : l.all f = true := by
  rw [List.take_of_length_le hk] at h
  exact List.all_eq_true.2 h
theorem all_no {α : Type} {f : α → Bool} {l : List α} {k : Nat} {c : α} (h : l[k]? = some c) (hc : f c = false) : l.all f = false := by
  rw [List.all_eq_false]
  exact ⟨c, List.mem_of_getElem? h, by simp [hc]⟩
theorem all_take_next {α : Type} {f : α → Bool} {l : List α} {k : Nat} {c : α} (h : ∀ c ∈ l.take k, f c = true) (hx : l[k]? = some c) (hc : f c = true) : ∀ c ∈ l.take (k + 1), f c = true := by
  rw [List.take_add_one, hx]
  intro x hm
  rcases List.mem_append.1 hm with hm | hm
  · exact h x hm
  · simp at hm; subst hm; exact hc
/-- What line of the document answers. -/
def LinePost (s : ByteArray) (w : World) (e : Ending) (w' : World) : Prop := Below w.heap.size w w' ∧
  ((Scan.lineOk s.data.toList = false ∧ e = .returned (.tuple #[.slice none 0 0, .bool false])) ∨
   (Scan.lineOk s.data.toList = true ∧ ∃ v, e = .returned (.tuple #[v, .bool true]) ∧ w'.ownsRow w.heap.size 9 1 v (Cut.cuts 32 s.data.toList).length ((Cut.cuts 32 s.data.toList).map sv)))
set_option maxHeartbeats 2000000 in
set_option maxRecDepth 100000 in
theorem line_any (s : ByteArray) (hs : s.size ≤ 1099511627776) (w : World) :
    Calls Tryz.prog 25 #[.string s] w (LinePost s w) := by
  have hcl := Cut.cuts_length 32 s.data.toList
  have hcount : s.data.toList.count 32 ≤ s.size := by rw [← bal_length s]; exact List.count_le_length
  go_enter Tryz.func25, Tryz.ntmps25
  go_wp2_with fail
  refine (split_any s 32 hs _).mono ?_
  rintro e w1 ⟨v, rfl, hB1, hown⟩
  obtain ⟨g, cap, rfl, hg1, hg2⟩ := own_some hown (by omega)
  obtain ⟨n, hn⟩ : ∃ n, n = (Cut.cuts 32 s.data.toList).length := ⟨_, rfl⟩
  rw [← hn] at hown hcl ⊢
  have HN := Lib.hid hn
  have HOW := Lib.hid hown
  have hnb : n ≤ 1099511627777 := by omega
  clear hn hown hcl hcount
  go_wp2
  go_loopw [5] (fun p wr => ∃ k : Nat, p = .int .i64 k ∧ k ≤ n ∧ (∀ c ∈ (Cut.cuts 32 s.data.toList).take k, Scan.isW c = true) ∧ wr = w1) (fun p _ => n - (intOf p).toNat)
  case atStart => exact ⟨0, rfl, by omega, fun c h => by simp at h, rfl⟩
  case round =>
    obtain ⟨k, rfl, hk, hall, rfl⟩ := hrel
    have HA := Lib.hid hall
    clear hall
    by_cases hkl : k < n
    · obtain ⟨x, hx⟩ : ∃ x, (Cut.cuts 32 s.data.toList)[k]? = some x := ⟨_, List.getElem?_eq_getElem (by have := HN.out; omega)⟩
      have e1 : wr.cell? ⟨g, k, none⟩ = some (.string (bs x)) := by
        rw [HOW.out.cellAt k (by omega), List.getElem?_map, hx]; rfl
      have hxl : (bs x).size ≤ 9223372036854775807 := by
        have := Cut.cuts_le 32 _ x (List.mem_of_getElem? hx)
        rw [bal_length] at this
        show x.toArray.size ≤ _
        simp
        omega
      have HX := Lib.hid hx
      have HXL := Lib.hid hxl
      clear hx hxl
      by_cases hw : Scan.isW x = true
      · go_wp2_with fail
        refine (isWord_ref x HXL.out _).mono ?_
        rintro e w2 ⟨rfl, rfl⟩
        rw [hw]
        go_wp2
        go_roundw
        case rel => exact ⟨k + 1, by go_num, by omega, all_take_next HA.out HX.out hw, trivial⟩
        case measure => simp [intOf]; omega
      · have hf : Scan.isW x = false := by simpa using hw
        have HF := Lib.hid (all_no HX.out hf)
        go_wp2_with fail
        refine (isWord_ref x HXL.out _).mono ?_
        rintro e w2 ⟨rfl, rfl⟩
        rw [hf]
        go_wp2
        go_returns
        exact ⟨hB1, Or.inl ⟨HF.out, rfl⟩⟩
    · have HF := Lib.hid (all_take_full HA.out (by have := HN.out; omega))
      go_wp2
      go_returns
      exact ⟨hB1, Or.inr ⟨HF.out, _, rfl, by rw [← HN.out]; exact HOW.out⟩⟩
end Go.Proofs.YtjiifieafnjpgaaGreatDoor
