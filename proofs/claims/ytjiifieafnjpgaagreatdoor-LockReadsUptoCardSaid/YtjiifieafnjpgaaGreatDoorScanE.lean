/- The document's Lines: the same answer. -/
import Derived.Test.YtjiifieafnjpgaaGreatDoorChecked
import Derived.Test.YtjiifieafnjpgaaGreatDoorScC
import Derived.Handy
import Derived.WalkMore
import Derived.WalkLawsBesides
import Derived.WalkSpells
import Derived.Outline
import Derived.Lib.Hide
import Derived.BigQuiet
namespace Go.Proofs.YtjiifieafnjpgaaGreatDoor
open Go.RowKit
set_option linter.unusedSimpArgs false
set_option linter.unusedVariables false
theorem Below.grow {w w' : World} (h : Below w.heap.size w w') : w.grownBy w' none := ⟨h.os, h.tape, h.output, h.size, fun k hk _ => h.block k hk⟩
namespace Scan
open Cut
def comb (done : List (List (List UInt8))) : Nat ⊕ List (List (List UInt8)) → Nat ⊕ List (List (List UInt8))
  | .inl n => .inl n
  | .inr ls => .inr (done ++ ls)
/-- Where a run of the document's Lines stands. -/
structure Ln (P : List (List UInt8)) (k : Nat) (done : List (List (List UInt8))) : Prop where
  eq : scanL 1 P = comb done (scanL (k + 1) (P.drop k))
  le : k < P.length
  len : done.length = k
theorem Ln.start {P : List (List UInt8)} (h : 0 < P.length) : Ln P 0 [] := by
  refine ⟨?_, h, rfl⟩
  rw [List.drop_zero]
  cases scanL (0 + 1) P <;> rfl
theorem Ln.next {P k done x} (h : Ln P k done) (hk : k + 1 < P.length) (hx : P[k]? = some x) (hl : lineOk x = true) : Ln P (k + 1) (done ++ [cuts 32 x]) := by
  refine ⟨?_, hk, by simp [h.len]⟩
  have h1 := List.getElem?_eq_some_iff.1 hx
  obtain ⟨q, r, hqr⟩ : ∃ q r, P.drop (k + 1) = q :: r := by
    cases hd : P.drop (k + 1) with
    | nil => have := congrArg List.length hd; simp at this; omega
    | cons q r => exact ⟨q, r, rfl⟩
  rw [h.eq, List.drop_eq_getElem_cons h1.1, h1.2, hqr]
  simp only [scanL, hl, if_true]
  cases scanL (k + 1 + 1) (q :: r) with
  | inl n => rfl
  | inr ls => simp [comb]
theorem Ln.bad {P k done x} (h : Ln P k done) (hk : k + 1 < P.length) (hx : P[k]? = some x) (hl : lineOk x = false) : scanL 1 P = .inl (k + 1) := by
  have h1 := List.getElem?_eq_some_iff.1 hx
  obtain ⟨q, r, hqr⟩ : ∃ q r, P.drop (k + 1) = q :: r := by
    cases hd : P.drop (k + 1) with
    | nil => have := congrArg List.length hd; simp at this; omega
    | cons q r => exact ⟨q, r, rfl⟩
  rw [h.eq, List.drop_eq_getElem_cons h1.1, h1.2, hqr]
  simp only [scanL, hl]
  rfl
theorem Ln.last {P k done x} (h : Ln P k done) (hk : ¬ k + 1 < P.length) (hx : P[P.length - 1]? = some x) : scanL 1 P = if x.isEmpty then .inr done else .inl P.length := by
  have hl := h.le
  have hkk : k = P.length - 1 := by omega
  rw [← hkk] at hx
  have h1 := List.getElem?_eq_some_iff.1 hx
  rw [h.eq, List.drop_eq_getElem_cons h1.1, h1.2]
  have hd : P.drop (k + 1) = [] := List.drop_eq_nil_iff.2 (by omega)
  rw [hd]
  simp only [scanL]
  cases x with
  | nil => simp [comb]
  | cons c r => simp [comb]; omega
end Scan
theorem sv_eq_empty (x : List UInt8) : ((bs x).toList == ([] : List UInt8)) = x.isEmpty := by
  rw [bs_toList]; cases x <;> rfl
set_option maxHeartbeats 4000000 in
set_option maxRecDepth 100000 in
theorem rlines_any (s : ByteArray) (most : Int) (hs : s.size ≤ 2097152) (hm : (s.size : Int) ≤ most) (w : World) :
    Calls Tryz.prog 12 #[.string s, .int .i64 most] w (LinesPost s w) := by
  obtain ⟨i1, hi1, hy0, hy1, hy2⟩ := info_parts infoStrs
  have hcl := Cut.cuts_length 10 s.data.toList
  have hcount : s.data.toList.count 10 ≤ s.size := by rw [← bal_length s]; exact List.count_le_length
  go_enter Tryz.func12, Tryz.ntmps12
  go_wp2_with fail
  refine (split_any s 10 (by omega) _).mono ?_
  rintro e w1 ⟨v0, rfl, hB1, hown0⟩
  obtain ⟨P, hP⟩ : ∃ P, P = Cut.cuts 10 s.data.toList := ⟨_, rfl⟩
  have hspec : Scan.spec s.data.toList = Scan.scanL 1 P := by rw [hP]; rfl
  have hple : ∀ p ∈ P, p.length ≤ s.size := by
    rw [hP]; intro p hp; have := Cut.cuts_le 10 _ p hp; rwa [bal_length] at this
  rw [← hP] at hown0 hcl
  obtain ⟨g0, cap0, rfl, hg1, hg2⟩ := own_some hown0 (by omega)
  obtain ⟨n, hn⟩ : ∃ n, n = P.length := ⟨_, rfl⟩
  rw [← hn] at hown0 hcl ⊢
  have hn1 : 0 < n := by omega
  have hnb : n ≤ 2097153 := by omega
  have HN := Lib.hid hn
  have HSPEC := Lib.hid hspec
  have HPLE := Lib.hid hple
  have HOW0 := Lib.hid hown0
  clear hn hspec hple hown0 hcl hcount hP
  go_wp2
  go_loopw [7, 9] (fun p q wr => ∃ (v : Value) (k : Nat) (done : List (List (List UInt8))) (hs : List (Nat × Nat)), p = v ∧ q = .int .i64 k ∧ Scan.Ln P k done ∧ LinesAt wr w.heap.size wr.heap.size v hs done ∧ wr.ownsRow w.heap.size 9 1 (.slice (some ⟨g0, 0, none⟩) n cap0) n (P.map sv) ∧ Below w.heap.size w wr) (fun _ q _ => n - (intOf q).toNat)
  case atStart => exact ⟨_, 0, [], [], rfl, rfl, Scan.Ln.start (by rw [← HN.out]; exact hn1), Lines.nil _ _ _ _ _, HOW0.out, hB1⟩
  case round =>
    obtain ⟨v, k, done, hds, rfl, rfl, hln, hlines, hrow, hB⟩ := hrel
    have hkn : k < n := by have := hln.le; have := HN.out; omega
    have hlen := hln.len
    obtain ⟨a0, c0, rfl⟩ := own_form hlines.row
    rw [hlen]
    have HLN := Lib.hid hln
    have HLI := Lib.hid hlines
    have HRO := Lib.hid hrow
    have HLE := Lib.hid hlen
    clear hln hlines hrow hlen
    by_cases hkl : k + 1 < n
    · obtain ⟨x, hx⟩ : ∃ x, P[k]? = some x := ⟨_, List.getElem?_eq_getElem (by have := HN.out; omega)⟩
      have e1 : wr.cell? ⟨g0, k, none⟩ = some (.string (bs x)) := by
        rw [HRO.out.cellAt k (by omega), List.getElem?_map, hx]; rfl
      have hxl : (bs x).size ≤ 1099511627776 := by
        have := HPLE.out x (List.mem_of_getElem? hx)
        show x.toArray.size ≤ _
        simp
        omega
      have hxs : (Cut.cuts 32 x).length ≤ 2097153 := by
        have h1 := Cut.cuts_length 32 x
        have h2 : x.count 32 ≤ x.length := List.count_le_length
        have := HPLE.out x (List.mem_of_getElem? hx)
        omega
      have HX := Lib.hid hx
      have HXL := Lib.hid hxl
      clear hx hxl
      go_wp2_with fail
      refine (line_any (bs x) HXL.out _).mono ?_
      rintro e w2 ⟨hb2, ⟨hno, rfl⟩ | ⟨hyes, v2, rfl, hown2⟩⟩
      · have HF := Lib.hid (HLN.out.bad (by rw [← HN.out]; exact hkl) HX.out hno)
        have hB2 : Below w.heap.size w w2 := hB.trans (hb2.mono hB.size)
        clear hno
        go_wp2
        go_returns
        exact LinesPost.bad (by rw [HSPEC.out, HF.out]) hB2
      · rw [bs_list] at hown2
        obtain ⟨g2, cap2, rfl, hg3, hg4⟩ := own_some hown2 (by have := Cut.cuts_length 32 x; omega)
        have hB2 : Below w.heap.size w w2 := hB.trans (hb2.mono hB.size)
        have hz2 := hb2.size
        have HL2 := Lib.hid (HLI.out.kept (Below.grow hb2) (fun g e => by simp at e))
        have HR2 := Lib.hid (HRO.out.kept (Below.grow hb2) (Or.inr (by simp [Value.ownBlock])))
        have HV2 := HL2.out.row
        rw [HLE.out] at HV2
        have HV := Lib.hid HV2
        have HY := Lib.hid hyes
        have HO2 := Lib.hid hown2
        clear HV2 hyes hown2
        go_wp2_with (at_builtin; refine wpList_append_own _ rfl _ _ 31 rfl w.heap.size 34 i1 (.slice none 0 0) 1 24 Tryz.underlying31 hi1 hy0 hy1 hy2 rfl (by decide) _ _ _ rfl (HV.out.alloc _) ⟨w2.heap.size, 0, none⟩ 1 1 [.slice (some ⟨g2, 0, none⟩) (Cut.cuts 32 x).length cap2] rfl rfl (cell_one_new _ _ _) (fun x hx => by simp at hx; subst hx; rfl) (by unfold maxLen; omega) (by omega) (by have := hB2.size; simp; omega) ?_; intro v3 w3 hown3 hgrow3 hnil3)
        have HS := Lines.snoc (by decide) HL2.out (g := g2) (cap := cap2) (l := Cut.cuts 32 x) HO2.out hB.size (World.grownBy_alloc _ _ _) (by rw [HLE.out]; exact hown3) (by rw [HLE.out]; exact hgrow3)
        have hB3 : Below w.heap.size w w3 := Below.grown (hB2.alloc hB2.size _) hgrow3 (by have := hB2.size; simp; omega) (fun g hg => (HV.out.lt g hg).1)
        have hgr : (w2.alloc (.cells #[.slice (some ⟨g2, 0, none⟩) (Cut.cuts 32 x).length cap2] 34)).grownBy w3 (Value.slice a0 k c0).ownBlock := hgrow3
        have HR3 := (HR2.out.alloc (.cells #[.slice (some ⟨g2, 0, none⟩) (Cut.cuts 32 x).length cap2] 34)).kept hgr (own_apart HR2.out HV.out (by decide))
        go_roundw
        case rel => exact ⟨_, k + 1, _, _, rfl, by go_num, HLN.out.next (by rw [← HN.out]; exact hkl) HX.out HY.out, HS, HR3, hB3⟩
        case measure => simp [intOf]; omega
    · obtain ⟨x, hx⟩ : ∃ x, P[P.length - 1]? = some x := ⟨_, List.getElem?_eq_getElem (by have := HN.out; omega)⟩
      have e1 : wr.cell? ⟨g0, n - 1, none⟩ = some (.string (bs x)) := by
        rw [HRO.out.cellAt (n - 1) (by omega), List.getElem?_map]
        have := HN.out
        rw [← this] at hx
        rw [hx]; rfl
      have hlast := HLN.out.last (by rw [← HN.out]; exact hkl) hx
      have hemp := sv_eq_empty x
      have hnat : (n : Int) - 1 = ((n - 1 : Nat) : Int) := by omega
      clear hx
      cases hxe : x.isEmpty
      · rw [hxe] at hlast hemp
        simp only [Bool.false_eq_true, if_false] at hlast
        have HF := Lib.hid hlast
        clear hlast
        go_wp2
        go_returns
        exact LinesPost.bad (by rw [HSPEC.out, HF.out, HN.out]) hB
      · rw [hxe] at hlast hemp
        simp only [if_true] at hlast
        have HF := Lib.hid hlast
        clear hlast
        go_wp2
        go_returns
        exact LinesPost.good (by rw [HSPEC.out, HF.out]) hB (by have := HLI.out; rw [HLE.out] at this; exact this)
end Go.Proofs.YtjiifieafnjpgaaGreatDoor
