/- A disk's paths: the walks. -/
import Derived.Test.YtdogacgpfnolfaaGreatDoorChecked
import Derived.Test.YtdogacgpfnolfaaGreatDoorShelf
import Derived.Test.YtdogacgpfnolfaaGreatDoorNum
import Derived.Test.YtdogacgpfnolfaaGreatDoorFiles
import Derived.WalkKit
import Derived.Handy
import Derived.Lib.SplitLaws
import Derived.Laws.IdiomStrings
import Derived.Lib.Hide
import Derived.Lib.Builder
namespace Go.Proofs.YtdogacgpfnolfaaGreatDoor
open Go.RowKit
set_option linter.unusedSimpArgs false
set_option linter.unusedVariables false
theorem str_empty {s : ByteArray} (h : s.size = 0) : s = ⟨#[]⟩ := by
  obtain ⟨⟨l⟩⟩ := s
  have : l = [] := List.length_eq_zero_iff.1 h
  rw [this]
theorem str_eq_lit (x : ByteArray) (l : List UInt8) : (x.toList == l) = decide (x.data.toList = l) := by
  rw [ByteArray.toList_eq]
  by_cases h : x.data.toList = l
  · rw [h, decide_eq_true rfl]; exact beq_self_eq_true _
  · rw [beq_eq_false_iff_ne.2 h, decide_eq_false h]
theorem byte_at (s : ByteArray) {i : Nat} (h : i < s.size) : s.data.toList[i]? = some s[i] := by
  have h' : i < s.data.toList.length := by rw [show s.data.toList.length = s.size by simp]; exact h
  rw [List.getElem?_eq_getElem h']
  rfl
/-- What a call finds: bytealg's MaxLen. -/
def Env (w : World) : Prop := ∃ m : Int, w.cell? ⟨0, 0, none⟩ = some (.int .i64 m)
theorem size_of_cell {w : World} {b o : Nat} {v : Value} (h : w.cell? ⟨b, o, none⟩ = some v) : b < w.heap.size := by
  refine Decidable.byContradiction fun hh => ?_
  unfold World.cell? at h
  rw [Array.getElem?_eq_none (by simpa using hh)] at h
  exact absurd h (by simp)
theorem Env.below {B : Nat} {w w' : World} (h : Env w) (hb : Below B w w') (hB : w.heap.size ≤ B) : Env w' := by
  obtain ⟨m, hm⟩ := h
  exact ⟨m, by rw [hb.cell (p := ⟨0, 0, none⟩) (Nat.lt_of_lt_of_le (size_of_cell hm) hB)]; exact hm⟩
namespace Disk
theorem partOk_no {l : List UInt8} {k : Nat} {c : UInt8} (hc : l[k]? = some c) (h : letterP c = false) : partOk l = false := by
  have : l.all letterP = false := by rw [List.all_eq_false]; exact ⟨c, List.mem_of_getElem? hc, by simp [h]⟩
  unfold partOk
  rw [this]
  simp
theorem letterP_iff {c : UInt8} : letterP c = true ↔ (97 ≤ c.toNat ∧ c.toNat ≤ 122) ∨ (48 ≤ c.toNat ∧ c.toNat ≤ 57) ∨ c.toNat = 46 ∨ c.toNat = 45 := by
  unfold letterP
  simp only [Bool.or_eq_true, Bool.and_eq_true, decide_eq_true_eq]
end Disk
set_option maxHeartbeats 4000000 in
set_option maxRecDepth 100000 in
theorem part_any (s : ByteArray) (hs : s.size ≤ 9223372036854775807) (w : World) :
    Calls Tryz.prog 73 #[.string s] w fun e w' => e = .returned (.bool (Disk.partOk s.data.toList)) ∧ Below w.heap.size w w' := by
  have hl : s.data.toList.length = s.size := by simp
  by_cases h0 : s.size < 1
  · have HP : Hid (Disk.partOk s.data.toList = false) := Lib.hid (by rw [str_empty (s := s) (by omega)]; rfl)
    have q0 : ((s.size : Int) < 1) := by omega
    clear hl
    go_enter Tryz.func73, Tryz.ntmps73
    go_wp2
    go_returns
    exact ⟨by rw [HP.out]; rfl, Below.refl _ _⟩
  have q0 : ¬ ((s.size : Int) < 1) := by omega
  by_cases h24 : 24 < s.size
  · have HP : Hid (Disk.partOk s.data.toList = false) := Lib.hid (by unfold Disk.partOk; rw [decide_eq_false (p := s.data.toList.length ≤ 24) (by omega)]; simp)
    have q1 : ((24 : Int) < (s.size : Int)) := by omega
    clear hl
    go_enter Tryz.func73, Tryz.ntmps73
    go_wp2
    go_returns
    exact ⟨by rw [HP.out]; rfl, Below.refl _ _⟩
  have q1 : ¬ ((24 : Int) < (s.size : Int)) := by omega
  have e1 := str_eq_lit s [46]
  have e2 := str_eq_lit s [46, 46]
  by_cases hd : s.data.toList = [46]
  · have HP : Hid (Disk.partOk s.data.toList = false) := Lib.hid (by rw [hd]; rfl)
    rw [decide_eq_true hd] at e1
    clear hl hd e2
    go_enter Tryz.func73, Tryz.ntmps73
    go_wp2
    go_returns
    exact ⟨by rw [HP.out]; rfl, Below.refl _ _⟩
  rw [decide_eq_false hd] at e1
  by_cases hdd : s.data.toList = [46, 46]
  · have HP : Hid (Disk.partOk s.data.toList = false) := Lib.hid (by rw [hdd]; rfl)
    rw [decide_eq_true hdd] at e2
    clear hl hd hdd
    go_enter Tryz.func73, Tryz.ntmps73
    go_wp2
    go_returns
    exact ⟨by rw [HP.out]; rfl, Below.refl _ _⟩
  rw [decide_eq_false hdd] at e2
  have HOK : Hid (Disk.partOk s.data.toList = s.data.toList.all Disk.letterP) := Lib.hid (by
    unfold Disk.partOk
    rw [decide_eq_true hd, decide_eq_true hdd, decide_eq_true (p := s.data.toList.length ≤ 24) (by omega)]
    cases hc : s.data.toList with
    | nil => rw [hc] at hl; simp at hl; omega
    | cons a r => simp)
  have HL := Lib.hid hl
  clear hl hd hdd
  have hcv := run_bytes_of_string (P := Tryz.prog) w 9 90 5 s Tryz.underlying9 Tryz.underlying90 Tryz.underlying5
  obtain ⟨cp, hcp⟩ : ∃ x, x = grownCap w s.size 0 5 := ⟨_, rfl⟩
  rw [← hcp] at hcv
  clear hcp
  obtain ⟨W0, hW0⟩ : ∃ W0, W0 = w.drew.alloc (.cells (bytesRow s cp) 5 ((bytesRow s cp).size, (bytesRow s cp).size + 1)) := ⟨_, rfl⟩
  rw [← hW0] at hcv
  have HC : Hid (∀ i (h : i < s.size), W0.cell? ⟨w.heap.size, i, none⟩ = some (.int .u8 s[i].toNat)) := Lib.hid (fun i h => by
    rw [hW0]
    have := bytesRow_at s cp i h
    have h : (w.drew.alloc (.cells (bytesRow s cp) 5 ((bytesRow s cp).size, (bytesRow s cp).size + 1))).heap[w.heap.size]? = some (.cells (bytesRow s cp) 5 ((bytesRow s cp).size, (bytesRow s cp).size + 1)) := by
      show (w.heap.push _)[w.heap.size]? = _
      simp
    have e := Go.Lib.cell_of_heap h i
    exact e.trans this)
  have hB : Below w.heap.size w W0 := by rw [hW0]; exact (Below.refl _ w).drew.alloc (Nat.le_refl _) _
  clear hW0
  go_enter Tryz.func73, Tryz.ntmps73
  go_wp2
  go_loopw [24] (fun p wr => ∃ i : Nat, p = .int .i64 i ∧ i ≤ s.size ∧ (s.data.toList.take i).all Disk.letterP = true ∧ wr = W0) (fun p _ => s.size - (intOf p).toNat)
  case atStart => exact ⟨0, rfl, by omega, rfl, rfl⟩
  case round =>
    obtain ⟨i, rfl, hi, hall, rfl⟩ := hrel
    have HALL := Lib.hid hall
    clear hall
    by_cases his : i < s.size
    · have hc := byte_at s his
      have hcell := HC.out i his
      have h256 := s[i].toNat_lt
      obtain ⟨c, hcc⟩ : ∃ c, c = s[i] := ⟨_, rfl⟩
      rw [← hcc] at hc hcell h256
      have HNX : Hid (Disk.letterP c = true → (s.data.toList.take (i + 1)).all Disk.letterP = true) := Lib.hid (fun h => by
        rw [List.take_add_one, hc, List.all_append, HALL.out]; simp [h])
      have HNO : Hid (Disk.letterP c = false → Disk.partOk s.data.toList = false) := Lib.hid (fun h => Disk.partOk_no hc h)
      clear hcc hc
      obtain ⟨x, hx⟩ : ∃ x, x = c.toNat := ⟨_, rfl⟩
      rw [← hx] at hcell h256
      have HL1 : Hid ((97 ≤ x ∧ x ≤ 122) ∨ (48 ≤ x ∧ x ≤ 57) ∨ x = 46 ∨ x = 45 → Disk.letterP c = true) := Lib.hid (by rw [hx]; exact Disk.letterP_iff.2)
      have HL2 : Hid (¬ ((97 ≤ x ∧ x ≤ 122) ∨ (48 ≤ x ∧ x ≤ 57) ∨ x = 46 ∨ x = 45) → Disk.letterP c = false) := Lib.hid (fun h => by
        cases hh : Disk.letterP c with
        | false => rfl
        | true => exact absurd (Disk.letterP_iff.1 hh) (by rw [← hx]; exact h))
      clear hx
      by_cases g1 : 97 ≤ x
      · by_cases g2 : x ≤ 122
        · have HK := Lib.hid (HNX.out (HL1.out (Or.inl ⟨g1, g2⟩)))
          have t1 : ¬ ((x : Int) < 97) := by omega
          have t2 : ¬ ((122 : Int) < (x : Int)) := by omega
          go_wp2
          go_roundw
          case rel => exact ⟨i + 1, by go_num, by omega, HK.out, trivial⟩
          case measure => simp [intOf]; omega
        · have HK := Lib.hid (HNO.out (HL2.out (by omega)))
          have t1 : ¬ ((x : Int) < 97) := by omega
          have t2 : ((122 : Int) < (x : Int)) := by omega
          have t3 : ¬ ((x : Int) < 48) := by omega
          have t4 : ((57 : Int) < (x : Int)) := by omega
          have t5 : ((x : Int) != 46) = true := by rw [bne_iff_ne]; omega
          have t6 : ((x : Int) != 45) = true := by rw [bne_iff_ne]; omega
          go_wp2
          go_returns
          exact ⟨by rw [HK.out]; rfl, hB⟩
      · have t1 : ((x : Int) < 97) := by omega
        by_cases g2 : 48 ≤ x
        · by_cases g3 : x ≤ 57
          · have HK := Lib.hid (HNX.out (HL1.out (Or.inr (Or.inl ⟨g2, g3⟩))))
            have t3 : ¬ ((x : Int) < 48) := by omega
            have t4 : ¬ ((57 : Int) < (x : Int)) := by omega
            go_wp2
            go_roundw
            case rel => exact ⟨i + 1, by go_num, by omega, HK.out, trivial⟩
            case measure => simp [intOf]; omega
          · have HK := Lib.hid (HNO.out (HL2.out (by omega)))
            have t3 : ¬ ((x : Int) < 48) := by omega
            have t4 : ((57 : Int) < (x : Int)) := by omega
            have t5 : ((x : Int) != 46) = true := by rw [bne_iff_ne]; omega
            have t6 : ((x : Int) != 45) = true := by rw [bne_iff_ne]; omega
            go_wp2
            go_returns
            exact ⟨by rw [HK.out]; rfl, hB⟩
        · have t3 : ((x : Int) < 48) := by omega
          by_cases g3 : x = 46
          · have HK := Lib.hid (HNX.out (HL1.out (Or.inr (Or.inr (Or.inl g3)))))
            have t5 : ((x : Int) != 46) = false := by rw [bne_eq_false_iff_eq]; omega
            clear g3
            go_wp2
            go_roundw
            case rel => exact ⟨i + 1, by go_num, by omega, HK.out, trivial⟩
            case measure => simp [intOf]; omega
          · have t5 : ((x : Int) != 46) = true := by rw [bne_iff_ne]; omega
            by_cases g4 : x = 45
            · have HK := Lib.hid (HNX.out (HL1.out (Or.inr (Or.inr (Or.inr g4)))))
              have t6 : ((x : Int) != 45) = false := by rw [bne_eq_false_iff_eq]; omega
              clear g4
              go_wp2
              go_roundw
              case rel => exact ⟨i + 1, by go_num, by omega, HK.out, trivial⟩
              case measure => simp [intOf]; omega
            · have HK := Lib.hid (HNO.out (HL2.out (by omega)))
              have t6 : ((x : Int) != 45) = true := by rw [bne_iff_ne]; omega
              go_wp2
              go_returns
              exact ⟨by rw [HK.out]; rfl, hB⟩
    · have HF : Hid (Disk.partOk s.data.toList = true) := Lib.hid (by
        rw [HOK.out]
        have := HALL.out
        rwa [List.take_of_length_le (by rw [HL.out]; omega)] at this)
      go_wp2
      go_returns
      exact ⟨by rw [HF.out]; rfl, hB⟩
theorem Split_any (s : ByteArray) (d : UInt8) (hs : s.size < 4294967281) (w : World) (hE : Env w) :
    Calls Tryz.prog 72 #[.string s, .string ⟨#[d]⟩] w fun e w' =>
      e = .returned (.slice (some ⟨w.heap.size, 0, none⟩) (Go.Lib.countB s ⟨#[d]⟩ + 1) (Go.Lib.countB s ⟨#[d]⟩ + 1)) ∧ w' = w.alloc (.cells ((Go.Lib.splitB ⟨#[d]⟩ 0 (Go.Lib.countB s ⟨#[d]⟩) s).map Value.string).toArray 9) := by
  obtain ⟨m, hm⟩ := hE
  exact Tryz.strings_Split s ⟨#[d]⟩ m w hs hm (Nat.le_refl 1)
def pieces (s : ByteArray) : List ByteArray := Go.Lib.splitB ⟨#[47]⟩ 0 (Go.Lib.countB s ⟨#[47]⟩) s
theorem pieces_length (s : ByteArray) : (pieces s).length = Go.Lib.countB s ⟨#[47]⟩ + 1 := Go.Lib.splitB_all ⟨#[47]⟩ (by decide) 0 _ s rfl
theorem pieces_size (r x : ByteArray) (h : x ∈ pieces r) : x.size ≤ r.size := by
  have h1 : x.data.toList ∈ Cut.cuts 47 r.data.toList := by
    rw [← Cut.splitB_cuts]
    exact List.mem_map.2 ⟨x, h, rfl⟩
  have := Cut.cuts_le 47 _ _ h1
  simpa using this
theorem pieces_all (s : ByteArray) (f : List UInt8 → Bool) : (Cut.cuts 47 s.data.toList).all f = (pieces s).all fun x => f x.data.toList := by
  rw [← Cut.splitB_cuts, List.all_map]
  rfl
theorem Split47 (s : ByteArray) (hs : s.size < 4294967281) (w : World) (hE : Env w) :
    Calls Tryz.prog 72 #[.string s, .string ⟨#[47]⟩] w fun e w' =>
      e = .returned (.slice (some ⟨w.heap.size, 0, none⟩) (Go.Lib.countB s ⟨#[47]⟩ + 1) (Go.Lib.countB s ⟨#[47]⟩ + 1)) ∧ w' = w.alloc (.cells ((pieces s).map Value.string).toArray 9) := Split_any s 47 hs w hE
theorem pathOk_cons (c : UInt8) (r : List UInt8) : Disk.pathOk (c :: r) = (decide (c = 47) && (decide ((c :: r).length ≤ 4096) && (Cut.cuts 47 r).all Disk.partOk)) := rfl
set_option maxHeartbeats 4000000 in
set_option maxRecDepth 100000 in
theorem below_any (s : ByteArray) (hs : s.size ≤ 9223372036854775807) (w : World) (hE : Env w) :
    Calls Tryz.prog 45 #[.string s] w fun e w' => e = .returned (.bool (Disk.pathOk s.data.toList)) ∧ Below w.heap.size w w' := by
  have hl : s.data.toList.length = s.size := by simp
  by_cases h4 : 4096 < s.size
  · have HP : Hid (Disk.pathOk s.data.toList = false) := Lib.hid (by
      cases hc : s.data.toList with
      | nil => rfl
      | cons c r => rw [pathOk_cons, ← hc, decide_eq_false (p := s.data.toList.length ≤ 4096) (by omega)]; simp)
    have q1 : ((4096 : Int) < (s.size : Int)) := by omega
    clear hl
    go_enter Tryz.func45, Tryz.ntmps45
    go_wp2
    go_returns
    exact ⟨by rw [HP.out]; rfl, Below.refl _ _⟩
  have q1 : ¬ ((4096 : Int) < (s.size : Int)) := by omega
  have HPRE : Hid (∀ w, Calls Tryz.prog 66 #[.string s, .string ⟨#[47]⟩] w fun e w' => e = .returned (.bool (Go.Lib.hasPrefix s.data.toList [47])) ∧ w' = w) := Lib.hid (fun w => Tryz.strings_HasPrefix s ⟨#[47]⟩ w)
  cases hp : Go.Lib.hasPrefix s.data.toList [47]
  · have HP : Hid (Disk.pathOk s.data.toList = false) := Lib.hid (by
      cases hc : s.data.toList with
      | nil => rfl
      | cons c r =>
        rw [pathOk_cons, decide_eq_false (p := c = 47)]
        · rfl
        · rintro rfl; rw [hc] at hp; exact absurd hp (by simp [Go.Lib.hasPrefix]))
    rw [hp] at HPRE
    clear hl hp
    go_enter Tryz.func45, Tryz.ntmps45
    go_wp2_with fail
    refine (HPRE.out _).mono ?_
    rintro e w1 ⟨rfl, rfl⟩
    go_wp2
    go_returns
    exact ⟨by rw [HP.out]; rfl, Below.refl _ _⟩
  rw [hp] at HPRE
  obtain ⟨r, hr⟩ : ∃ r, r = s.extract 1 s.size := ⟨_, rfl⟩
  have hform : s.data.toList = 47 :: r.data.toList := by
    cases hc : s.data.toList with
    | nil => rw [hc] at hp; exact absurd hp (by simp [Go.Lib.hasPrefix])
    | cons c t =>
      have h47 : c = 47 := by
        rw [hc] at hp
        simp [Go.Lib.hasPrefix] at hp
        exact hp.symm
      have : r.data.toList = t := by
        rw [hr]
        have e : (s.extract 1 s.size).data.toList = (s.data.toList.drop 1) := by
          simp [List.extract]
          rw [List.take_of_length_le]
          rw [List.length_tail, hl]; exact Nat.le_refl _
        rw [e, hc]; rfl
      rw [h47, this]
  have hrs : r.size < s.size := by
    have := congrArg List.length hform
    rw [List.length_cons, hl] at this
    have h2 : r.data.toList.length = r.size := by simp
    omega
  have HP : Hid (Disk.pathOk s.data.toList = (pieces r).all fun x => Disk.partOk x.data.toList) := Lib.hid (by
    rw [hform, pathOk_cons, ← hform, decide_eq_true rfl, decide_eq_true (p := s.data.toList.length ≤ 4096) (by omega), pieces_all]
    rfl)
  have HSP := Lib.hid (Split47 r (by omega))
  have HPL := Lib.hid (pieces_length r)
  have HPS := Lib.hid (pieces_size r)
  have h1s : (1 : Int) ≤ (s.size : Int) := by omega
  have HR := Lib.hid hr
  clear hl hp hform hr
  obtain ⟨N, hN⟩ : ∃ N, N = Go.Lib.countB r ⟨#[47]⟩ + 1 := ⟨_, rfl⟩
  have hNs : N ≤ 4097 := by
    have := Go.Lib.countB_le ⟨#[47]⟩ (by decide) _ r (Nat.le_refl _)
    omega
  rw [← hN] at HSP HPL
  have HN := Lib.hid hN
  clear hN
  go_enter Tryz.func45, Tryz.ntmps45
  go_wp2_with fail
  refine (HPRE.out _).mono ?_
  rintro e w1 ⟨rfl, rfl⟩
  go_wp2_with fail
  rw [← HR.out]
  refine (HSP.out _ hE).mono ?_
  rintro e w2 ⟨rfl, rfl⟩
  obtain ⟨w, rfl⟩ : ∃ x, x = w1 := ⟨w1, rfl⟩
  have hB : Below w.heap.size w (w.alloc (.cells ((pieces r).map Value.string).toArray 9)) := (Below.refl _ w).alloc (Nat.le_refl _) _
  have HC : Hid (∀ (i : Nat) x, (pieces r)[i]? = some x → (w.alloc (.cells ((pieces r).map Value.string).toArray 9)).cell? ⟨w.heap.size, i, none⟩ = some (.string x)) := Lib.hid (fun i x hx => by
    rw [World.cell?_alloc_new]
    simp [hx])
  obtain ⟨W0, hW0⟩ : ∃ W0, W0 = w.alloc (.cells ((pieces r).map Value.string).toArray 9) := ⟨_, rfl⟩
  rw [← hW0] at hB HC ⊢
  clear hW0
  go_wp2
  go_loopw [17] (fun p wr => ∃ i : Nat, p = .int .i64 i ∧ i ≤ N ∧ ((pieces r).take i).all (fun x => Disk.partOk x.data.toList) = true ∧ Below W0.heap.size W0 wr) (fun p _ => N - (intOf p).toNat)
  case atStart => exact ⟨0, rfl, by omega, rfl, Below.refl _ _⟩
  case round =>
    obtain ⟨i, rfl, hi, hall, hBr⟩ := hrel
    have HALL := Lib.hid hall
    clear hall
    have hzW := hB.size
    by_cases hiN : i < N
    · obtain ⟨x, hx⟩ : ∃ x, (pieces r)[i]? = some x := ⟨_, List.getElem?_eq_getElem (by rw [HPL.out]; exact hiN)⟩
      have hc := HC.out i x hx
      have hcw : w.heap.size < W0.heap.size := size_of_cell hc
      rw [← hBr.cell (p := ⟨w.heap.size, i, none⟩) (by show w.heap.size < _; omega)] at hc
      have hxs := HPS.out x (List.mem_of_getElem? hx)
      have HPA := Lib.hid (part_any x (by omega))
      have HNX : Hid (Disk.partOk x.data.toList = true → ((pieces r).take (i + 1)).all (fun x => Disk.partOk x.data.toList) = true) := Lib.hid (fun h => by
        rw [List.take_add_one, hx, List.all_append, HALL.out]; simp [h])
      have HNO : Hid (Disk.partOk x.data.toList = false → Disk.pathOk s.data.toList = false) := Lib.hid (fun h => by
        rw [HP.out, List.all_eq_false]; exact ⟨x, List.mem_of_getElem? hx, by simp [h]⟩)
      clear hx
      cases hok : Disk.partOk x.data.toList
      · have HF := Lib.hid (HNO.out hok)
        rw [hok] at HPA
        clear hok
        go_wp2_with fail
        refine (HPA.out _).mono ?_
        rintro e w2 ⟨rfl, hb2⟩
        go_wp2
        go_returns
        exact ⟨by rw [HF.out]; rfl, hB.trans ((hBr.trans (hb2.mono hBr.size)).mono hzW)⟩
      · have HK := Lib.hid (HNX.out hok)
        rw [hok] at HPA
        clear hok
        go_wp2_with fail
        refine (HPA.out _).mono ?_
        rintro e w2 ⟨rfl, hb2⟩
        go_wp2
        go_roundw
        case rel => exact ⟨i + 1, by go_num, by omega, HK.out, hBr.trans (hb2.mono hBr.size)⟩
        case measure => simp [intOf]; omega
    · have HF : Hid (Disk.pathOk s.data.toList = true) := Lib.hid (by
        rw [HP.out]
        have := HALL.out
        rwa [List.take_of_length_le (by rw [HPL.out]; omega)] at this)
      go_wp2
      go_returns
      exact ⟨by rw [HF.out]; rfl, hB.trans (hBr.mono hzW)⟩
set_option maxHeartbeats 1000000 in
set_option maxRecDepth 100000 in
theorem parent_any (s : ByteArray) (hs : s.size < 4611686018427387904) (w : World) :
    Calls Tryz.prog 46 #[.string s] w fun e w' => e = .returned (.string (bs (Disk.parent s.data.toList))) ∧ w' = w := by
  have HLI : Hid (∀ w, Calls Tryz.prog 57 #[.string s, .int .u8 47] w fun e w' => e = .returned (.int .i64 (Go.Lib.lastIndexByte s 47)) ∧ w' = w) := Lib.hid (fun w => Tryz.strings_LastIndexByte s 47 hs w)
  have hp := Disk.parTo_eq s s.size (Nat.le_refl _)
  have hle : Go.Lib.lastIndexByte s 47 ≤ s.size := by
    rcases Go.Lib.lastIdx_spec s 47 s.size with ⟨h, _⟩ | ⟨i, h1, h2, _⟩
    · show Go.Lib.lastIdx s 47 s.size ≤ _; omega
    · show Go.Lib.lastIdx s 47 s.size ≤ _; omega
  have hl : s.data.toList.length = s.size := by simp
  have HD : Hid (Disk.parent s.data.toList = if Go.Lib.lastIndexByte s 47 ≤ 0 then [47] else s.data.toList.take (Go.Lib.lastIndexByte s 47).toNat) := Lib.hid (by
    unfold Disk.parent
    rw [hl]
    exact hp.symm)
  obtain ⟨k, hk⟩ : ∃ k, k = Go.Lib.lastIndexByte s 47 := ⟨_, rfl⟩
  rw [← hk] at HLI HD hle
  clear hk hp hl
  by_cases h0 : k ≤ 0
  · have HF := HD.out
    rw [if_pos h0] at HF
    have HFF := Lib.hid HF
    clear HF
    go_enter Tryz.func46, Tryz.ntmps46
    go_wp2_with fail
    refine (HLI.out _).mono ?_
    rintro e w1 ⟨rfl, rfl⟩
    go_wp2
    go_returns
    exact ⟨by rw [HFF.out]; rfl, rfl⟩
  · have HF := HD.out
    rw [if_neg h0] at HF
    have hX : s.extract 0 k.toNat = bs (s.data.toList.take k.toNat) := by
      rw [← bs_of (s.extract 0 k.toNat)]
      congr 1
      simp [List.extract]
    rw [← HF] at hX
    have HX := Lib.hid hX
    have h1 : (0 : Int) ≤ k := by omega
    clear HF hX
    go_enter Tryz.func46, Tryz.ntmps46
    go_wp2_with fail
    refine (HLI.out _).mono ?_
    rintro e w1 ⟨rfl, rfl⟩
    go_wp2
    go_returns
    exact ⟨by rw [← HX.out]; rfl, rfl⟩
end Go.Proofs.YtdogacgpfnolfaaGreatDoor
