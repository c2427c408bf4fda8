/- The document's disk: paths: the walks. -/
import Derived.Test.YtdogacgpfnolfaaGreatDoorDiskW2
import Derived.Test.YtdogacgpfnolfaaGreatDoorFiles
namespace Go.Proofs.YtdogacgpfnolfaaGreatDoor
open Go.RowKit
set_option linter.unusedSimpArgs false
set_option linter.unusedVariables false
set_option maxHeartbeats 4000000 in
set_option maxRecDepth 100000 in
theorem rpart_any (s : ByteArray) (hs : s.size ≤ 9223372036854775807) (w : World) :
    Calls Tryz.prog 71 #[.string s] w fun e w' => e = .returned (.bool (Disk.partOk s.data.toList)) ∧ w' = w := by
  have hl : s.data.toList.length = s.size := by simp
  by_cases h0 : s.size < 1
  · have HP : Hid (Disk.partOk s.data.toList = false) := Lib.hid (by rw [str_empty (s := s) (by omega)]; rfl)
    have q0 : ((s.size : Int) < 1) := by omega
    clear hl
    go_enter Tryz.func71, Tryz.ntmps71
    go_wp2
    go_returns
    exact ⟨by rw [HP.out]; rfl, rfl⟩
  have q0 : ¬ ((s.size : Int) < 1) := by omega
  by_cases h24 : 24 < s.size
  · have HP : Hid (Disk.partOk s.data.toList = false) := Lib.hid (by unfold Disk.partOk; rw [decide_eq_false (p := s.data.toList.length ≤ 24) (by omega)]; simp)
    have q1 : ((24 : Int) < (s.size : Int)) := by omega
    clear hl
    go_enter Tryz.func71, Tryz.ntmps71
    go_wp2
    go_returns
    exact ⟨by rw [HP.out]; rfl, rfl⟩
  have q1 : ¬ ((24 : Int) < (s.size : Int)) := by omega
  have e1 := str_eq_lit s [46]
  have e2 := str_eq_lit s [46, 46]
  by_cases hd : s.data.toList = [46]
  · have HP : Hid (Disk.partOk s.data.toList = false) := Lib.hid (by rw [hd]; rfl)
    rw [decide_eq_true hd] at e1
    clear hl hd e2
    go_enter Tryz.func71, Tryz.ntmps71
    go_wp2
    go_returns
    exact ⟨by rw [HP.out]; rfl, rfl⟩
  rw [decide_eq_false hd] at e1
  by_cases hdd : s.data.toList = [46, 46]
  · have HP : Hid (Disk.partOk s.data.toList = false) := Lib.hid (by rw [hdd]; rfl)
    rw [decide_eq_true hdd] at e2
    clear hl hd hdd
    go_enter Tryz.func71, Tryz.ntmps71
    go_wp2
    go_returns
    exact ⟨by rw [HP.out]; rfl, rfl⟩
  rw [decide_eq_false hdd] at e2
  have HOK : Hid (Disk.partOk s.data.toList = s.data.toList.all Disk.letterP) := Lib.hid (by
    unfold Disk.partOk
    rw [decide_eq_true hd, decide_eq_true hdd, decide_eq_true (p := s.data.toList.length ≤ 24) (by omega)]
    cases hc : s.data.toList with
    | nil => rw [hc] at hl; simp at hl; omega
    | cons a r => simp)
  have HL := Lib.hid hl
  clear hl hd hdd
  go_enter Tryz.func71, Tryz.ntmps71
  go_wp2
  go_loopw [3] (fun p wr => ∃ i : Nat, p = .int .i64 i ∧ i ≤ s.size ∧ (s.data.toList.take i).all Disk.letterP = true ∧ wr = w) (fun p _ => s.size - (intOf p).toNat)
  case atStart => exact ⟨0, rfl, by omega, rfl, rfl⟩
  case round =>
    obtain ⟨i, rfl, hi, hall, rfl⟩ := hrel
    have HALL := Lib.hid hall
    clear hall
    by_cases his : i < s.size
    · have hc := byte_at s his
      have h256 := s[i].toNat_lt
      have HNX : Hid (Disk.letterP s[i] = true → (s.data.toList.take (i + 1)).all Disk.letterP = true) := Lib.hid (fun h => by
        rw [List.take_add_one, hc, List.all_append, HALL.out]; simp [h])
      have HNO : Hid (Disk.letterP s[i] = false → Disk.partOk s.data.toList = false) := Lib.hid (fun h => Disk.partOk_no hc h)
      clear hc
      have HL1 : Hid ((97 ≤ s[i].toNat ∧ s[i].toNat ≤ 122) ∨ (48 ≤ s[i].toNat ∧ s[i].toNat ≤ 57) ∨ s[i].toNat = 46 ∨ s[i].toNat = 45 → Disk.letterP s[i] = true) := Lib.hid Disk.letterP_iff.2
      have HL2 : Hid (¬ ((97 ≤ s[i].toNat ∧ s[i].toNat ≤ 122) ∨ (48 ≤ s[i].toNat ∧ s[i].toNat ≤ 57) ∨ s[i].toNat = 46 ∨ s[i].toNat = 45) → Disk.letterP s[i] = false) := Lib.hid (fun h => by
        cases hh : Disk.letterP s[i] with
        | false => rfl
        | true => exact absurd (Disk.letterP_iff.1 hh) h)
      by_cases g1 : 97 ≤ s[i].toNat ∧ s[i].toNat ≤ 122
      · have HK := Lib.hid (HNX.out (HL1.out (Or.inl g1)))
        have c97 : ((97 : Int) ≤ (s[i].toNat : Int)) := by omega
        have d122 : ((s[i].toNat : Int) ≤ (122 : Int)) := by omega
        have c48 : ((48 : Int) ≤ (s[i].toNat : Int)) := by omega
        have d57 : ¬ ((s[i].toNat : Int) ≤ (57 : Int)) := by omega
        go_wp2
        go_roundw
        case rel => exact ⟨i + 1, by go_num, by omega, HK.out, trivial⟩
        case measure => simp [intOf]; omega
      by_cases g2 : 48 ≤ s[i].toNat ∧ s[i].toNat ≤ 57
      · have HK := Lib.hid (HNX.out (HL1.out (Or.inr (Or.inl g2))))
        have c97 : ¬ ((97 : Int) ≤ (s[i].toNat : Int)) := by omega
        have c48 : ((48 : Int) ≤ (s[i].toNat : Int)) := by omega
        have d57 : ((s[i].toNat : Int) ≤ (57 : Int)) := by omega
        go_wp2
        go_roundw
        case rel => exact ⟨i + 1, by go_num, by omega, HK.out, trivial⟩
        case measure => simp [intOf]; omega
      by_cases g3 : s[i].toNat = 46
      · have HK := Lib.hid (HNX.out (HL1.out (Or.inr (Or.inr (Or.inl g3)))))
        have c97 : ¬ ((97 : Int) ≤ (s[i].toNat : Int)) := by omega
        have c48 : ¬ ((48 : Int) ≤ (s[i].toNat : Int)) := by omega
        have e46 : ((s[i].toNat : Int) != 46) = false := by rw [bne_eq_false_iff_eq]; omega
        clear g3 g1 g2
        go_wp2
        go_roundw
        case rel => exact ⟨i + 1, by go_num, by omega, HK.out, trivial⟩
        case measure => simp [intOf]; omega
      by_cases g4 : s[i].toNat = 45
      · have HK := Lib.hid (HNX.out (HL1.out (Or.inr (Or.inr (Or.inr g4)))))
        have c97 : ¬ ((97 : Int) ≤ (s[i].toNat : Int)) := by omega
        have c48 : ¬ ((48 : Int) ≤ (s[i].toNat : Int)) := by omega
        have e46 : ((s[i].toNat : Int) != 46) = true := by rw [bne_iff_ne]; omega
        have e45 : ((s[i].toNat : Int) != 45) = false := by rw [bne_eq_false_iff_eq]; omega
        clear g4 g1 g2 g3
        go_wp2
        go_roundw
        case rel => exact ⟨i + 1, by go_num, by omega, HK.out, trivial⟩
        case measure => simp [intOf]; omega
      have HK := Lib.hid (HNO.out (HL2.out (by omega)))
      have e46 : ((s[i].toNat : Int) != 46) = true := by rw [bne_iff_ne]; omega
      have e45 : ((s[i].toNat : Int) != 45) = true := by rw [bne_iff_ne]; omega
      by_cases h97 : (97 : Int) ≤ (s[i].toNat : Int)
      · have d122 : ¬ ((s[i].toNat : Int) ≤ (122 : Int)) := by omega
        have c48 : ((48 : Int) ≤ (s[i].toNat : Int)) := by omega
        have d57 : ¬ ((s[i].toNat : Int) ≤ (57 : Int)) := by omega
        go_wp2
        go_returns
        exact ⟨by rw [HK.out]; rfl, rfl⟩
      · by_cases h48 : (48 : Int) ≤ (s[i].toNat : Int)
        · have d57 : ¬ ((s[i].toNat : Int) ≤ (57 : Int)) := by omega
          go_wp2
          go_returns
          exact ⟨by rw [HK.out]; rfl, rfl⟩
        · go_wp2
          go_returns
          exact ⟨by rw [HK.out]; rfl, rfl⟩
    · have HF : Hid (Disk.partOk s.data.toList = true) := Lib.hid (by
        rw [HOK.out]
        have := HALL.out
        rwa [List.take_of_length_le (by rw [HL.out]; omega)] at this)
      go_wp2
      go_returns
      exact ⟨by rw [HF.out]; rfl, rfl⟩

set_option maxHeartbeats 1000000 in
set_option maxRecDepth 100000 in
theorem rparent_any (s : ByteArray) (hs : s.size ≤ 9223372036854775807) (w : World) :
    Calls Tryz.prog 43 #[.string s] w fun e w' => e = .returned (.string (bs (Disk.parent s.data.toList))) ∧ w' = w := by
  have hl : s.data.toList.length = s.size := by simp
  have HD : Hid (Disk.parent s.data.toList = Disk.parTo s.data.toList s.size) := Lib.hid (by unfold Disk.parent; rw [hl])
  have h0 : IntKind.i64.wrap ((s.size : Int) - 1) = (s.size : Int) - 1 := IntWalk.i64_in _ (by omega)
  clear hl
  go_enter Tryz.func43, Tryz.ntmps43
  go_wp2
  go_loopw [3] (fun p wr => ∃ k : Nat, p = .int .i64 ((k : Int) - 1) ∧ k ≤ s.size ∧ Disk.parTo s.data.toList k = Disk.parTo s.data.toList s.size ∧ wr = w) (fun p _ => (intOf p + 1).toNat)
  case atStart => exact ⟨s.size, rfl, Nat.le_refl _, rfl, rfl⟩
  case round =>
    obtain ⟨k, rfl, hk, hpar, rfl⟩ := hrel
    by_cases hk1 : 1 < k
    · have hlt : (0 : Int) < (k : Int) - 1 := by omega
      obtain ⟨j, rfl⟩ : ∃ j, k = j + 1 := ⟨k - 1, by omega⟩
      have hjs : j < s.size := by omega
      have hc := byte_at s hjs
      have i1 : (((j + 1 : Nat) : Int) - 1).toNat = j := by omega
      have i2 : (0 : Int) ≤ ((j + 1 : Nat) : Int) - 1 := by omega
      have i3 : ((j + 1 : Nat) : Int) - 1 < (s.size : Int) := by omega
      have e1 : ((j + 1 : Nat) : Int) - 1 = (j : Int) := by omega
      rw [e1]
      have j1 : (0 : Int) < (j : Int) := by omega
      have HPAR := Lib.hid hpar
      clear hpar i1 i2 i3 e1 hlt
      by_cases h47 : s[j] = 47
      · have hq : ((s[j].toNat : Int) == 47) = true := by rw [h47]; rfl
        have hX : s.extract 0 j = bs (s.data.toList.take j) := by
          rw [← bs_of (s.extract 0 j)]
          congr 1
          simp [List.extract]
        have HF : Hid (Disk.parent s.data.toList = s.data.toList.take j) := Lib.hid (by
          rw [HD.out, ← HPAR.out]
          unfold Disk.parTo
          rw [if_pos ⟨by omega, by rw [hc, h47]⟩])
        rw [← HF.out] at hX
        have HX := Lib.hid hX
        clear hX hc h47
        go_wp2
        go_returns
        exact ⟨by rw [← HX.out] <;> rfl, rfl⟩
      · have hq : ((s[j].toNat : Int) == 47) = false := by
          rw [beq_eq_false_iff_ne]
          intro e
          exact h47 (UInt8.toNat_inj.1 (by show s[j].toNat = 47; omega))
        have HP2 : Hid (Disk.parTo s.data.toList j = Disk.parTo s.data.toList s.size) := Lib.hid (by
          rw [← HPAR.out]
          conv => rhs; unfold Disk.parTo
          rw [if_neg]
          rintro ⟨_, e⟩
          rw [hc] at e
          exact h47 (Option.some.inj e))
        have w1 : IntKind.i64.wrap ((j : Int) - 1) = (j : Int) - 1 := IntWalk.i64_in _ (by omega)
        clear hc h47
        go_wp2
        go_roundw
        case rel => exact ⟨j, rfl, by omega, HP2.out, trivial⟩
        case measure => first | (simp [intOf]; done) | (simp [intOf]; omega)
    · have hlt : ¬ ((0 : Int) < (k : Int) - 1) := by omega
      have HF : Hid (Disk.parent s.data.toList = [47]) := Lib.hid (by
        rw [HD.out, ← hpar]
        match k, hk1 with
        | 0, _ => rfl
        | 1, _ => unfold Disk.parTo; rw [if_neg (by simp)]; rfl
        | n + 2, h => omega)
      clear hpar
      go_wp2
      go_returns
      exact ⟨by rw [HF.out]; rfl, rfl⟩
end Go.Proofs.YtdogacgpfnolfaaGreatDoor
