/- A disk's small functions: the walks. -/
import Derived.Test.YtnfklomokjhojaaGreatDoorDiskK
import Derived.Deep.AppendLies
namespace Go.Proofs.YtnfklomokjhojaaGreatDoor
open Go.RowKit Go.Maps
set_option linter.unusedSimpArgs false
set_option linter.unusedVariables false
theorem down_any {w : World} {sd : Nat} {k : Int} (h : w.cell? ⟨sd, 2, none⟩ = some (.int .i64 k)) :
    Calls Tryz.prog 15 #[.pointer (some ⟨sd, 0, none⟩)] w fun e w' => e = .returned (.bool (decide (k = 0))) ∧ w' = w := by
  have hq : (k == 0) = decide (k = 0) := by
    by_cases h0 : k = 0
    · rw [h0]; rfl
    · rw [decide_eq_false h0]; exact beq_eq_false_iff_ne.2 h0
  go_enter Tryz.func15, Tryz.ntmps15
  go_wp2
  go_returns
  exact ⟨rfl, rfl⟩
set_option maxHeartbeats 1000000 in
set_option maxRecDepth 100000 in
theorem may_any {w : World} {sd : Nat} {s : Disk.S} (h : w.cell? ⟨sd, 2, none⟩ = some (.int .i64 s.left)) (hE : Env w) (p : List UInt8) (hp : p.length ≤ 4398046511104) :
    Calls Tryz.prog 69 #[.pointer (some ⟨sd, 0, none⟩), .string (bs p)] w fun e w' => e = .returned (.int .i64 (Disk.mayE s p)) ∧ Below w.heap.size w w' := by
  have HD := Lib.hid (down_any h)
  have HB := Lib.hid (below_any (bs p) (by show p.toArray.size ≤ _; simp; omega) w hE)
  rw [bs_list] at HB
  by_cases h0 : s.left = 0
  · have HR : Hid (Disk.mayE s p = 15) := Lib.hid (by unfold Disk.mayE; rw [if_pos h0])
    rw [decide_eq_true h0] at HD
    clear h h0
    go_enter Tryz.func69, Tryz.ntmps69
    go_wp2_with fail
    refine HD.out.mono ?_
    rintro e w1 ⟨rfl, rfl⟩
    go_wp2
    go_returns
    exact ⟨by rw [HR.out] <;> rfl, Below.refl _ _⟩
  · rw [decide_eq_false h0] at HD
    cases hpo : Disk.pathOk p
    · have HR : Hid (Disk.mayE s p = 10) := Lib.hid (by unfold Disk.mayE; rw [if_neg h0, hpo]; rfl)
      rw [hpo] at HB
      clear h h0 hpo
      go_enter Tryz.func69, Tryz.ntmps69
      go_wp2_with fail
      refine HD.out.mono ?_
      rintro e w1 ⟨rfl, rfl⟩
      go_wp2_with fail
      refine HB.out.mono ?_
      rintro e w2 ⟨rfl, hb⟩
      go_wp2
      go_returns
      exact ⟨by rw [HR.out] <;> rfl, hb⟩
    · have HR : Hid (Disk.mayE s p = 0) := Lib.hid (by unfold Disk.mayE; rw [if_neg h0, hpo]; rfl)
      rw [hpo] at HB
      clear h h0 hpo
      go_enter Tryz.func69, Tryz.ntmps69
      go_wp2_with fail
      refine HD.out.mono ?_
      rintro e w1 ⟨rfl, rfl⟩
      go_wp2_with fail
      refine HB.out.mono ?_
      rintro e w2 ⟨rfl, hb⟩
      go_wp2
      go_returns
      exact ⟨by rw [HR.out] <;> rfl, hb⟩
theorem parent_length (p : List UInt8) : (Disk.parent p).length ≤ p.length + 1 := by
  have : ∀ k, (Disk.parTo p k).length ≤ p.length + 1 := fun k => by
    induction k with
    | zero => simp [Disk.parTo]
    | succ k ih =>
      unfold Disk.parTo
      split
      · rw [List.length_take]; omega
      · exact ih
  exact this _
set_option maxHeartbeats 1000000 in
set_option maxRecDepth 100000 in
theorem home_any {w : World} {sd bm n : Nat} {l : Disk.M} (hT : w.cell? ⟨sd, 0, none⟩ = some (.map (some bm))) (hM : Things w bm n l) (p : List UInt8) (hp : p.length ≤ 4398046511104) :
    Calls Tryz.prog 70 #[.pointer (some ⟨sd, 0, none⟩), .string (bs p)] w fun e w' => e = .returned (.int .i64 (Disk.homeE l p)) ∧ Below w.heap.size w w' := by
  have hps : (bs p).size = p.length := by show p.toArray.size = _; simp
  have HP := Lib.hid (parent_any (bs p) (by omega) w)
  have hl := parent_length p
  have HK := Lib.hid (kind_any hT hM (bs (Disk.parent p)) (by show (Disk.parent p).toArray.size ≤ maxLen; simp [maxLen]; omega))
  rw [bs_list] at HP HK
  have HH : Hid (Disk.homeE l p = if Disk.kind l (Disk.parent p) = 0 then 12 else if Disk.kind l (Disk.parent p) = 1 then 13 else 0) := Lib.hid rfl
  obtain ⟨k, hk⟩ : ∃ k, k = Disk.kind l (Disk.parent p) := ⟨_, rfl⟩
  rw [← hk] at HK HH
  clear hT hM hk hps hl
  by_cases h0 : k = 0
  · have HR := Lib.hid (show Disk.homeE l p = 12 by rw [HH.out, if_pos h0])
    subst h0
    go_enter Tryz.func70, Tryz.ntmps70
    go_wp2_with fail
    refine HP.out.mono ?_
    rintro e w1 ⟨rfl, rfl⟩
    go_wp2_with fail
    refine HK.out.mono ?_
    rintro e w2 ⟨rfl, hb⟩
    go_wp2
    go_returns
    exact ⟨by rw [HR.out] <;> rfl, hb⟩
  by_cases h1 : k = 1
  · have HR := Lib.hid (show Disk.homeE l p = 13 by rw [HH.out, if_neg h0, if_pos h1])
    subst h1
    clear h0
    go_enter Tryz.func70, Tryz.ntmps70
    go_wp2_with fail
    refine HP.out.mono ?_
    rintro e w1 ⟨rfl, rfl⟩
    go_wp2_with fail
    refine HK.out.mono ?_
    rintro e w2 ⟨rfl, hb⟩
    go_wp2
    go_returns
    exact ⟨by rw [HR.out] <;> rfl, hb⟩
  · have HR := Lib.hid (show Disk.homeE l p = 0 by rw [HH.out, if_neg h0, if_neg h1])
    have q0 : (k == 0) = false := beq_eq_false_iff_ne.2 h0
    have q1 : (k == 1) = false := beq_eq_false_iff_ne.2 h1
    clear h0 h1
    go_enter Tryz.func70, Tryz.ntmps70
    go_wp2_with fail
    refine HP.out.mono ?_
    rintro e w1 ⟨rfl, rfl⟩
    go_wp2_with fail
    refine HK.out.mono ?_
    rintro e w2 ⟨rfl, hb⟩
    go_wp2
    go_returns
    exact ⟨by rw [HR.out] <;> rfl, hb⟩
end Go.Proofs.YtnfklomokjhojaaGreatDoor
