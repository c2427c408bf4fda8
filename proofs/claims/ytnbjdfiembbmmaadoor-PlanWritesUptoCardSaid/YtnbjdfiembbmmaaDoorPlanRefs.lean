/- The document's functions and the walks of PlanReads and PlanWrites. -/
import Derived.Test.YtnbjdfiembbmmaaDoorPlanPath
import Derived.Test.YtnbjdfiembbmmaaDoorPlanChkP
import Derived.Test.YtnbjdfiembbmmaaDoorScanC
import Derived.Test.YtnbjdfiembbmmaaDoorPlanData
import Derived.StillTailTactics
import Derived.RegionTactic
import Derived.Laws.BytesArg
import Derived.Lib.BufferRead
import Derived.Deep.RegionHeld3
import Derived.Maps.AppendAt
import Derived.Deep.AppendLies
import Derived.Test.YtnbjdfiembbmmaaDoorPlanParseA
import Derived.Test.YtnbjdfiembbmmaaDoorPlanLaw
import Derived.Test.YtnbjdfiembbmmaaDoorPlanFin
/- The document's small functions: parts, paths, beginnings, pairs, words, digits. -/
namespace Go.Proofs.YtnbjdfiembbmmaaDoor
open Go.RowKit
set_option linter.unusedSimpArgs false
set_option linter.unusedVariables false
namespace Plan
theorem letterP_iff {c : UInt8} : letterP c = true ↔ (97 ≤ c.toNat ∧ c.toNat ≤ 122) ∨ (48 ≤ c.toNat ∧ c.toNat ≤ 57) ∨ c.toNat = 46 ∨ c.toNat = 45 := by
  simp [letterP, Scan.small, or_assoc]
theorem letterP_no {c : UInt8} (h : ¬ ((97 ≤ c.toNat ∧ c.toNat ≤ 122) ∨ (48 ≤ c.toNat ∧ c.toNat ≤ 57) ∨ c.toNat = 46 ∨ c.toNat = 45)) : letterP c = false := by
  cases hh : letterP c with
  | false => rfl
  | true => exact absurd (letterP_iff.1 hh) h
theorem partOk_no {l : List UInt8} {k : Nat} {c : UInt8} (hc : l[k]? = some c) (h : letterP c = false) : partOk l = false := by
  have : l.all letterP = false := by
    rw [List.all_eq_false]
    exact ⟨c, List.mem_of_getElem? hc, by simp [h]⟩
  simp [partOk, this]
def rdig (c : UInt8) : Nat := (val c).getD 0
end Plan
set_option maxHeartbeats 2000000 in
set_option maxRecDepth 100000 in
theorem rpart_any (s : ByteArray) (hs : s.size ≤ 9223372036854775807) (w : World) :
    Calls Tryd.prog 61 #[.string s] w fun e w' => e = .returned (.bool (Plan.partOk s.data.toList)) ∧ w' = w := by
  have HSL := Lib.hid (bal_length s)
  go_enter Tryd.func61, Tryd.ntmps61
  go_wp2
  go_loopw [3] (fun p wr => ∃ k : Nat, p = .int .i64 k ∧ k ≤ s.size ∧ (s.data.toList.take k).all Plan.letterP = true ∧ wr = w) (fun p _ => s.size - (intOf p).toNat)
  case atStart => exact ⟨0, rfl, by omega, rfl, rfl⟩
  case round =>
    obtain ⟨k, rfl, hk, hall, rfl⟩ := hrel
    have HA := Lib.hid hall
    clear hall
    by_cases hks : k < s.size
    · have HC := Lib.hid (byte_at s hks)
      have hnext : Plan.letterP s[k] = true → (s.data.toList.take (k + 1)).all Plan.letterP = true := fun h => by
        rw [List.take_add_one, HC.out, List.all_append, HA.out]
        simp [h]
      have HX := Lib.hid hnext
      clear hnext
      by_cases h1 : 97 ≤ (s[k].toNat : Int)
      · by_cases h2 : (s[k].toNat : Int) ≤ 122
        · have HO := Lib.hid (HX.out (Plan.letterP_iff.2 (by omega)))
          clear HX
          go_wp2
          go_roundw
          case rel => exact ⟨k + 1, by go_num, by omega, HO.out, trivial⟩
          case measure => simp [intOf]; omega
        · have HF := Lib.hid (Plan.partOk_no HC.out (Plan.letterP_no (by omega)))
          have h3 : ¬ (s[k].toNat : Int) ≤ 57 := by omega
          have h4 : 48 ≤ (s[k].toNat : Int) := by omega
          have h5 : ((s[k].toNat : Int) != 46) = true := by rw [bne_iff_ne]; omega
          have h6 : ((s[k].toNat : Int) != 45) = true := by rw [bne_iff_ne]; omega
          clear HX
          go_wp2
          go_returns
          exact ⟨by rw [HF.out]; rfl, rfl⟩
      · by_cases h4 : 48 ≤ (s[k].toNat : Int)
        · by_cases h3 : (s[k].toNat : Int) ≤ 57
          · have HO := Lib.hid (HX.out (Plan.letterP_iff.2 (by omega)))
            clear HX
            go_wp2
            go_roundw
            case rel => exact ⟨k + 1, by go_num, by omega, HO.out, trivial⟩
            case measure => simp [intOf]; omega
          · have HF := Lib.hid (Plan.partOk_no HC.out (Plan.letterP_no (by omega)))
            have h5 : ((s[k].toNat : Int) != 46) = true := by rw [bne_iff_ne]; omega
            have h6 : ((s[k].toNat : Int) != 45) = true := by rw [bne_iff_ne]; omega
            clear HX
            go_wp2
            go_returns
            exact ⟨by rw [HF.out]; rfl, rfl⟩
        · by_cases e5 : (s[k].toNat : Int) = 46
          · have HO := Lib.hid (HX.out (Plan.letterP_iff.2 (by omega)))
            have h5 : ((s[k].toNat : Int) != 46) = false := by rw [bne_eq_false_iff_eq]; exact e5
            clear HX e5
            go_wp2
            go_roundw
            case rel => exact ⟨k + 1, by go_num, by omega, HO.out, trivial⟩
            case measure => simp [intOf]; omega
          · have h5 : ((s[k].toNat : Int) != 46) = true := by rw [bne_iff_ne]; omega
            by_cases e6 : (s[k].toNat : Int) = 45
            · have HO := Lib.hid (HX.out (Plan.letterP_iff.2 (by omega)))
              have h6 : ((s[k].toNat : Int) != 45) = false := by rw [bne_eq_false_iff_eq]; exact e6
              clear HX e5 e6
              go_wp2
              go_roundw
              case rel => exact ⟨k + 1, by go_num, by omega, HO.out, trivial⟩
              case measure => simp [intOf]; omega
            · have HF := Lib.hid (Plan.partOk_no HC.out (Plan.letterP_no (by omega)))
              have h6 : ((s[k].toNat : Int) != 45) = true := by rw [bne_iff_ne]; omega
              clear HX e5 e6
              go_wp2
              go_returns
              exact ⟨by rw [HF.out]; rfl, rfl⟩
    · obtain rfl : k = s.size := by omega
      have hfull : s.data.toList.all Plan.letterP = true := by
        have := HA.out
        rwa [List.take_of_length_le (by rw [HSL.out]; omega)] at this
      have HP : Hid (Plan.partOk s.data.toList = (!decide (s.data.toList = []) && (decide (s.size ≤ 24) && (!decide (s.data.toList = [46]) && !decide (s.data.toList = [46, 46]))))) := Lib.hid (by
        unfold Plan.partOk
        rw [hfull, HSL.out]
        have he : s.data.toList.isEmpty = decide (s.data.toList = []) := by cases s.data.toList <;> simp
        rw [he]
        simp only [ne_eq, decide_not, Bool.and_true])
      have q0 := str_eq_lit s []
      have q1 := str_eq_lit s [46]
      have q2 := str_eq_lit s [46, 46]
      clear hfull
      cases hd0 : decide (s.data.toList = [])
      · rw [hd0] at HP q0
        by_cases h24 : (s.size : Int) ≤ 24
        · have h24n : decide (s.size ≤ 24) = true := decide_eq_true (by omega)
          rw [h24n] at HP
          cases hd1 : decide (s.data.toList = [46])
          · rw [hd1] at HP q1
            cases hd2 : decide (s.data.toList = [46, 46])
            · rw [hd2] at HP q2
              clear hd0 hd1 hd2 h24n
              go_wp2
              go_returns
              exact ⟨by rw [HP.out]; rfl, rfl⟩
            · rw [hd2] at HP q2
              clear hd0 hd1 hd2 h24n
              go_wp2
              go_returns
              exact ⟨by rw [HP.out]; rfl, rfl⟩
          · rw [hd1] at HP q1
            clear hd0 hd1 h24n q2
            go_wp2
            go_returns
            exact ⟨by rw [HP.out]; rfl, rfl⟩
        · have h24n : decide (s.size ≤ 24) = false := decide_eq_false (by omega)
          rw [h24n] at HP
          clear hd0 h24n q1 q2
          go_wp2
          go_returns
          exact ⟨by rw [HP.out]; rfl, rfl⟩
      · rw [hd0] at HP q0
        clear hd0 q1 q2
        go_wp2
        go_returns
        exact ⟨by rw [HP.out]; rfl, rfl⟩
set_option maxHeartbeats 1000000 in
set_option maxRecDepth 100000 in
theorem rbegins_any (s t : ByteArray) (hs : s.size ≤ 9223372036854775807) (ht : t.size ≤ 9223372036854775807) (w : World) :
    Calls Tryd.prog 38 #[.string s, .string t] w fun e w' => e = .returned (.bool (t.data.toList.isPrefixOf s.data.toList)) ∧ w' = w := by
  have h1 := bal_length s
  have h2 := bal_length t
  by_cases hl : (t.size : Int) ≤ (s.size : Int)
  · obtain ⟨X, hX⟩ : ∃ X, X = s.extract 0 t.size := ⟨_, rfl⟩
    have e : X.data.toList = s.data.toList.take t.size := by rw [hX]; simp [List.extract]
    have hq : (X.toList == t.toList) = t.data.toList.isPrefixOf s.data.toList := by
      rw [str_beq, e, Bool.eq_iff_iff, decide_eq_true_eq, List.isPrefixOf_iff_prefix, List.prefix_iff_eq_take, h2]
      exact eq_comm
    have HX := Lib.hid hX
    obtain ⟨b, hb⟩ : ∃ b, b = t.data.toList.isPrefixOf s.data.toList := ⟨_, rfl⟩
    rw [← hb] at hq ⊢
    clear hX e h1 h2 hb
    cases b
    · go_enter Tryd.func38, Tryd.ntmps38
      have hXX := HX.out.symm
      go_wp2
      go_returns
      exact ⟨rfl, rfl⟩
    · go_enter Tryd.func38, Tryd.ntmps38
      have hXX := HX.out.symm
      go_wp2
      go_returns
      exact ⟨rfl, rfl⟩
  · have hb : t.data.toList.isPrefixOf s.data.toList = false := by
      cases h : t.data.toList.isPrefixOf s.data.toList with
      | false => rfl
      | true =>
        have := (List.isPrefixOf_iff_prefix.1 h).length_le
        omega
    rw [hb]
    clear h1 h2 hb
    go_enter Tryd.func38, Tryd.ntmps38
    go_wp2
    go_returns
    exact ⟨rfl, rfl⟩
set_option maxHeartbeats 1000000 in
set_option maxRecDepth 100000 in
theorem rpair_any (a b : Int) (w : World) :
    Calls Tryd.prog 39 #[.int .i64 a, .int .i64 b] w fun e w' => e = .returned (.bool (Plan.pairB a b)) ∧ w' = w := by
  unfold Plan.pairB
  cases h1 : (a == 1) <;> cases h2 : (a == 2) <;> cases h3 : (b == 3) <;> cases h4 : (b == 4)
  all_goals
    go_enter Tryd.func39, Tryd.ntmps39
    go_wp2
    go_returns
    exact ⟨rfl, rfl⟩
set_option maxHeartbeats 1000000 in
set_option maxRecDepth 100000 in
theorem rword_any (k : Int) (w : World) :
    Calls Tryd.prog 43 #[.int .i64 k] w fun e w' => e = .returned (.string (bs (Plan.word k))) ∧ w' = w := by
  unfold Plan.word
  have e1 : (k == 1) = decide (k = 1) := by rw [Bool.eq_iff_iff]; simp
  have e2 : (k == 2) = decide (k = 2) := by rw [Bool.eq_iff_iff]; simp
  have e3 : (k == 3) = decide (k = 3) := by rw [Bool.eq_iff_iff]; simp
  by_cases h1 : k = 1
  · rw [if_pos h1]
    rw [decide_eq_true h1] at e1
    clear h1 e2 e3
    go_enter Tryd.func43, Tryd.ntmps43
    go_wp2
    go_returns
    exact ⟨rfl, rfl⟩
  · rw [if_neg h1]
    rw [decide_eq_false h1] at e1
    by_cases h2 : k = 2
    · rw [if_pos h2]
      rw [decide_eq_true h2] at e2
      clear h1 h2 e3
      go_enter Tryd.func43, Tryd.ntmps43
      go_wp2
      go_returns
      exact ⟨rfl, rfl⟩
    · rw [if_neg h2]
      rw [decide_eq_false h2] at e2
      by_cases h3 : k = 3
      · rw [if_pos h3]
        rw [decide_eq_true h3] at e3
        clear h1 h2 h3
        go_enter Tryd.func43, Tryd.ntmps43
        go_wp2
        go_returns
        exact ⟨rfl, rfl⟩
      · rw [if_neg h3]
        rw [decide_eq_false h3] at e3
        clear h1 h2 h3
        go_enter Tryd.func43, Tryd.ntmps43
        go_wp2
        go_returns
        exact ⟨rfl, rfl⟩
set_option maxHeartbeats 1000000 in
set_option maxRecDepth 100000 in
theorem rdigit_any (c : UInt8) (w : World) :
    Calls Tryd.prog 63 #[.int .u8 c.toNat] w fun e w' => e = .returned (.int .u8 (Plan.rdig c : Nat)) ∧ w' = w := by
  have hlt := c.toNat_lt
  unfold Plan.rdig Plan.val
  by_cases h1 : 48 ≤ (c.toNat : Int)
  · by_cases h2 : (c.toNat : Int) ≤ 57
    · rw [if_pos (show 48 ≤ c.toNat ∧ c.toNat ≤ 57 by omega)]
      have e : ((c.toNat : Int) - 48) = ((c.toNat - 48 : Nat) : Int) := by omega
      go_enter Tryd.func63, Tryd.ntmps63
      go_wp2
      go_returns
      exact ⟨rfl, rfl⟩
    · rw [if_neg (show ¬ (48 ≤ c.toNat ∧ c.toNat ≤ 57) by omega)]
      by_cases h3 : 97 ≤ (c.toNat : Int)
      · by_cases h4 : (c.toNat : Int) ≤ 102
        · rw [if_pos (show 97 ≤ c.toNat ∧ c.toNat ≤ 102 by omega)]
          have e : ((c.toNat : Int) - 97 + 10) = ((c.toNat - 87 : Nat) : Int) := by omega
          go_enter Tryd.func63, Tryd.ntmps63
          go_wp2
          go_returns
          exact ⟨rfl, rfl⟩
        · rw [if_neg (show ¬ (97 ≤ c.toNat ∧ c.toNat ≤ 102) by omega)]
          go_enter Tryd.func63, Tryd.ntmps63
          go_wp2
          go_returns
          exact ⟨rfl, rfl⟩
      · rw [if_neg (show ¬ (97 ≤ c.toNat ∧ c.toNat ≤ 102) by omega)]
        go_enter Tryd.func63, Tryd.ntmps63
        go_wp2
        go_returns
        exact ⟨rfl, rfl⟩
  · rw [if_neg (show ¬ (48 ≤ c.toNat ∧ c.toNat ≤ 57) by omega), if_neg (show ¬ (97 ≤ c.toNat ∧ c.toNat ≤ 102) by omega)]
    have h3 : ¬ 97 ≤ (c.toNat : Int) := by omega
    go_enter Tryd.func63, Tryd.ntmps63
    go_wp2
    go_returns
    exact ⟨rfl, rfl⟩
end Go.Proofs.YtnbjdfiembbmmaaDoor

/- The document's path and Check: the walks. -/
namespace Go.Proofs.YtnbjdfiembbmmaaDoor
open Go.RowKit
set_option linter.unusedSimpArgs false
set_option linter.unusedVariables false
theorem all_mid {α : Type} {f : α → Bool} {a b : List α} {x : α} (h : f x = false) : (a ++ [x] ++ b).all f = false := by
  rw [List.all_eq_false]; exact ⟨x, by simp, by simp [h]⟩
theorem pathOk_cons (c : UInt8) (r : List UInt8) : Plan.pathOk (c :: r) = (decide (c = 47) && (decide ((c :: r).length ≤ 4096) && (Cut.cuts 47 r).all Plan.partOk)) := rfl
theorem extract_list (s : ByteArray) (f k : Nat) : (s.extract f k).data.toList = seg s.data.toList f k := by
  unfold seg
  simp [List.extract]
set_option maxHeartbeats 2000000 in
set_option maxRecDepth 100000 in
theorem rpath_any (s : ByteArray) (hs : s.size ≤ 9223372036854775806) (w : World) :
    Calls Tryd.prog 37 #[.string s] w fun e w' => e = .returned (.bool (Plan.pathOk s.data.toList)) ∧ w' = w := by
  by_cases h0 : s.size = 0
  · obtain rfl := str_empty h0
    clear h0
    go_enter Tryd.func37, Tryd.ntmps37
    go_wp2
    go_returns
    exact ⟨rfl, rfl⟩
  have hp : 0 < s.size := by omega
  have hq0 : (s.toList == ([] : List UInt8)) = false := str_ne_empty hp
  have hc0 := byte_at s hp
  have HSL := Lib.hid (bal_length s)
  obtain ⟨r, hr⟩ : ∃ r, s.data.toList = s[0] :: r := by
    cases h : s.data.toList with
    | nil => rw [h] at hc0; simp at hc0
    | cons c r => rw [h] at hc0; simp at hc0; exact ⟨r, by rw [hc0]⟩
  have hlen : (s[0] :: r).length = s.size := by rw [← hr]; exact HSL.out
  by_cases h47 : s[0] = 47
  · have hq1 : ((s[0].toNat : Int) != 47) = false := by rw [h47]; rfl
    by_cases hbig : (4096 : Int) < (s.size : Int)
    · have HF : Hid (Plan.pathOk s.data.toList = false) := Lib.hid (by
        rw [hr, pathOk_cons, decide_eq_false (p := (s[0] :: r).length ≤ 4096) (by omega)]; simp)
      clear h0 hr hlen h47 hc0
      go_enter Tryd.func37, Tryd.ntmps37
      go_wp2
      go_returns
      exact ⟨by rw [HF.out]; rfl, rfl⟩
    · have HCUT : Hid (Cut.cuts 47 s.data.toList = [] :: Cut.cuts 47 r) := Lib.hid (by rw [hr, h47, Cut.cuts_hit])
      have HPO : Hid (Plan.pathOk s.data.toList = (Cut.cuts 47 r).all Plan.partOk) := Lib.hid (by
        rw [hr, pathOk_cons, decide_eq_true h47, decide_eq_true (p := (s[0] :: r).length ≤ 4096) (by omega)]; simp)
      have HQS : Hid (∀ qs, Cut.cuts 47 s.data.toList = [] :: qs → Plan.pathOk s.data.toList = qs.all Plan.partOk) := Lib.hid (fun qs h => by
        rw [HCUT.out] at h; rw [HPO.out, (List.cons.inj h).2])
      have HS1 : Hid (Sp s.data.toList 47 1 1 [[]]) := Lib.hid (by
        have := (Sp.start s.data.toList 47).hit (by rw [hc0, h47])
        rw [seg_nil] at this
        exact this)
      clear h0 hr hlen h47 hc0
      go_enter Tryd.func37, Tryd.ntmps37
      go_wp2
      go_loopw [3, 4] (fun p q wr => ∃ f i : Nat, p = .int .i64 f ∧ q = .int .i64 i ∧ wr = w ∧ ((i ≤ s.size ∧ ∃ ps, Sp s.data.toList 47 f i ([] :: ps) ∧ ps.all Plan.partOk = true) ∨ (i = s.size + 1 ∧ Plan.pathOk s.data.toList = true))) (fun _ q _ => s.size + 1 - (intOf q).toNat)
      case atStart => exact ⟨1, 1, rfl, rfl, rfl, Or.inl ⟨by omega, [], HS1.out, rfl⟩⟩
      case round =>
        obtain ⟨f, i, rfl, rfl, rfl, hrel⟩ := hrel
        rcases hrel with ⟨hi, ps, hsp, hps⟩ | ⟨hi, hpo⟩
        · have hfi := hsp.fk
          have HSP := Lib.hid hsp
          have HPS := Lib.hid hps
          clear hsp hps
          obtain ⟨X, hX⟩ : ∃ X, X = s.extract f i := ⟨_, rfl⟩
          have hXs : X.size ≤ s.size := by rw [hX]; simp; omega
          have HXL : Hid (X.data.toList = seg s.data.toList f i) := Lib.hid (by rw [hX]; exact extract_list s f i)
          have HX := Lib.hid hX
          clear hX
          by_cases his : i < s.size
          · have hne : ((i : Int) == (s.size : Int)) = false := by rw [beq_eq_false_iff_ne]; omega
            have HC := Lib.hid (byte_at s his)
            by_cases hd : s[i] = 47
            · have hq : ((s[i].toNat : Int) == 47) = true := by rw [hd]; rfl
              have HIT := Lib.hid (HSP.out.hit (by rw [HC.out, hd]))
              clear hd
              cases hpk : Plan.partOk X.data.toList
              · have HF : Hid (Plan.pathOk s.data.toList = false) := Lib.hid (by
                  have := HIT.out.eq
                  rw [List.cons_append, List.cons_append] at this
                  rw [HQS.out _ this]
                  exact all_mid (by rw [← HXL.out]; exact hpk))
                go_wp2_with fail
                rw [← HX.out]
                refine (rpart_any X (by omega) _).mono ?_
                rintro e w1 ⟨rfl, rfl⟩
                rw [hpk]
                go_wp2
                go_returns
                exact ⟨by rw [HF.out]; rfl, rfl⟩
              · have HPK := Lib.hid hpk
                go_wp2_with fail
                rw [← HX.out]
                refine (rpart_any X (by omega) _).mono ?_
                rintro e w1 ⟨rfl, rfl⟩
                rw [hpk]
                go_wp2
                go_roundw
                case rel => exact ⟨i + 1, i + 1, by go_num, by go_num, trivial, Or.inl ⟨by omega, ps ++ [seg s.data.toList f i], HIT.out, by rw [List.all_append, HPS.out, ← HXL.out]; simp [HPK.out]⟩⟩
                case measure => simp [intOf]; omega
            · have hq : ((s[i].toNat : Int) == 47) = false := by rw [beq_eq_false_iff_ne]; intro e; exact hd (UInt8.toNat_inj.1 (by show s[i].toNat = 47; omega))
              have MISS := Lib.hid (HSP.out.miss HC.out hd)
              clear hd
              go_wp2
              go_roundw
              case rel => exact ⟨f, i + 1, rfl, by go_num, trivial, Or.inl ⟨by omega, ps, MISS.out, HPS.out⟩⟩
              case measure => simp [intOf]; omega
          · obtain rfl : i = s.size := by omega
            have hne : ((s.size : Int) == (s.size : Int)) = true := by simp
            have HDONE := Lib.hid (HSP.out.done HSL.out.symm)
            have HPV : Hid (Plan.pathOk s.data.toList = Plan.partOk X.data.toList) := Lib.hid (by
              have := HDONE.out
              rw [List.cons_append] at this
              rw [HQS.out _ this, List.all_append, HPS.out, HXL.out, HSL.out]
              simp)
            cases hpk : Plan.partOk X.data.toList
            · rw [hpk] at HPV
              go_wp2_with fail
              rw [← HX.out]
              refine (rpart_any X (by omega) _).mono ?_
              rintro e w1 ⟨rfl, rfl⟩
              rw [hpk]
              go_wp2
              go_returns
              exact ⟨by rw [HPV.out]; rfl, rfl⟩
            · rw [hpk] at HPV
              go_wp2_with fail
              rw [← HX.out]
              refine (rpart_any X (by omega) _).mono ?_
              rintro e w1 ⟨rfl, rfl⟩
              rw [hpk]
              go_wp2
              go_roundw
              case rel => exact ⟨s.size + 1, s.size + 1, by go_num, by go_num, trivial, Or.inr ⟨rfl, HPV.out⟩⟩
              case measure => first | (simp [intOf]; done) | (simp [intOf]; omega)
        · have HPV := Lib.hid hpo
          have hex : ¬ ((i : Int) ≤ (s.size : Int)) := by omega
          have HI := Lib.hid hi
          clear hpo hi
          go_wp2
          go_returns
          exact ⟨by rw [HPV.out]; rfl, rfl⟩
  · have hq1 : ((s[0].toNat : Int) != 47) = true := by rw [bne_iff_ne]; intro e; exact h47 (UInt8.toNat_inj.1 (by show s[0].toNat = 47; omega))
    have HF : Hid (Plan.pathOk s.data.toList = false) := Lib.hid (by
      rw [hr, pathOk_cons, decide_eq_false h47]; rfl)
    clear h0 hr hlen h47 hc0
    go_enter Tryd.func37, Tryd.ntmps37
    go_wp2
    go_returns
    exact ⟨by rw [HF.out]; rfl, rfl⟩
end Go.Proofs.YtnbjdfiembbmmaaDoor

/- The document's Check: the walk. -/
namespace Go.Proofs.YtnbjdfiembbmmaaDoor
open Go.RowKit
set_option linter.unusedSimpArgs false
set_option linter.unusedVariables false
set_option maxHeartbeats 4000000 in
set_option maxRecDepth 100000 in
theorem rcheck_any {w : World} {B : Nat} {v : Value} {ds : List Plan.D} (h : Deeds w B v ds) (hB : B ≤ w.heap.size) (hn : ds.length ≤ 4398046511104) (hsz : ∀ d ∈ ds, d.path.length ≤ 4398046511104 ∧ d.data.length ≤ 4398046511104) :
    Calls Tryd.prog 15 #[v] w fun e w' => e = .returned (.int .i64 (Plan.code ds)) ∧ Below w.heap.size w w' := by
  obtain ⟨a1, c1, rfl⟩ := h.form
  obtain ⟨N, hN⟩ : ∃ N, N = ds.length := ⟨_, rfl⟩
  have HH := Lib.hid h
  have HSZ := Lib.hid hsz
  rw [← hN] at hn ⊢
  have HN := Lib.hid hN
  clear h hsz hN
  go_enter Tryd.func15, Tryd.ntmps15
  go_wp2
  go_loopw [3] (fun p wr => ∃ i : Nat, p = .int .i64 i ∧ i ≤ N ∧ Plan.ok (ds.take i) = true ∧ Below w.heap.size w wr) (fun p _ => N - (intOf p).toNat)
  case atStart => exact ⟨0, rfl, by omega, rfl, Below.refl _ _⟩
  case round =>
    obtain ⟨i, rfl, hi, hok, hBr⟩ := hrel
    obtain ⟨wo, rfl⟩ : ∃ x, x = wr := ⟨wr, rfl⟩
    have HOK := Lib.hid hok
    clear hok
    have hzw := hBr.size
    by_cases hiN : i < N
    · obtain ⟨d, hd⟩ : ∃ d, ds[i]? = some d := ⟨_, List.getElem?_eq_getElem (by have := HN.out; omega)⟩
      obtain ⟨bk, o, cap, hve, hbB, hbc⟩ := HH.out.at (by have := HN.out; omega)
      rw [← HN.out] at hve
      cases hve
      have HBC : Hid (∀ (j : Nat) (x : Plan.D), ds[j]? = some x → wo.cell? ⟨bk, o + j * 3, none⟩ = some (.int .i64 x.kind) ∧ wo.cell? ⟨bk, o + j * 3 + 1, none⟩ = some (.string (bs x.path)) ∧ wo.cell? ⟨bk, o + j * 3 + 2, none⟩ = some (.string (bs x.data))) := Lib.hid (fun j x hx => by
        obtain ⟨e1, e2, e3⟩ := hbc j x hx
        rw [hBr.cell (p := ⟨bk, o + j * 3, none⟩) (by show bk < _; omega), hBr.cell (p := ⟨bk, o + j * 3 + 1, none⟩) (by show bk < _; omega), hBr.cell (p := ⟨bk, o + j * 3 + 2, none⟩) (by show bk < _; omega)]
        exact ⟨e1, e2, e3⟩)
      obtain ⟨e1, e2, e3⟩ := HBC.out i d hd
      have hbw : bk < wo.heap.size := by omega
      have HD := Lib.hid hd
      have HSD := Lib.hid (HSZ.out d (List.mem_of_getElem? hd))
      obtain ⟨dk, hdk⟩ : ∃ x, x = d.kind := ⟨_, rfl⟩
      obtain ⟨dp, hdp⟩ : ∃ x, x = d.path := ⟨_, rfl⟩
      obtain ⟨dt, hdt⟩ : ∃ x, x = d.data := ⟨_, rfl⟩
      rw [← hdk] at e1
      rw [← hdp] at e2
      rw [← hdt] at e3
      have HDD := Lib.hid (And.intro hdk (And.intro hdp hdt))
      clear hbc hd hdk hdp hdt
      have hpsz : (bs dp).size ≤ 4398046511104 := by rw [bs_size, HDD.out.2.1]; exact HSD.out.1
      have HNEED : Hid (Plan.ok ds = false → Plan.code ds = 44) := Lib.hid Plan.code_no
      have HBAD : Hid (Plan.stepOk (ds.take i) d = false → Plan.code ds = 44) := Lib.hid (fun h => Plan.code_no (Plan.ok_bad HD.out HOK.out h))
      have HOKD : Hid (Plan.okD (Plan.lastKind (ds.take i)) d = (decide (Plan.lastKind (ds.take i) ≤ dk) && (decide (dk ≤ 4) && ((decide (dk = 4) || dt.isEmpty) && (Plan.pathOk dp && Plan.free dp))))) := Lib.hid (by
        rw [HDD.out.1, HDD.out.2.1, HDD.out.2.2]; rfl)
      have hlk : 1 ≤ Plan.lastKind (ds.take i) := by
        unfold Plan.lastKind
        cases hg : (ds.take i).getLast? with
        | none => exact Int.le_refl _
        | some x => exact (Plan.ok_all HOK.out x (List.mem_of_getLast? hg)).1
      obtain ⟨lk, hlkv⟩ : ∃ x, x = Plan.lastKind (ds.take i) := ⟨_, rfl⟩
      have HLK := Lib.hid hlkv
      rw [← hlkv] at hlk
      have FB : Hid (∀ (W : World), Below w.heap.size w W → Plan.stepOk (ds.take i) d = false → (Ending.returned (.int .i64 44) = .returned (.int .i64 (Plan.code ds)) ∧ Below w.heap.size w W)) := Lib.hid (fun W h1 h2 => ⟨by rw [HBAD.out h2], h1⟩)
      clear hlkv
      by_cases b1 : dk < 1
      · have HF := Lib.hid (Plan.step_no (d := d) (by rw [HOKD.out, ← HLK.out, decide_eq_false (by omega)]; rfl))
        go_wp2
        go_big_quiet (fail)
        go_wp2
        go_returns
        exact FB.out _ (Below.drewN (hBr.alloc hzw _) _) HF.out
      have q1 : decide (dk < 1) = false := decide_eq_false b1
      by_cases b2 : 4 < dk
      · have HF := Lib.hid (Plan.step_no (d := d) (by rw [HOKD.out, decide_eq_false (p := dk ≤ 4) (by omega)]; simp))
        go_wp2
        go_big_quiet (fail)
        go_wp2
        go_returns
        exact FB.out _ (Below.drewN (hBr.alloc hzw _) _) HF.out
      have q2 : decide (4 < dk) = false := decide_eq_false b2
      have LOW : (i = 0 ∧ lk = 1) ∨ (0 < i ∧ ∃ x, ds[i - 1]? = some x ∧ lk = x.kind) := by
        rcases Nat.eq_zero_or_pos i with h0 | h0
        · exact Or.inl ⟨h0, by rw [HLK.out, h0]; rfl⟩
        · obtain ⟨x, hx⟩ : ∃ x, ds[i - 1]? = some x := ⟨_, List.getElem?_eq_getElem (by have := HN.out; omega)⟩
          exact Or.inr ⟨h0, x, hx, by rw [HLK.out, ← Plan.lastKind_take hx, show i - 1 + 1 = i by omega]⟩
      have LESS : ((decide (0 < (i : Int)) = false ∧ decide (0 < i) = false) ∧ lk ≤ dk) ∨ (0 < i ∧ ∃ x, ds[i - 1]? = some x ∧ decide (dk < x.kind) = true ∧ ¬ lk ≤ dk) ∨ (0 < i ∧ ∃ x, ds[i - 1]? = some x ∧ decide (dk < x.kind) = false ∧ lk ≤ dk) := by
        rcases LOW with ⟨h0, h1⟩ | ⟨h0, x, hx, h1⟩
        · exact Or.inl ⟨⟨decide_eq_false (by omega), decide_eq_false (by omega)⟩, by omega⟩
        · by_cases hl : dk < x.kind
          · exact Or.inr (Or.inl ⟨h0, x, hx, decide_eq_true hl, by omega⟩)
          · exact Or.inr (Or.inr ⟨h0, x, hx, decide_eq_false hl, by omega⟩)
      have HDATA : (dk = 4 ∧ (dk != 4) = false) ∨ (dk ≠ 4 ∧ (dk != 4) = true ∧ dt.isEmpty = false) ∨ (dk ≠ 4 ∧ (dk != 4) = true ∧ dt.isEmpty = true) := by
        by_cases h4 : dk = 4
        · exact Or.inl ⟨h4, by simp [h4]⟩
        · cases he : dt.isEmpty
          · exact Or.inr (Or.inl ⟨h4, by simp [h4], rfl⟩)
          · exact Or.inr (Or.inr ⟨h4, by simp [h4], rfl⟩)
      have hdt : ((bs dt).toList == ([] : List UInt8)) = dt.isEmpty := sv_eq_empty' _
      have HDT := Lib.hid hdt
      have HDA := Lib.hid HDATA
      clear LOW hdt HDATA
      rcases LESS with ⟨⟨q3, q3n⟩, hle⟩ | ⟨h0, x, hx, q4, hle⟩ | ⟨h0, x, hx, q4, hle⟩
      rotate_left 1
      · have HF := Lib.hid (Plan.step_no (d := d) (by rw [HOKD.out, ← HLK.out, decide_eq_false hle]; rfl))
        obtain ⟨g1, _, _⟩ := HBC.out (i - 1) x hx
        have q3 : decide (0 < (i : Int)) = true := decide_eq_true (by omega)
        have s1 : (0 : Int) ≤ (i : Int) - 1 := by omega
        have s2 : (i : Int) - 1 < (N : Int) := by omega
        have s3 : ((i : Int) - 1).toNat = i - 1 := by omega
        have s0 : IntKind.i64.wrap ((i : Int) - 1) = (i : Int) - 1 := IntWalk.i64_in _ (by omega)
        clear hx hle
        go_wp2
        go_big_quiet (fail)
        go_wp2
        go_returns
        exact FB.out _ (Below.drewN (hBr.alloc hzw _) _) HF.out
      obtain ⟨g1, _, _⟩ := HBC.out (i - 1) x hx
      have q3 : decide (0 < (i : Int)) = true := decide_eq_true (by omega)
      have s1 : (0 : Int) ≤ (i : Int) - 1 := by omega
      have s2 : (i : Int) - 1 < (N : Int) := by omega
      have s3 : ((i : Int) - 1).toNat = i - 1 := by omega
      have s0 : IntKind.i64.wrap ((i : Int) - 1) = (i : Int) - 1 := IntWalk.i64_in _ (by omega)
      clear hx
      all_goals
        rcases HDA.out with ⟨h4, q5⟩ | ⟨h4, q5, he⟩ | ⟨h4, q5, he⟩
        rotate_left 1
        · have HF := Lib.hid (Plan.step_no (d := d) (by rw [HOKD.out, decide_eq_false h4, he]; simp))
          have q6 := HDT.out
          rw [he] at q6
          clear he hle h4
          go_wp2
          go_big_quiet (fail)
          go_wp2
          go_returns
          exact FB.out _ (Below.drewN (hBr.alloc hzw _) _) HF.out
        all_goals
          have HOK4 : Hid (Plan.okD (Plan.lastKind (ds.take i)) d = (Plan.pathOk dp && Plan.free dp)) := Lib.hid (by
            rw [HOKD.out, ← HLK.out, decide_eq_true hle, decide_eq_true (p := dk ≤ 4) (by omega)]
            first | (rw [decide_eq_true h4]; simp) | (rw [he]; simp))
          first | (have q6 := HDT.out; rw [he] at q6; clear he) | skip
          clear hle h4
          go_wp2
          go_big_quiet (fail)
          have HB0 := Lib.hid (Below.drewN (hBr.alloc hzw (.cells #[.int .i64 dk, .string (bs dp), .string (bs dt)] 54)) nq)
          cases hpo : Plan.pathOk dp
          · have HF := Lib.hid (Plan.step_no (d := d) (by rw [HOK4.out, hpo]; rfl))
            have HPA : ∀ w, Calls Tryd.prog 37 #[.string (bs dp)] w fun e w' => e = .returned (.bool false) ∧ w' = w := fun w => by
              have := rpath_any (bs dp) (by omega) w
              rw [bs_list, hpo] at this
              exact this
            have HPP := Lib.hid HPA
            clear HPA hpo
            go_wp2_with (first | (go_at_call 37; refine (HPP.out _).mono ?_; rintro e w1 ⟨rfl, rfl⟩))
            go_returns
            exact FB.out _ HB0.out HF.out
          have HPA : ∀ w, Calls Tryd.prog 37 #[.string (bs dp)] w fun e w' => e = .returned (.bool true) ∧ w' = w := fun w => by
            have := rpath_any (bs dp) (by omega) w
            rw [bs_list, hpo] at this
            exact this
          have HPP := Lib.hid HPA
          have HFREE : Hid (Plan.free dp = (!((bs dp).toList == [47, 106, 111, 117, 114, 110, 97, 108]) && !([47, 106, 111, 117, 114, 110, 97, 108, 47] : List UInt8).isPrefixOf dp)) := Lib.hid (by
            rw [str_eq_lit]; rfl)
          have HOK5 : Hid (Plan.okD (Plan.lastKind (ds.take i)) d = Plan.free dp) := Lib.hid (by rw [HOK4.out, hpo]; rfl)
          have hbeg : ∀ w, Calls Tryd.prog 38 #[.string (bs dp), .string ⟨#[47, 106, 111, 117, 114, 110, 97, 108, 47]⟩] w fun e w' => e = .returned (.bool (([47, 106, 111, 117, 114, 110, 97, 108, 47] : List UInt8).isPrefixOf dp)) ∧ w' = w := fun w => rbegins_any (bs dp) ⟨#[47, 106, 111, 117, 114, 110, 97, 108, 47]⟩ (by omega) (by decide) w
          have HBEG := Lib.hid hbeg
          clear HPA hpo hbeg
          cases hj : ((bs dp).toList == [47, 106, 111, 117, 114, 110, 97, 108])
          rotate_left 1
          · have HF := Lib.hid (Plan.step_no (d := d) (by rw [HOK5.out, HFREE.out, hj]; rfl))
            go_wp2_with (first | (go_at_call 37; refine (HPP.out _).mono ?_; rintro e w1 ⟨rfl, rfl⟩))
            go_returns
            exact FB.out _ HB0.out HF.out
          cases hpp : ([47, 106, 111, 117, 114, 110, 97, 108, 47] : List UInt8).isPrefixOf dp
          rotate_left 1
          · have HF := Lib.hid (Plan.step_no (d := d) (by rw [HOK5.out, HFREE.out, hj, hpp]; rfl))
            have HBG : Hid (∀ w, Calls Tryd.prog 38 #[.string (bs dp), .string ⟨#[47, 106, 111, 117, 114, 110, 97, 108, 47]⟩] w fun e w' => e = .returned (.bool true) ∧ w' = w) := Lib.hid (fun w => by have := HBEG.out w; rw [hpp] at this; exact this)
            clear hpp
            go_wp2_with (first | (go_at_call 37; refine (HPP.out _).mono ?_; rintro e w1 ⟨rfl, rfl⟩) | (go_at_call 38; refine (HBG.out _).mono ?_; rintro e w1 ⟨rfl, rfl⟩))
            go_returns
            exact FB.out _ HB0.out HF.out
          have HOK6 : Hid (Plan.okD (Plan.lastKind (ds.take i)) d = true) := Lib.hid (by rw [HOK5.out, HFREE.out, hj, hpp]; rfl)
          have HBG : Hid (∀ w, Calls Tryd.prog 38 #[.string (bs dp), .string ⟨#[47, 106, 111, 117, 114, 110, 97, 108, 47]⟩] w fun e w' => e = .returned (.bool false) ∧ w' = w) := Lib.hid (fun w => by have := HBEG.out w; rw [hpp] at this; exact this)
          clear hpp HBEG HFREE
          go_wp2_with (first | (go_at_call 37; refine (HPP.out _).mono ?_; rintro e w1 ⟨rfl, rfl⟩) | (go_at_call 38; refine (HBG.out _).mono ?_; rintro e w1 ⟨rfl, rfl⟩))
          obtain ⟨W, hW⟩ : ∃ W : World, W = (wo.alloc (.cells #[.int .i64 dk, .string (bs dp), .string (bs dt)] 54)).drewN nq := ⟨_, rfl⟩
          have HWC : Hid (∀ (j : Nat) (x : Plan.D), ds[j]? = some x → W.cell? ⟨bk, o + j * 3, none⟩ = some (.int .i64 x.kind) ∧ W.cell? ⟨bk, o + j * 3 + 1, none⟩ = some (.string (bs x.path))) := Lib.hid (fun j x hx => by
            obtain ⟨c1, c2, _⟩ := HBC.out j x hx
            rw [hW]
            simp only [World.cell?_drewN]
            rw [World.cell?_alloc_past _ _ _ hbw, World.cell?_alloc_past _ _ _ hbw]
            exact ⟨c1, c2⟩)
          have k0 : W.cell? ⟨wo.heap.size, 0, none⟩ = some (.int .i64 dk) := by rw [hW]; simp [World.cell?_drewN]
          have k1 : W.cell? ⟨wo.heap.size, 1, none⟩ = some (.string (bs dp)) := by rw [hW]; simp [World.cell?_drewN]
          rw [← hW] at HB0 ⊢
          clear hW
          go_loopw [5, 6] (fun p q wr => ∃ k m r : Nat, p = .int .i64 m ∧ q = .int .i64 k ∧ k ≤ i ∧ m = (Plan.met (ds.take k) dp).length ∧ ((Plan.met (ds.take k) dp).all fun x => Plan.pairB x.kind dk) = true ∧ wr = W.drewN r) (fun _ q _ => i - (intOf q).toNat)
          case atStart => exact ⟨0, 0, 0, rfl, rfl, by omega, rfl, rfl, rfl⟩
          case round =>
            obtain ⟨k, m, r, rfl, rfl, hk, hm, hall, hV⟩ := hrel
            have hmk : m ≤ k := by
              rw [hm]
              exact Nat.le_trans (Plan.met_le _ _) (by rw [List.length_take]; omega)
            have HV := Lib.hid hV
            have HM := Lib.hid (And.intro hm hall)
            clear hm hall
            obtain ⟨V, hVV⟩ : ∃ V : World, V = wr := ⟨_, rfl⟩
            rw [← hVV] at HV hV ⊢
            have l0 : V.cell? ⟨wo.heap.size, 0, none⟩ = some (.int .i64 dk) := by rw [hV]; simp only [World.cell?_drewN]; exact k0
            have l1 : V.cell? ⟨wo.heap.size, 1, none⟩ = some (.string (bs dp)) := by rw [hV]; simp only [World.cell?_drewN]; exact k1
            have HVC : Hid (∀ (j : Nat) (x : Plan.D), ds[j]? = some x → V.cell? ⟨bk, o + j * 3, none⟩ = some (.int .i64 x.kind) ∧ V.cell? ⟨bk, o + j * 3 + 1, none⟩ = some (.string (bs x.path))) := Lib.hid (fun j x hx => by rw [hV]; simp only [World.cell?_drewN]; exact HWC.out j x hx)
            have HBV : Hid (Below w.heap.size w V) := Lib.hid (by rw [hV]; exact Below.drewN HB0.out r)
            clear hVV hV
            by_cases hki : k < i
            · obtain ⟨x, hx⟩ : ∃ x, ds[k]? = some x := ⟨_, List.getElem?_eq_getElem (by have := HN.out; omega)⟩
              obtain ⟨v0, v1⟩ := HVC.out k x hx
              obtain ⟨xk, hxk⟩ : ∃ y, y = x.kind := ⟨_, rfl⟩
              obtain ⟨xp, hxp⟩ : ∃ y, y = x.path := ⟨_, rfl⟩
              rw [← hxk] at v0
              rw [← hxp] at v1
              have hq := sv_inj (a := xp) (b := dp)
              have hkN : (k : Int) < (N : Int) := by omega
              have HNX : Hid (Plan.met (ds.take (k + 1)) dp = if xp = dp then Plan.met (ds.take k) dp ++ [x] else Plan.met (ds.take k) dp) := Lib.hid (by rw [hxp]; exact Plan.met_next hx _)
              have HIN : Hid (xp = dp → x ∈ Plan.met (ds.take i) d.path) := Lib.hid (fun e => by
                rw [← HDD.out.2.1]
                unfold Plan.met
                refine List.mem_filter.2 ⟨?_, by rw [← hxp, e]; simp⟩
                exact List.mem_of_getElem? (i := k) (by rw [List.getElem?_take, if_pos hki]; exact hx))
              have HXK := Lib.hid hxk
              clear hx hxk hxp
              by_cases he : xp = dp
              · rw [decide_eq_true he] at hq
                have HNX2 : Hid (Plan.met (ds.take (k + 1)) dp = Plan.met (ds.take k) dp ++ [x]) := Lib.hid (by rw [HNX.out, if_pos he])
                have HIN2 := Lib.hid (HIN.out he)
                cases hpr : Plan.pairB xk dk
                · have HF := Lib.hid (Plan.step_pair (d := d) HIN2.out (by rw [← HXK.out, ← HDD.out.1]; exact hpr))
                  have HPR : Hid (∀ w, Calls Tryd.prog 39 #[.int .i64 xk, .int .i64 dk] w fun e w' => e = .returned (.bool false) ∧ w' = w) := Lib.hid (fun w => by have := rpair_any xk dk w; rw [hpr] at this; exact this)
                  clear he hpr HNX HIN
                  go_wp2
                  go_big_quiet (fail)
                  go_wp2
                  go_big_quiet ((go_at_call 39; exact quiet_in ((HPR.out _).mono fun _ _ ⟨he, hw⟩ => ⟨he, 0, hw⟩)))
                  go_wp2
                  go_returns
                  exact FB.out _ (Below.drewN (Below.drewN HBV.out _) _) HF.out
                · have HPR : Hid (∀ w, Calls Tryd.prog 39 #[.int .i64 xk, .int .i64 dk] w fun e w' => e = .returned (.bool true) ∧ w' = w) := Lib.hid (fun w => by have := rpair_any xk dk w; rw [hpr] at this; exact this)
                  have HPX := Lib.hid hpr
                  clear he hpr HNX HIN
                  go_wp2
                  go_big_quiet (fail)
                  obtain ⟨n1, rfl⟩ : ∃ n1, n1 = nq := ⟨nq, rfl⟩
                  go_wp2
                  go_big_quiet ((go_at_call 39; exact quiet_in ((HPR.out _).mono fun _ _ ⟨he, hw⟩ => ⟨he, 0, hw⟩)))
                  go_wp2
                  go_roundw
                  case rel => exact ⟨k + 1, m + 1, r + (n1 + nq), by go_num, by go_num, by omega, by rw [HNX2.out, List.length_append, ← HM.out.1]; rfl, by rw [HNX2.out, List.all_append, HM.out.2]; simp [← HXK.out, HPX.out], by rw [HV.out, World.drewN_drewN]⟩
                  case measure => simp [intOf]; omega
              · rw [decide_eq_false he] at hq
                have HNX2 : Hid (Plan.met (ds.take (k + 1)) dp = Plan.met (ds.take k) dp) := Lib.hid (by rw [HNX.out, if_neg he])
                clear he HNX HIN
                go_wp2
                go_big_quiet (fail)
                go_wp2
                go_roundw
                case rel => exact ⟨k + 1, m, r + nq, rfl, by go_num, by omega, by rw [HNX2.out]; exact HM.out.1, by rw [HNX2.out]; exact HM.out.2, by rw [HV.out, World.drewN_drewN]⟩
                case measure => simp [intOf]; omega
            · obtain rfl : k = i := by omega
              by_cases hm1 : 1 < m
              · have HF := Lib.hid (Plan.step_many (pre := ds.take k) (d := d) (by rw [← HDD.out.2.1, ← HM.out.1]; omega))
                go_wp2
                go_returns
                exact FB.out _ HBV.out HF.out
              · have HS : Hid (Plan.stepOk (ds.take k) d = true) := Lib.hid (by
                  unfold Plan.stepOk
                  rw [HOK6.out, ← HDD.out.2.1, ← HDD.out.1, HM.out.2, ← HM.out.1]
                  simp; omega)
                go_wp2
                go_roundw
                case rel => exact ⟨k + 1, by go_num, by omega, Plan.ok_more HD.out HOK.out HS.out, HBV.out⟩
                case measure => simp [intOf]; omega
    · obtain rfl : i = N := by omega
      have HF : Hid (Plan.code ds = 0) := Lib.hid (Plan.code_yes (by have := HOK.out; rwa [List.take_of_length_le (by rw [HN.out]; exact Nat.le_refl _)] at this))
      go_wp2
      go_returns
      exact ⟨by rw [HF.out]; rfl, hBr⟩
end Go.Proofs.YtnbjdfiembbmmaaDoor

/- The document's hex, data, text, Print: the walks. -/
namespace Go.Proofs.YtnbjdfiembbmmaaDoor
open Go.RowKit
set_option linter.unusedSimpArgs false
set_option linter.unusedVariables false
/-- A row of bytes of the call's own as a text. -/
theorem own_string {w : World} {base n : Nat} {v : Value} {l : List UInt8} (h : w.ownsRow base 5 1 v n (Go.Lib.byteCells l)) : (convert 46 9 v).run Tryd.prog w = .ok (.string (bs l)) w := by
  have hl : l.length = n := by have := h.1; rw [Go.Lib.byteCells_length] at this; omega
  rcases h.2 with ⟨rfl, h0⟩ | ⟨g, cap, cur, rfl, hb, hg, hnc, _⟩
  · have : l = [] := List.length_eq_zero_iff.1 (by omega)
    subst this
    rw [run_convert_bytes_nil w 46 5 Tryd.underlying46 Tryd.underlying5 0 0 9 Tryd.underlying9]
    rfl
  · rw [run_convert_bytes_arg w 46 5 Tryd.underlying46 Tryd.underlying5 g 0 n cap (l.map fun c => (c.toNat : Int)) (by simp [hl]) (fun i hi => by
      rw [Nat.zero_add, h.cellAt i (by omega)]
      have : i < l.length := by omega
      simp [Go.Lib.byteCells, List.getD, this]) 9 Tryd.underlying9]
    congr 2
    unfold strOfNums bs
    rw [List.map_map]
    congr 2
    conv => rhs; rw [← List.map_id l]
    apply List.map_congr_left
    intro x _
    simp
set_option maxHeartbeats 2000000 in
set_option maxRecDepth 100000 in
theorem rhex_any (s : ByteArray) (hs : s.size ≤ 35184372088832) (w : World) :
    Calls Tryd.prog 57 #[.string s] w fun e w' => e = .returned (.string (bs (Plan.hexOf s.data.toList))) ∧ Below w.heap.size w w' := by
  by_cases h0 : s.size = 0
  · obtain rfl := str_empty h0
    clear h0
    go_enter Tryd.func57, Tryd.ntmps57
    go_wp2
    go_returns
    exact ⟨rfl, by go_grown⟩
  · have hq : (s.toList == ([] : List UInt8)) = false := str_ne_empty (by omega)
    have HSL := Lib.hid (bal_length s)
    obtain ⟨i0, hi, hz0, hz1, hz2⟩ := info_parts infoByte
    go_enter Tryd.func57, Tryd.ntmps57
    go_wp2
    go_loopw [4, 5] (fun v p wr => ∃ k : Nat, p = .int .i64 k ∧ k ≤ s.size ∧ wr.ownsRow w.heap.size 5 1 v (2 * k) (Go.Lib.byteCells (Plan.hexs (s.data.toList.take k))) ∧ Below w.heap.size w wr) (fun _ p _ => s.size - (intOf p).toNat)
    case atStart => exact ⟨0, rfl, by omega, World.ownsRow_nil w _ _ 1, Below.refl _ _⟩
    case round =>
      obtain ⟨k, rfl, hk, hown, hBr⟩ := hrel
      have hz := hBr.size
      by_cases hks : k < s.size
      · have HC := Lib.hid (byte_at s hks)
        have h256 : s[k].toNat < 256 := s[k].toNat_lt
        have g1 : s[k].toNat / 16 < 16 := by omega
        have g2 : s[k].toNat % 16 < 16 := by omega
        obtain ⟨a1, c1, rfl⟩ := own_form hown
        have HOWN := Lib.hid hown
        clear hown
        go_wp2_with (first
          | (at_builtin; refine wpList_append_own _ rfl _ _ 46 rfl w.heap.size 5 i0 (.int .u8 0) 1 1 Tryd.underlying46 hi hz0 hz1 hz2 rfl (by decide) _ _ _ rfl (HOWN.out.alloc _) ⟨wr.heap.size, 0, none⟩ 1 1 [_] rfl rfl (cell_one_new _ _ _) (fun x hx => by simp at hx; subst hx; rfl) (by unfold maxLen; omega) (by omega) (by simp; omega) ?_; intro v1 w1 hown1 hgrow1 _; obtain ⟨a2, c2, rfl⟩ := own_form hown1; have hbA : Below w.heap.size w w1 := Below.grown (hBr.alloc hz _) hgrow1 (by simp; omega) (fun g hg => (HOWN.out.lt g hg).1); have hzA := hbA.size; have HOWN1 := Lib.hid hown1; have HBA := Lib.hid hbA; clear hown1 hgrow1 hbA)
          | (at_builtin; refine wpList_append_own _ rfl _ _ 46 rfl w.heap.size 5 i0 (.int .u8 0) 1 1 Tryd.underlying46 hi hz0 hz1 hz2 rfl (by decide) _ _ _ rfl (HOWN1.out.alloc _) ⟨w1.heap.size, 0, none⟩ 1 1 [_] rfl rfl (cell_one_new _ _ _) (fun x hx => by simp at hx; subst hx; rfl) (by unfold maxLen; omega) (by omega) (by simp; omega) ?_; intro v2 w2 hown2 hgrow2 _; obtain ⟨a3, c3, rfl⟩ := own_form hown2; have hbB : Below w.heap.size w w2 := Below.grown (HBA.out.alloc hzA _) hgrow2 (by simp; omega) (fun g hg => (HOWN1.out.lt g hg).1); have HOWN2 := Lib.hid hown2; have HBB := Lib.hid hbB; clear hown2 hgrow2 hbB))
        go_roundw
        case rel => exact ⟨k + 1, by go_num, by omega, by
          have h2 := HOWN2.out
          rw [dig_at, dig_at] at h2
          rw [Plan.hexs_next HC.out, show 2 * (k + 1) = 2 * k + 1 + 1 by omega]
          simpa [Go.Lib.byteCells, Plan.hex2] using h2, HBB.out⟩
        case measure => simp [intOf]; omega
      · have hfull : s.data.toList.take k = s.data.toList := List.take_of_length_le (by rw [HSL.out]; omega)
        have hown2 := hown
        rw [hfull] at hown2
        have HO : Hid (Plan.hexOf s.data.toList = Plan.hexs s.data.toList) := Lib.hid (by
          unfold Plan.hexOf
          rw [if_neg]
          intro e
          have := HSL.out
          rw [e] at this
          simp at this
          omega)
        obtain ⟨a1, c1, rfl⟩ := own_form hown
        have hcv := own_string hown2
        clear hown hown2 hfull
        go_wp2
        go_returns
        exact ⟨by rw [HO.out]; rfl, hBr⟩
theorem Plan.hexOf_ge (l : List UInt8) : l.length ≤ (Plan.hexOf l).length := by
  unfold Plan.hexOf
  split
  · rename_i e; rw [e]; simp
  · rw [Plan.hexs_length]; omega
theorem Plan.text_take_le (ds : List Plan.D) (i : Nat) : (Plan.text (ds.take i)).length ≤ (Plan.text ds).length := by
  have e : Plan.lines ds = Plan.lines (ds.take i) ++ Plan.lines (ds.drop i) := by
    show ds.flatMap Plan.line = _
    conv => lhs; rw [← List.take_append_drop i ds, List.flatMap_append]
    rfl
  unfold Plan.text
  rw [e]
  simp only [List.length_append]
  omega
set_option maxHeartbeats 2000000 in
set_option maxRecDepth 100000 in
theorem rtext_any {w : World} {B : Nat} {v : Value} {ds : List Plan.D} (h : Deeds w B v ds) (hB : B ≤ w.heap.size) (hn : ds.length ≤ 4398046511104) (hsz : (Plan.text ds).length ≤ 4398046511104) :
    Calls Tryd.prog 34 #[v] w fun e w' => e = .returned (.string (bs (Plan.text ds))) ∧ Below w.heap.size w w' := by
  obtain ⟨a1, c1, rfl⟩ := h.form
  obtain ⟨N, hN⟩ : ∃ N, N = ds.length := ⟨_, rfl⟩
  have HH := Lib.hid h
  rw [← hN] at hn ⊢
  have HN := Lib.hid hN
  clear h hN
  go_enter Tryd.func34, Tryd.ntmps34
  go_wp2
  go_loopw [3, 4] (fun q p wr => ∃ i : Nat, p = .int .i64 i ∧ i ≤ N ∧ q = .string (bs (Plan.text (ds.take i))) ∧ Below w.heap.size w wr) (fun _ p _ => N - (intOf p).toNat)
  case atStart => exact ⟨0, rfl, by omega, rfl, Below.refl _ _⟩
  case round =>
    obtain ⟨i, rfl, hi, rfl, hBr⟩ := hrel
    obtain ⟨wo, rfl⟩ : ∃ x, x = wr := ⟨wr, rfl⟩
    have hzw := hBr.size
    obtain ⟨A0, hA0⟩ : ∃ A0, A0 = Plan.text (ds.take i) := ⟨_, rfl⟩
    rw [← hA0]
    have HA0 := Lib.hid hA0
    clear hA0
    by_cases hiN : i < N
    · obtain ⟨d, hd⟩ : ∃ d, ds[i]? = some d := ⟨_, List.getElem?_eq_getElem (by have := HN.out; omega)⟩
      obtain ⟨bk, o, cap, hve, hbB, hbc⟩ := HH.out.at (by have := HN.out; omega)
      rw [← HN.out] at hve
      cases hve
      obtain ⟨e1, e2, e3⟩ := hbc i d hd
      rw [← hBr.cell (p := ⟨bk, o + i * 3, none⟩) (by show bk < _; omega)] at e1
      rw [← hBr.cell (p := ⟨bk, o + i * 3 + 1, none⟩) (by show bk < _; omega)] at e2
      rw [← hBr.cell (p := ⟨bk, o + i * 3 + 2, none⟩) (by show bk < _; omega)] at e3
      have hnx := Plan.text_next hd
      have hle : (Plan.text (ds.take i)).length + (Plan.line d).length ≤ (Plan.text ds).length := by
        rw [← List.length_append, ← hnx]
        exact Plan.text_take_le ds (i + 1)
      have hiI : (i : Int) < (N : Int) := by omega
      obtain ⟨A1, hA1⟩ : ∃ A1, A1 = A0 ++ Plan.word d.kind := ⟨_, rfl⟩
      obtain ⟨A2, hA2⟩ : ∃ A2, A2 = A1 ++ [32] := ⟨_, rfl⟩
      obtain ⟨A3, hA3⟩ : ∃ A3, A3 = A2 ++ d.path := ⟨_, rfl⟩
      have l0 : A0.length ≤ 4398046511104 := by rw [HA0.out]; omega
      have lp : d.path.length ≤ 4398046511104 := by
        have : d.path.length ≤ (Plan.line d).length := by unfold Plan.line; simp only [List.length_append]; omega
        omega
      have lw := Plan.word_le d.kind
      have l1 : A1.length ≤ 4398046511204 := by rw [hA1, List.length_append]; omega
      have l2 : A2.length ≤ 4398046511304 := by rw [hA2, List.length_append, List.length_singleton]; omega
      have l3 : A3.length ≤ 8796093023408 := by rw [hA3, List.length_append]; omega
      have q1 : ∀ w, (Op.stringOp .add (bs A0) (bs (Plan.word d.kind))).run Tryd.prog w = .ok (.string (bs A1)) w := fun w => by rw [hA1]; exact bs_add _ _ (by omega) w
      have q2 : ∀ w, (Op.stringOp .add (bs A1) ⟨#[32]⟩).run Tryd.prog w = .ok (.string (bs A2)) w := fun w => by rw [hA2]; exact bs_add _ [32] (by simp only [List.length_singleton]; omega) w
      have q3 : ∀ w, (Op.stringOp .add (bs A2) (bs d.path)).run Tryd.prog w = .ok (.string (bs A3)) w := fun w => by rw [hA3]; exact bs_add _ _ (by omega) w
      have HA3 : Hid (A3 = Plan.text (ds.take i) ++ (Plan.word d.kind ++ [32] ++ d.path)) := Lib.hid (by rw [hA3, hA2, hA1, HA0.out]; simp)
      have HNX := Lib.hid hnx
      have HB := Lib.hid hBr
      have hwd : ∀ w, Calls Tryd.prog 43 #[.int .i64 d.kind] w fun e w' => e = .returned (.string (bs (Plan.word d.kind))) ∧ w' = w := fun w => rword_any d.kind w
      have HWD := Lib.hid hwd
      obtain ⟨dk, hdk⟩ : ∃ x, x = d.kind := ⟨_, rfl⟩
      obtain ⟨dp, hdp⟩ : ∃ x, x = d.path := ⟨_, rfl⟩
      obtain ⟨dt, hdt⟩ : ∃ x, x = d.data := ⟨_, rfl⟩
      obtain ⟨W0, hW0⟩ : ∃ x, x = Plan.word d.kind := ⟨_, rfl⟩
      rw [← hW0] at q1 HWD
      rw [← hdk] at e1 HWD
      rw [← hdp] at e2 q3
      rw [← hdt] at e3
      have HDD := Lib.hid (And.intro hdk (And.intro hdp (And.intro hdt hW0)))
      clear hbc hd hA1 hA2 hA3 hnx hle hdk hdp hdt hW0 hwd
      go_wp2
      go_big_quiet ((go_at_call 43; exact Calls.quiet_of_same (HWD.out _)))
      have HB1 := Lib.hid (Below.drewN HB.out nq)
      obtain ⟨W, hW⟩ : ∃ W : World, W = wo.drewN nq := ⟨_, rfl⟩
      have f1 : W.cell? ⟨bk, o + i * 3, none⟩ = some (.int .i64 dk) := by rw [hW]; exact e1
      have f3 : W.cell? ⟨bk, o + i * 3 + 2, none⟩ = some (.string (bs dt)) := by rw [hW]; exact e3
      rw [← hW] at HB1 ⊢
      clear hW e1 e2 e3 q1 q2 q3
      by_cases h4 : dk = 4
      · have q4 : (dk == 4) = true := by rw [beq_iff_eq]; exact h4
        obtain ⟨X, hX⟩ : ∃ X, X = Plan.hexOf dt := ⟨_, rfl⟩
        obtain ⟨A4, hA4⟩ : ∃ A4, A4 = A3 ++ [32] := ⟨_, rfl⟩
        obtain ⟨A5, hA5⟩ : ∃ A5, A5 = A4 ++ X := ⟨_, rfl⟩
        obtain ⟨A6, hA6⟩ : ∃ A6, A6 = A5 ++ [10] := ⟨_, rfl⟩
        have hline : Plan.line d = (Plan.word d.kind ++ [32] ++ d.path) ++ [32] ++ X ++ [10] := by
          unfold Plan.line
          rw [if_pos (by rw [← HDD.out.1]; exact h4), hX, HDD.out.2.2.1]
          simp
        have hl5 : (Plan.text (ds.take i)).length + (Plan.line d).length ≤ 4398046511104 := by
          have := Plan.text_take_le ds (i + 1)
          rw [HNX.out, List.length_append] at this
          omega
        have l6 : A6.length ≤ 4398046511104 := by
          rw [hA6, hA5, hA4, HA3.out]
          rw [hline] at hl5
          simp only [List.length_append] at hl5 ⊢
          omega
        have l5 : A5.length ≤ 4398046511104 := by rw [hA6, List.length_append] at l6; omega
        have l4 : A4.length ≤ 4398046511104 := by rw [hA5, List.length_append] at l5; omega
        have l3' : A3.length ≤ 4398046511104 := by rw [hA4, List.length_append] at l4; omega
        have lX : X.length ≤ 4398046511104 := by rw [hA5, List.length_append] at l5; omega
        have ldt : dt.length ≤ 4398046511105 := by
          have := Plan.hexOf_ge dt
          rw [hX] at lX
          omega
        have q5 : ∀ w, (Op.stringOp .add (bs A3) ⟨#[32]⟩).run Tryd.prog w = .ok (.string (bs A4)) w := fun w => by rw [hA4]; exact bs_add _ [32] (by simp only [List.length_singleton]; omega) w
        have q6 : ∀ w, (Op.stringOp .add (bs A4) (bs X)).run Tryd.prog w = .ok (.string (bs A5)) w := fun w => by rw [hA5]; exact bs_add _ _ (by omega) w
        have q7 : ∀ w, (Op.stringOp .add (bs A5) ⟨#[10]⟩).run Tryd.prog w = .ok (.string (bs A6)) w := fun w => by rw [hA6]; exact bs_add _ [10] (by simp only [List.length_singleton]; omega) w
        have HEND : Hid (A6 = Plan.text (ds.take (i + 1))) := Lib.hid (by rw [HNX.out, hline, hA6, hA5, hA4, HA3.out]; simp)
        have HXX := Lib.hid hX
        clear hX hA4 hA5 hA6 hline hl5 h4
        go_wp2_with fail
        refine (rhex_any (bs dt) (by rw [bs_size]; omega) _).mono ?_
        rintro e w2 ⟨rfl, hb2⟩
        rw [bs_list, ← HXX.out]
        go_wp2
        go_roundw
        case rel => exact ⟨i + 1, by go_num, by omega, by rw [HEND.out], HB1.out.trans (hb2.mono HB1.out.size)⟩
        case measure => simp [intOf]; omega
      · have q4 : (dk == 4) = false := by rw [beq_eq_false_iff_ne]; exact h4
        obtain ⟨A6, hA6⟩ : ∃ A6, A6 = A3 ++ [10] := ⟨_, rfl⟩
        have hline : Plan.line d = (Plan.word d.kind ++ [32] ++ d.path) ++ [10] := by
          unfold Plan.line
          rw [if_neg (by rw [← HDD.out.1]; exact h4)]
          simp
        have q7 : ∀ w, (Op.stringOp .add (bs A3) ⟨#[10]⟩).run Tryd.prog w = .ok (.string (bs A6)) w := fun w => by rw [hA6]; exact bs_add _ [10] (by simp only [List.length_singleton]; omega) w
        have HEND : Hid (A6 = Plan.text (ds.take (i + 1))) := Lib.hid (by rw [HNX.out, hline, hA6, HA3.out]; simp)
        clear hA6 hline h4
        go_wp2
        go_roundw
        case rel => exact ⟨i + 1, by go_num, by omega, by rw [HEND.out], HB1.out⟩
        case measure => simp [intOf]; omega
    · have hfull : ds.take i = ds := List.take_of_length_le (by have := HN.out; omega)
      have HF := HA0.out
      rw [hfull] at HF
      have HFF := Lib.hid HF
      clear HF hfull
      go_wp2
      go_returns
      exact ⟨by rw [← HFF.out]; rfl, hBr⟩
/-- A region whose first n operations read, or call quietly, in whatever order; then its tail, in the order of the text. -/
theorem still_tail {P : Program} {id : Nat} {Q : Exit → Act → World → Prop} {a : Act} {w : World} {l : List Oper} (n : Nat) (hm : P.follows .mixedOrders = true) (hB : Region.lexTailB .any l.toArray n = true)
    (h : ∀ w2, w2 = w.drew → wpStill P l.toArray w2 (fun a' => wpList P l.toArray Q (l.drop n) a' w2) (l.take n) a) : (Code.region id l.toArray true).wp P Q a w :=
  wp_region_still_tail n hm hB (h _ rfl)
set_option maxHeartbeats 1000000 in
set_option maxRecDepth 100000 in
theorem rprint_any {w : World} {B : Nat} {v : Value} {ds : List Plan.D} (h : Deeds w B v ds) (hB : B ≤ w.heap.size) (hn : ds.length ≤ 1048576) (hsz : ∀ d ∈ ds, d.path.length ≤ 1048576 ∧ d.data.length ≤ 1048576) :
    Calls Tryd.prog 13 #[v] w fun e w' => e = .returned (printRes ds) ∧ Below w.heap.size w w' := by
  have HCK := Lib.hid (rcheck_any h hB (by omega) (fun d hd => by have := hsz d hd; omega))
  obtain ⟨a1, c1, rfl⟩ := h.form
  cases hok : Plan.ok ds
  · have HF : Hid (printRes ds = .tuple #[.string ByteArray.empty, .int .i64 44]) := Lib.hid (by unfold printRes; rw [hok]; rfl)
    have hc := Plan.code_no hok
    clear hok
    go_enter Tryd.func13, Tryd.ntmps13
    go_wp2_with fail
    refine HCK.out.mono ?_
    rintro e w1 ⟨rfl, hb1⟩
    rw [hc]
    go_wp2_with fail
    go_returns
    exact ⟨by rw [HF.out]; rfl, hb1⟩
  have HF : Hid (printRes ds = .tuple #[.string (bs (Plan.text ds)), .int .i64 0]) := Lib.hid (by unfold printRes; rw [if_pos hok])
  have hc := Plan.code_yes hok
  have htl : (Plan.text ds).length ≤ 4398046511104 := by
    have := Plan.text_le hsz hn ds.length
    rw [List.take_of_length_le (Nat.le_refl _)] at this
    omega
  have HH := Lib.hid h
  clear h hok
  go_enter Tryd.func13, Tryd.ntmps13
  go_wp2_with fail
  refine HCK.out.mono ?_
  rintro e w1 ⟨rfl, hb1⟩
  rw [hc]
  have HD1 := Lib.hid (HH.out.below hb1 hB)
  have hz1 := hb1.size
  go_wp2_with fail
  refine (rtext_any HD1.out (by omega) (by omega) htl).mono ?_
  rintro e w2 ⟨rfl, hb2⟩
  go_wp2_with fail
  go_returns
  exact ⟨by rw [HF.out]; rfl, hb1.trans (hb2.mono hz1)⟩
end Go.Proofs.YtnbjdfiembbmmaaDoor

/- The document's data: the walk. -/
namespace Go.Proofs.YtnbjdfiembbmmaaDoor
open Go.RowKit
set_option linter.unusedSimpArgs false
set_option linter.unusedVariables false
namespace Plan
theorem val_lt' {c : UInt8} : rdig c < 16 := by
  unfold rdig
  cases h : val c with
  | none => decide
  | some x => exact val_lt h
/-- The document's reading of digits. -/
def rdataOf : List UInt8 → List UInt8
  | a :: b :: r => UInt8.ofNat (16 * rdig a + rdig b) :: rdataOf r
  | _ => []
theorem rdataOf_next {l : List UInt8} {k : Nat} {a b : UInt8} (ha : l[2 * k]? = some a) (hb : l[2 * k + 1]? = some b) : rdataOf (l.take (2 * (k + 1))) = rdataOf (l.take (2 * k)) ++ [UInt8.ofNat (16 * rdig a + rdig b)] := by
  induction k generalizing l with
  | zero =>
    match l, ha, hb with
    | x :: y :: r, ha, hb =>
      simp at ha hb
      subst ha hb
      simp [rdataOf]
  | succ k ih =>
    match l, ha, hb with
    | x :: y :: r, ha, hb =>
      have h1 : r[2 * k]? = some a := by rw [← ha, show 2 * (k + 1) = 2 * k + 1 + 1 by omega]; rfl
      have h2 : r[2 * k + 1]? = some b := by rw [← hb, show 2 * (k + 1) + 1 = (2 * k + 1) + 1 + 1 by omega]; rfl
      have h := ih h1 h2
      rw [show 2 * (k + 1 + 1) = 2 * (k + 1) + 1 + 1 by omega, show 2 * (k + 1) = 2 * k + 1 + 1 by omega]
      simp only [List.take_succ_cons, rdataOf, List.cons_append]
      rw [show 2 * k + 1 + 1 = 2 * (k + 1) by omega, h]
    | [x], ha, hb => simp at hb
    | [], ha, hb => simp at hb
theorem rdataOf_end (l : List UInt8) (k : Nat) (h : l.length ≤ 2 * k + 1) (hk : 2 * k ≤ l.length) : rdataOf (l.take (2 * k)) = rdataOf l := by
  induction k generalizing l with
  | zero =>
    match l, h with
    | [], _ => rfl
    | [x], _ => rfl
  | succ k ih =>
    match l, h, hk with
    | x :: y :: r, h, hk =>
      have := ih r (by simp at h; omega) (by simp at hk; omega)
      rw [show 2 * (k + 1) = 2 * k + 1 + 1 by omega]
      simp only [List.take_succ_cons, rdataOf, this]
    | [x], h, hk => simp at hk; omega
    | [], h, hk => simp at hk
end Plan
theorem u8_in {n : Nat} (h : n < 256) : IntKind.u8.wrap (n : Int) = (n : Int) := by
  unfold IntKind.wrap
  simp [IntKind.signed, IntKind.bits]
  omega
set_option maxHeartbeats 2000000 in
set_option maxRecDepth 100000 in
theorem rdata_any (s : ByteArray) (hs : s.size ≤ 35184372088832) (w : World) :
    Calls Tryd.prog 44 #[.string s] w fun e w' => e = .returned (.string (bs (Plan.rdataOf s.data.toList))) ∧ Below w.heap.size w w' := by
  have HSL := Lib.hid (bal_length s)
  obtain ⟨i0, hi, hz0, hz1, hz2⟩ := info_parts infoByte
  go_enter Tryd.func44, Tryd.ntmps44
  go_wp2
  go_loopw [3, 4] (fun v p wr => ∃ k m : Nat, p = .int .i64 m ∧ m = 2 * k ∧ m ≤ s.size ∧ wr.ownsRow w.heap.size 5 1 v k (Go.Lib.byteCells (Plan.rdataOf (s.data.toList.take m))) ∧ Below w.heap.size w wr) (fun _ p _ => s.size - (intOf p).toNat)
  case atStart => exact ⟨0, 0, rfl, rfl, by omega, World.ownsRow_nil w _ _ 1, Below.refl _ _⟩
  case round =>
    obtain ⟨k, m, rfl, hm, hk, hown, hBr⟩ := hrel
    have hz := hBr.size
    obtain ⟨a1, c1, rfl⟩ := own_form hown
    by_cases hks : m + 1 < s.size
    · have hm1 : m < s.size := by omega
      have HC := Lib.hid (byte_at s hm1)
      have HC1 := Lib.hid (byte_at s hks)
      have r1 := Plan.val_lt' (c := s[m])
      have r2 := Plan.val_lt' (c := s[m + 1])
      have HNX : Hid (Plan.rdataOf (s.data.toList.take (m + 2)) = Plan.rdataOf (s.data.toList.take m) ++ [UInt8.ofNat (16 * Plan.rdig s[m] + Plan.rdig s[m + 1])]) := Lib.hid (by
        have e1 := HC.out
        have e2 := HC1.out
        have := Plan.rdataOf_next (k := k) (l := s.data.toList) (a := s[m]) (b := s[m + 1]) (by rw [← hm]; exact e1) (by rw [← hm]; exact e2)
        rw [← hm, show 2 * (k + 1) = m + 2 by omega] at this
        exact this)
      obtain ⟨x, hx⟩ : ∃ x, x = Plan.rdig s[m] := ⟨_, rfl⟩
      obtain ⟨y, hy⟩ : ∃ y, y = Plan.rdig s[m + 1] := ⟨_, rfl⟩
      rw [← hx] at r1 HNX
      rw [← hy] at r2 HNX
      have D1 : Hid (∀ w, Calls Tryd.prog 63 #[.int .u8 s[m].toNat] w fun e w' => e = .returned (.int .u8 (x : Nat)) ∧ w' = w) := Lib.hid (fun w => by rw [hx]; exact rdigit_any _ w)
      have D2 : Hid (∀ w, Calls Tryd.prog 63 #[.int .u8 s[m + 1].toNat] w fun e w' => e = .returned (.int .u8 (y : Nat)) ∧ w' = w) := Lib.hid (fun w => by rw [hy]; exact rdigit_any _ w)
      have HOWN := Lib.hid hown
      have HM := Lib.hid hm
      have hi1 : (m : Int) + 1 < (s.size : Int) := by omega
      have t1 : IntKind.i64.wrap ((m : Int) + 1) = (m : Int) + 1 := IntWalk.i64_in _ (by omega)
      have t2 : ((m : Int) + 1).toNat = m + 1 := by omega
      have t3 : (0 : Int) ≤ (m : Int) + 1 := by omega
      have t4 : IntKind.u8.wrap (16 * (x : Int)) = 16 * (x : Int) := by
        rw [show (16 * (x : Int)) = ((16 * x : Nat) : Int) by omega]
        exact u8_in (by omega)
      have t5 : IntKind.u8.wrap (16 * (x : Int) + (y : Int)) = 16 * (x : Int) + (y : Int) := by
        rw [show (16 * (x : Int) + (y : Int)) = ((16 * x + y : Nat) : Int) by omega]
        exact u8_in (by omega)
      clear hx hy hown hm
      go_wp2
      have hkm : 2 * k ≤ m := by have := HM.out; omega
      go_region_held3 (fun _ => True) (trivial) (first
        | ((go_at_call 63); (with_reducible refine (D1.out _).mono ?_); rintro e w2 ⟨rfl, rfl⟩)
        | ((go_at_call 63); (with_reducible refine (D2.out _).mono ?_); rintro e w2 ⟨rfl, rfl⟩)
        | ((refine step_append_lies _ (by rfl) _ _ _ (by rfl) w.heap.size 5 i0 (.int .u8 0) 1 1 Tryd.underlying46 hi hz0 hz1 hz2 rfl (by decide) (.slice a1 k c1) k _ (by rfl) ((HOWN.out.alloc _).drew) ⟨wr.heap.size, 0, none⟩ 1 1 [.int .u8 (16 * (x : Int) + (y : Int))] (by rfl) (by rfl) (World.news_of_block (cs := #[.int .u8 (16 * (x : Int) + (y : Int))]) (t := 5) (fr := (0, 0)) (heap_alloc_new wr _)) (by simp [Value.oneCell']) (by omega) (by unfold maxLen; omega) (by omega) (by simp; omega) (wr.heap.size + 1) (by simp) ?_; intro gg cap w1 hown1 hgrow1 hat hlt)))
      all_goals
        have hbA : Below w.heap.size w w1 := Below.grown (show Below w.heap.size w ((wr.alloc (.cells #[.int .u8 (16 * (x : Int) + (y : Int))] 5)).drewN 1) from Below.drewN (hBr.alloc hz _) 1) hgrow1 (by simp; omega) (fun g hg => (HOWN.out.lt g hg).1)
        go_wp2
        go_roundw
        case rel => exact ⟨k + 1, m + 2, by go_num, by have := HM.out; omega, by omega, by
          rw [HNX.out]
          have h2 := hown1
          unfold Go.Lib.byteCells at h2 ⊢
          rw [List.map_append]
          simp only [List.map_cons, List.map_nil]
          rw [show (UInt8.ofNat (16 * x + y)).toNat = 16 * x + y from Num.ofNat_toNat (by omega)]
          rw [show ((16 * x + y : Nat) : Int) = 16 * (x : Int) + (y : Int) by omega]
          exact h2, hbA⟩
        case measure => simp [intOf]; omega
    · have hown2 := hown
      rw [hm, Plan.rdataOf_end _ k (by rw [HSL.out]; omega) (by rw [HSL.out]; omega)] at hown2
      have hcv := own_string hown2
      clear hown2 hown hm
      go_wp2
      go_returns
      exact ⟨rfl, hBr⟩
end Go.Proofs.YtnbjdfiembbmmaaDoor

/- The document's Parse: in plain words, and its walk. -/
namespace Go.Proofs.YtnbjdfiembbmmaaDoor
open Go.RowKit
set_option linter.unusedSimpArgs false
set_option linter.unusedVariables false
namespace Plan
theorem rdig_dig (n : Nat) (h : n < 16) : rdig (dig n) = n := by
  unfold rdig
  rw [val_dig n h]
  rfl
theorem rdata_hexs : ∀ (l : List UInt8), rdataOf (hexs l) = l
  | [] => rfl
  | c :: l => by
    have ih := rdata_hexs l
    have h := c.toNat_lt
    show rdataOf (dig (c.toNat / 16) :: dig (c.toNat % 16) :: hexs l) = _
    unfold rdataOf
    rw [ih, rdig_dig _ (by omega), rdig_dig _ (by omega), show 16 * (c.toNat / 16) + c.toNat % 16 = c.toNat by omega]
    simp
theorem rdata_hex (l : List UInt8) : rdataOf (hexOf l) = l := by
  unfold hexOf
  split
  · rename_i e; rw [e]; rfl
  · exact rdata_hexs l
theorem rdataOf_le : ∀ (l : List UInt8), (rdataOf l).length ≤ l.length
  | [] => by simp [rdataOf]
  | [_] => by simp [rdataOf]
  | a :: b :: r => by
    have := rdataOf_le r
    simp only [rdataOf, List.length_cons]
    omega
/-- The kind that stands behind some rounds. -/
def kindTo (j : Nat) (w : List UInt8) : Int := if 1 ≤ kindOf w ∧ kindOf w < j then kindOf w else 0
theorem kindTo_one (w : List UInt8) : kindTo 1 w = 0 := by
  unfold kindTo
  rw [if_neg (by omega)]
theorem kindTo_yes {j : Nat} {w : List UInt8} (h1 : 1 ≤ j) (h : kindOf w = j) : kindTo (j + 1) w = j := by
  unfold kindTo
  rw [if_pos (by omega), h]
theorem kindTo_no {j : Nat} {w : List UInt8} (h : kindOf w ≠ j) : kindTo (j + 1) w = kindTo j w := by
  unfold kindTo
  by_cases h1 : 1 ≤ kindOf w ∧ kindOf w < j
  · rw [if_pos h1, if_pos (by omega)]
  · rw [if_neg h1, if_neg (by omega)]
/-- The document's deed of a line. -/
def rdeed : List (List UInt8) → Option D
  | w :: p :: r => some ⟨kindTo 5 w, p, if kindTo 5 w = 4 then (match r with | x :: _ => rdataOf x | [] => []) else []⟩
  | _ => none
def rdeeds : List (List (List UInt8)) → Option (List D)
  | [] => some []
  | l :: r => match rdeed l, rdeeds r with
    | some d, some ds => some (d :: ds)
    | _, _ => none
theorem rdeeds_append : ∀ (a b : List (List (List UInt8))), rdeeds (a ++ b) = (rdeeds a).bind fun x => (rdeeds b).map (x ++ ·)
  | [], b => by cases h : rdeeds b <;> simp [rdeeds, h]
  | l :: r, b => by
    have ih := rdeeds_append r b
    simp only [List.cons_append, rdeeds, ih]
    cases rdeed l with
    | none => rfl
    | some d =>
      cases rdeeds r with
      | none => rfl
      | some x => cases rdeeds b <;> simp
theorem rdeeds_next {r : List (List (List UInt8))} {k : Nat} {l : List (List UInt8)} {out : List D} {d : D} (h : rdeeds (r.take k) = some out) (hl : r[k]? = some l) (hd : rdeed l = some d) : rdeeds (r.take (k + 1)) = some (out ++ [d]) := by
  rw [List.take_add_one, hl, rdeeds_append, h]
  simp [rdeeds, hd]
theorem rdeeds_bad {r : List (List (List UInt8))} {k : Nat} {l : List (List UInt8)} (hl : r[k]? = some l) (hd : rdeed l = none) : rdeeds r = none := by
  have h := List.getElem?_eq_some_iff.1 hl
  have e : r = r.take k ++ (l :: r.drop (k + 1)) := by
    have e1 : r = r.take k ++ r.drop k := (List.take_append_drop k r).symm
    rw [List.drop_eq_getElem_cons h.1, h.2] at e1
    exact e1
  rw [e, rdeeds_append]
  cases rdeeds (r.take k) with
  | none => rfl
  | some x => simp [rdeeds, hd]
theorem rdeed_words {d : D} (h1 : 1 ≤ d.kind) (h2 : d.kind ≤ 4) (h3 : d.kind = 4 ∨ d.data = []) : rdeed (wordsOf d) = some d := by
  obtain ⟨k, p, x⟩ := d
  have hw := (kind_word h1 h2).1
  have hk5 : kindTo 5 (word k) = k := by
    unfold kindTo
    rw [hw]
    have h2' : k ≤ 4 := h2
    exact if_pos ⟨h1, by show k < 5; omega⟩
  unfold wordsOf
  by_cases hk : k = 4
  · subst hk
    simp only [if_true]
    show some (⟨kindTo 5 (word 4), p, if kindTo 5 (word 4) = 4 then rdataOf (hexOf x) else []⟩ : D) = _
    rw [hk5, if_pos rfl, rdata_hex]
  · rw [if_neg hk]
    have hx : x = [] := h3.resolve_left hk
    subst hx
    show some (⟨kindTo 5 (word k), p, if kindTo 5 (word k) = 4 then [] else []⟩ : D) = _
    rw [hk5, if_neg hk]
theorem rdeeds_words : ∀ {ds : List D}, (∀ d ∈ ds, 1 ≤ d.kind ∧ d.kind ≤ 4 ∧ (d.kind = 4 ∨ d.data = []) ∧ pathOk d.path = true ∧ free d.path = true) → rdeeds (ds.map wordsOf) = some ds
  | [], _ => rfl
  | d :: r, h => by
    obtain ⟨h1, h2, h3, _⟩ := h d List.mem_cons_self
    have ih := rdeeds_words fun x hx => h x (List.mem_cons_of_mem _ hx)
    simp only [List.map_cons, rdeeds, rdeed_words h1 h2 h3, ih]
/-- What the document answers is what plan.Parse answers. -/
theorem rparse {T : List UInt8} {ls : List (List (List UInt8))} (hs : Scan.spec T = .inr ls) :
    parse T = match rdeeds ls.tail with
      | none => (44, [])
      | some ds => if ok ds && decide (text ds = T) then (0, ds) else (44, []) := by
  rcases parse_code T with h0 | ⟨h0, h1⟩
  · obtain ⟨ds, hds⟩ : ∃ ds, ds = (parse T).2 := ⟨_, rfl⟩
    have hP : parse T = (0, ds) := by rw [hds, ← h0]
    obtain ⟨htx, hok⟩ := text_parse hP
    have hsp : Scan.spec T = .inr ([planW] :: ds.map wordsOf) := by
      rw [← htx, text_lines]
      have := Scan.spec_append (lines_good (ok_all hok)) []
      rw [List.append_nil] at this
      rw [this]
      show Sum.inr _ = _
      rw [List.append_nil]
    rw [hs] at hsp
    injection hsp with e
    rw [hP, e, List.tail_cons, rdeeds_words (ok_all hok)]
    simp [hok, htx]
  · have h44 : parse T = (44, []) := by
      have e : parse T = ((parse T).1, []) := by rw [← h1]
      rw [e]
      congr 1
      unfold parse at h0 ⊢
      rw [hs] at h0 ⊢
      cases ls with
      | nil => rfl
      | cons x r =>
        simp only at h0 ⊢
        split
        · rename_i hx
          rw [if_pos hx] at h0
          split
          · rename_i ds hds
            rw [hds] at h0
            simp only at h0
            split
            · rename_i hok; rw [if_pos hok] at h0; exact absurd rfl h0
            · rfl
          · rfl
        · rfl
    rw [h44]
    cases hr : rdeeds ls.tail with
    | none => rfl
    | some ds =>
      simp only
      split
      · rename_i hb
        simp only [Bool.and_eq_true, decide_eq_true_eq] at hb
        have := parse_text hb.1
        rw [hb.2, h44] at this
        exact absurd (congrArg Prod.fst this) (by simp)
      · rfl
end Plan
set_option maxHeartbeats 8000000 in
set_option maxRecDepth 100000 in
theorem rparse_any (s : ByteArray) (hs : s.size ≤ 1048576) (w : World) :
    Calls Tryd.prog 19 #[.string s] w (ParsePost s.data.toList w) := by
  obtain ⟨i0, hi, hz0, hz1, hz2⟩ := info_parts infoDeed
  cases hsp : Scan.spec s.data.toList with
  | inl n =>
    have HA := Lib.hid (ans_bad (s := s) (most := s.size) (by omega) hsp)
    have HP : Hid (Plan.parse s.data.toList = (22, [])) := Lib.hid (by unfold Plan.parse; rw [hsp])
    clear hsp
    go_enter Tryd.func19, Tryd.ntmps19
    go_wp2_with fail
    refine (rlines_ans s _ (by omega) _).mono ?_
    rintro e w1 ⟨va, hsa, rfl, hla, hb1⟩
    rw [HA.out] at hla ⊢
    clear hla
    go_wp2_with fail
    go_returns
    exact ParsePost.bad HP.out hb1
  | inr ls =>
    have HA := Lib.hid (ans_ok (s := s) (most := s.size) (by omega) hsp)
    have hz := Scan.ans_sizes s s.size
    rw [HA.out] at hz
    have HZ := Lib.hid hz.2
    obtain ⟨N, hN⟩ : ∃ N, N = ls.length := ⟨_, rfl⟩
    have hlen : N ≤ 1048577 := by have : ls.length ≤ s.size + 1 := hz.1; omega
    have HPAR := Lib.hid (Plan.rparse hsp)
    have HWL : Hid (∀ l : List (List UInt8), (∃ k : Nat, ls[k]? = some l) → ∀ p ∈ l, p.length ≤ 1048576) := Lib.hid (fun l ⟨k, hl⟩ p hp => by
      have h1 := (Scan.spec_form hsp).1
      have h2 := Scan.unlines_line hl
      have h3 := (Scan.glue_words l).2 p hp
      have h4 := congrArg List.length h1
      rw [bal_length] at h4
      omega)
    have HNC : Hid (N ≤ 1048577 ∧ ∀ ds : List Plan.D, ds.length ≤ N - 1 → ds.length ≤ 1048576) := Lib.hid ⟨hlen, fun ds h => by omega⟩
    have HN := Lib.hid hN
    clear hsp hz hN
    go_enter Tryd.func19, Tryd.ntmps19
    go_wp2_with fail
    refine (rlines_ans s _ (by omega) _).mono ?_
    rintro e w1 ⟨va, hsa, rfl, hla, hb1⟩
    rw [HA.out] at hla ⊢
    have hvs := hla.grid_rows
    have hrow := hla.row
    rw [← HN.out] at hrow
    obtain ⟨vs, hvsd⟩ : ∃ vs, vs = List.zipWith (fun h (l : List (List UInt8)) => rv h l.length) hsa ls := ⟨_, rfl⟩
    rw [← hvsd] at hvs hrow
    obtain ⟨a0, c0, rfl⟩ := own_form hrow
    have HVS := Lib.hid hvs
    have HROW := Lib.hid hrow
    clear hla hvs hrow hvsd
    go_wp2_with fail
    go_loopw [7, 8] (fun p q wr => ∃ (vl : Value) (m k : Nat) (out : List Plan.D), p = vl ∧ q = .int .i64 m ∧ m ≤ k + 1 ∧ k + 1 ≤ m ∧ k ≤ N - 1 ∧ Plan.rdeeds (ls.tail.take k) = some out ∧ out.length = k ∧ (∀ d ∈ out, d.path.length ≤ 1048576 ∧ d.data.length ≤ 1048576) ∧ wr.ownsRow w1.heap.size 54 3 vl k (deedCells out) ∧ Below w1.heap.size w1 wr) (fun _ q _ => N - (intOf q).toNat)
    case atStart => exact ⟨_, 1, 0, [], rfl, rfl, by omega, by omega, by omega, rfl, rfl, fun d hd => by simp at hd, World.ownsRow_nil _ _ _ _, Below.refl _ _⟩
    case round =>
      obtain ⟨vl, m, k, out, rfl, rfl, hmk1, hmk2, hk, hpar, hol, hsz, hown, hBr⟩ := hrel
      obtain ⟨wo, rfl⟩ : ∃ x, x = wr := ⟨wr, rfl⟩
      have HPK := Lib.hid hpar
      have HOL := Lib.hid hol
      have HSZ := Lib.hid hsz
      have HOWN := Lib.hid hown
      obtain ⟨al, cl, rfl⟩ := own_form hown
      clear hpar hol hsz hown
      have hzw := hBr.size
      by_cases hmN : m < N
      · obtain ⟨l, hl⟩ : ∃ l, ls[m]? = some l := ⟨_, List.getElem?_eq_getElem (by have := HN.out; omega)⟩
        have hlt : ls.tail[k]? = some l := by rw [List.getElem?_tail, show k + 1 = m by omega]; exact hl
        obtain ⟨u, hu⟩ : ∃ u, vs[m]? = some u := ⟨_, List.getElem?_eq_getElem (by have := HVS.out.1; have := HN.out; simp at *; omega)⟩
        have hru := HVS.out.2 m u l hu hl
        have hlz := HZ.out l (List.mem_of_getElem? hl)
        obtain ⟨g, cap, hvv, hg1, hg2⟩ := own_some HROW.out (by omega)
        injection hvv with ha0 _ hc0
        subst ha0
        subst hc0
        have e1 : wo.cell? ⟨g, m, none⟩ = some u := by
          rw [hBr.cell (p := ⟨g, m, none⟩) (by show g < _; omega), HROW.out.cellAt m (by omega)]; exact hu
        obtain ⟨b2, o2, c2, hue, hcc2, hb2, hcc⟩ := hru.at (by simpa using hlz.2)
        rw [List.length_map] at hue
        subst hue
        have HCW : Hid (∀ (W : World), Below w1.heap.size w1 W → ∀ j x, l[j]? = some x → W.cell? ⟨b2, o2 + j, none⟩ = some (.string (bs x))) := Lib.hid (fun W hW j x hx => by
          rw [hW.cell (p := ⟨b2, o2 + j, none⟩) (by show b2 < _; omega)]
          exact hcc j (sv x) (by rw [List.getElem?_map, hx]; rfl))
        have HL := Lib.hid hlt
        have HLL := Lib.hid hl
        have hll : l.length ≤ 1048577 := by omega
        have hlp : 0 < l.length := hlz.2
        clear hcc hl hlt hu hru hlz
        have hb2w : b2 < wo.heap.size := by omega
        have hgw : g < wo.heap.size := by omega
        by_cases hl2 : l.length < 2
        · have HP : Hid (Plan.parse s.data.toList = (44, [])) := Lib.hid (by
            rw [HPAR.out, Plan.rdeeds_bad HL.out (by
              match l, hl2 with
              | [], _ => rfl
              | [_], _ => rfl
              | _ :: _ :: _, h => simp at h; omega)])
          go_wp2_with fail
          go_returns
          exact ParsePost.bad HP.out (hb1.trans (hBr.mono hb1.size))
        obtain ⟨w0, hw0⟩ : ∃ x, l[0]? = some x := ⟨_, List.getElem?_eq_getElem hlp⟩
        obtain ⟨pp, hpp⟩ : ∃ x, l[1]? = some x := ⟨_, List.getElem?_eq_getElem (by omega)⟩
        have e2 : wo.cell? ⟨b2, o2 + 1, none⟩ = some (.string (bs pp)) := HCW.out wo hBr 1 pp hpp
        have HW0 := Lib.hid hw0
        have HPP := Lib.hid hpp
        have hl2' : (1 : Int) < (l.length : Int) := by omega
        have hl0' : (0 : Int) < (l.length : Int) := by omega
        clear hw0 hpp
        go_wp2_with fail
        go_loopw [11] (fun p wr => ∃ j : Nat, p = .int .i64 j ∧ 1 ≤ j ∧ j ≤ 5 ∧ wr.cell? ⟨wo.heap.size, 0, none⟩ = some (.int .i64 (Plan.kindTo j w0)) ∧ wr.cell? ⟨wo.heap.size, 1, none⟩ = some (.string (bs pp)) ∧ wr.cell? ⟨wo.heap.size, 2, none⟩ = some (.string ⟨#[]⟩) ∧ (∀ j, wr.frozen? ⟨wo.heap.size, j, none⟩ = false) ∧ wo.heap.size < wr.heap.size ∧ wr.ownsRow w1.heap.size 54 3 (.slice al k cl) k (deedCells out) ∧ Below w1.heap.size w1 wr) (fun p _ => 5 - (intOf p).toNat)
        case atStart => exact ⟨1, rfl, by omega, by omega, by simp [Plan.kindTo_one], by simp, by simp, by intro j; simp, by simp, HOWN.out.alloc _, hBr.alloc hzw _⟩
        case round =>
          obtain ⟨j, rfl, hj1, hj5, f0, f1, f2, hfz, hbW, hownW, hBW⟩ := hrel
          obtain ⟨W, rfl⟩ : ∃ x, x = wr := ⟨wr, rfl⟩
          obtain ⟨bd, hbd⟩ : ∃ bd, bd = wo.heap.size := ⟨_, rfl⟩
          rw [← hbd] at f0 f1 f2 hfz hbW ⊢
          have hbd1 : w1.heap.size ≤ bd := by omega
          have HBD := Lib.hid hbd
          have HOWW := Lib.hid hownW
          have HBW := Lib.hid hBW
          have hzW := hBW.size
          have HNOT : Hid ((Value.slice al k cl).ownBlock = none ∨ (Value.slice al k cl).ownBlock ≠ some bd) := Lib.hid (own_not HOWN.out (by omega))
          have h00 : W.cell? ⟨b2, o2, none⟩ = some (.string (bs w0)) := by have := HCW.out W hBW 0 w0 HW0.out; simpa using this
          have fz0 := hfz 0
          have fz2 := hfz 2
          have HFZ := Lib.hid hfz
          clear hbd hownW hBW hfz
          by_cases hj : j < 5
          · obtain ⟨wd, hwd⟩ : ∃ x, x = Plan.word (j : Int) := ⟨_, rfl⟩
            have hq := sv_inj (a := wd) (b := w0)
            have hwk := Plan.kind_word (k := (j : Int)) (by omega) (by omega)
            have HWD : Hid (∀ w, Calls Tryd.prog 43 #[.int .i64 j] w fun e w' => e = .returned (.string (bs wd)) ∧ w' = w) := Lib.hid (fun w => by rw [hwd]; exact rword_any j w)
            by_cases he : wd = w0
            · have hk : Plan.kindOf w0 = j := by rw [← he, hwd]; exact hwk.1
              have HK : Hid (Plan.kindTo (j + 1) w0 = j) := Lib.hid (Plan.kindTo_yes hj1 hk)
              rw [decide_eq_true he] at hq
              clear he hk hwk hwd
              go_wp2
              go_big_quiet ((go_at_call 43; exact Calls.quiet_of_same (HWD.out _)))
              go_wp2
              go_roundw
              case rel => exact ⟨j + 1, by go_num, by omega, by omega, by
                rw [HK.out]; exact World.cell?_setCell_same' _ _ _ (by simp only [World.cell?_drewN]; rw [f0]; rfl), by
                rw [World.cell?_setCell_other _ _ _ _ (by simp)]; exact f1, by
                rw [World.cell?_setCell_other _ _ _ _ (by simp)]; exact f2, fun i => by
                rw [World.frozen?_setCell]; exact HFZ.out i, by
                simpa using hbW, (show World.ownsRow (W.drewN nq) w1.heap.size 54 3 (.slice al k cl) k (deedCells out) from HOWW.out).kept (setCell_grown _ ⟨bd, 0, none⟩ _) HNOT.out, (Below.drewN HBW.out _).setCell (p := ⟨bd, 0, none⟩) (by show _ ≤ bd; omega) _⟩
              case measure => simp [intOf]; omega
            · have hk : Plan.kindOf w0 ≠ j := fun e => he (by rw [hwd]; exact Plan.word_kind e (by omega))
              have HK : Hid (Plan.kindTo (j + 1) w0 = Plan.kindTo j w0) := Lib.hid (Plan.kindTo_no hk)
              rw [decide_eq_false he] at hq
              clear he hk hwk hwd
              go_wp2
              go_big_quiet ((go_at_call 43; exact Calls.quiet_of_same (HWD.out _)))
              go_wp2
              go_roundw
              case rel => exact ⟨j + 1, by go_num, by omega, by omega, by
                rw [HK.out]; exact f0, f1, f2, HFZ.out, hbW, HOWW.out, Below.drewN HBW.out _⟩
              case measure => simp [intOf]; omega
          · obtain rfl : j = 5 := by omega
            obtain ⟨kd, hkd⟩ : ∃ x, x = Plan.kindTo 5 w0 := ⟨_, rfl⟩
            rw [← hkd] at f0
            have HKD := Lib.hid hkd
            clear hkd
            have hlf : ∃ r2, l = w0 :: pp :: r2 := by
              have h0 := HW0.out
              have h1 := HPP.out
              match l, h0, h1 with
              | [], h0, _ => simp at h0
              | [a], _, h1 => simp at h1
              | a :: b :: r2, h0, h1 => simp at h0 h1; exact ⟨r2, by rw [h0, h1]⟩
            have HLF := Lib.hid hlf
            have hppl : pp.length ≤ 1048576 := HWL.out l ⟨m, HLL.out⟩ pp (List.mem_of_getElem? HPP.out)
            have HCX : Hid (∀ j x, l[j]? = some x → W.cell? ⟨b2, o2 + j, none⟩ = some (.string (bs x))) := Lib.hid (HCW.out W HBW.out)
            clear hlf
            by_cases hdt : kd = 4 ∧ 2 < l.length
            · obtain ⟨x, hx⟩ : ∃ x, l[2]? = some x := ⟨_, List.getElem?_eq_getElem hdt.2⟩
              have g2 := HCX.out 2 x hx
              have hxl : x.length ≤ 1048576 := HWL.out l ⟨m, HLL.out⟩ x (List.mem_of_getElem? hx)
              obtain ⟨y, hy⟩ : ∃ y, y = Plan.rdataOf x := ⟨_, rfl⟩
              have hrd : Plan.rdeed l = some ⟨kd, pp, y⟩ := by
                obtain ⟨r2, e⟩ := HLF.out
                rw [e] at hx ⊢
                cases r2 with
                | nil => simp at hx
                | cons x' r3 =>
                  simp at hx
                  show some (⟨Plan.kindTo 5 w0, pp, if Plan.kindTo 5 w0 = 4 then Plan.rdataOf x' else []⟩ : Plan.D) = _
                  rw [← HKD.out, if_pos hdt.1, hx, hy]
              have HNEXT : Hid (Plan.rdeeds (ls.tail.take (k + 1)) = some (out ++ [⟨kd, pp, y⟩])) := Lib.hid (Plan.rdeeds_next HPK.out HL.out hrd)
              have HSZ2 : Hid (∀ d ∈ out ++ [(⟨kd, pp, y⟩ : Plan.D)], d.path.length ≤ 1048576 ∧ d.data.length ≤ 1048576) := Lib.hid (fun d hd => by
                rcases List.mem_append.1 hd with hd | hd
                · exact HSZ.out d hd
                · simp at hd; subst hd; exact ⟨hppl, by show y.length ≤ _; rw [hy]; exact Nat.le_trans (Plan.rdataOf_le x) hxl⟩)
              have q4 : (kd == 4) = true := by rw [beq_iff_eq]; exact hdt.1
              have hl3 : (2 : Int) < (l.length : Int) := by have := hdt.2; omega
              have HDAT : Hid (∀ w, Calls Tryd.prog 44 #[.string (bs x)] w fun e w' => e = .returned (.string (bs y)) ∧ Below w.heap.size w w') := Lib.hid (fun w => by
                have := rdata_any (bs x) (by rw [bs_size]; omega) w
                rw [bs_list, ← hy] at this
                exact this)
              clear hdt hx hy hrd
              go_wp2_with fail
              refine (HDAT.out _).mono ?_
              rintro e w5 ⟨rfl, hb5⟩
              obtain ⟨hc5, hf5⟩ := bcell hb5
              have hz5 := hb5.size
              have k0 : w5.cell? ⟨bd, 0, none⟩ = some (.int .i64 kd) := by rw [hc5 _ _ hbW]; exact f0
              have k1 : w5.cell? ⟨bd, 1, none⟩ = some (.string (bs pp)) := by rw [hc5 _ _ hbW]; exact f1
              have k2 : w5.cell? ⟨bd, 2, none⟩ = some (.string ⟨#[]⟩) := by rw [hc5 _ _ hbW]; exact f2
              have kf2 : w5.frozen? ⟨bd, 2, none⟩ = false := by rw [hf5 _ _ hbW]; exact fz2
              have HB3 : Hid (Below w1.heap.size w1 (w5.setCell ⟨bd, 2, none⟩ (.string (bs y)))) := Lib.hid ((HBW.out.trans (hb5.mono hzW)).setCell (p := ⟨bd, 2, none⟩) (by show w1.heap.size ≤ bd; omega) _)
              have HOW3 := Lib.hid ((HOWW.out.kept (Below.grow hb5) (by cases al <;> simp [Value.ownBlock])).kept (setCell_grown w5 ⟨bd, 2, none⟩ (.string (bs y))) HNOT.out)
              clear hc5 hf5
              go_wp2_with (at_builtin; refine wpList_append_own _ rfl _ _ 22 rfl w1.heap.size 54 i0 (.agg #[.int .i64 0, .string ByteArray.empty, .string ByteArray.empty]) 3 40 Tryd.underlying22 hi hz0 hz1 hz2 rfl (by decide) _ _ _ rfl (HOW3.out.alloc _) ⟨w5.heap.size, 0, none⟩ 1 1 [.int .i64 kd, .string (bs pp), .string (bs y)] rfl rfl (new_cells2 _ _ (by first | rfl | simp) _ _) (fun x hx => by simp at hx; rcases hx with rfl | rfl | rfl <;> rfl) (by unfold maxLen; omega) (by omega) (by simp; omega) ?_; intro v4 w4 hown4 hgrow4 hnil4)
              obtain ⟨a4, c4, rfl⟩ := own_form hown4
              have hb4 : Below w1.heap.size w1 w4 := Below.grown (HB3.out.alloc (by first | omega | (simp; omega)) _) hgrow4 (by simp; omega) (fun g hg => (HOW3.out.lt g hg).1)
              go_roundw
              case rel => exact ⟨_, m + 1, k + 1, out ++ [⟨kd, pp, y⟩], rfl, by go_num, by omega, by omega, by omega, HNEXT.out, by simp [HOL.out], HSZ2.out, by
                have h5 := hown4
                rw [show deedCells (out ++ [⟨kd, pp, y⟩]) = deedCells out ++ [.int .i64 kd, .string (bs pp), .string (bs y)] by simp [deedCells, dcells]]
                exact h5, hb4⟩
              case measure => simp [intOf]; omega
            · obtain ⟨y, hy⟩ : ∃ y : List UInt8, y = [] := ⟨_, rfl⟩
              have hrd : Plan.rdeed l = some ⟨kd, pp, y⟩ := by
                obtain ⟨r2, e⟩ := HLF.out
                rw [e] at hdt ⊢
                simp only [Plan.rdeed]
                rw [← HKD.out, hy]
                by_cases h4 : kd = 4
                · cases r2 with
                  | nil => simp
                  | cons x' r3 => exact absurd ⟨h4, by simp⟩ hdt
                · rw [if_neg h4]
              have HNEXT : Hid (Plan.rdeeds (ls.tail.take (k + 1)) = some (out ++ [⟨kd, pp, y⟩])) := Lib.hid (Plan.rdeeds_next HPK.out HL.out hrd)
              have HSZ2 : Hid (∀ d ∈ out ++ [(⟨kd, pp, y⟩ : Plan.D)], d.path.length ≤ 1048576 ∧ d.data.length ≤ 1048576) := Lib.hid (fun d hd => by
                rcases List.mem_append.1 hd with hd | hd
                · exact HSZ.out d hd
                · simp at hd; subst hd; exact ⟨hppl, by show y.length ≤ _; rw [hy]; simp⟩)
              have hye : (⟨#[]⟩ : ByteArray) = bs y := by rw [hy]; rfl
              rw [hye] at f2
              have HB3 := HBW
              have HOW3 := HOWW
              have hcs : ((kd == 4) = true ∧ decide (2 < (l.length : Int)) = false) ∨ (kd == 4) = false := by
                by_cases h4 : kd = 4
                · exact Or.inl ⟨by rw [beq_iff_eq]; exact h4, decide_eq_false (by omega)⟩
                · exact Or.inr (by rw [beq_eq_false_iff_ne]; exact h4)
              clear hdt hy hrd hye
              rcases hcs with ⟨q4, q5⟩ | q4
              · go_wp2_with (at_builtin; refine wpList_append_own _ rfl _ _ 22 rfl w1.heap.size 54 i0 (.agg #[.int .i64 0, .string ByteArray.empty, .string ByteArray.empty]) 3 40 Tryd.underlying22 hi hz0 hz1 hz2 rfl (by decide) _ _ _ rfl (HOW3.out.alloc _) ⟨W.heap.size, 0, none⟩ 1 1 [.int .i64 kd, .string (bs pp), .string (bs y)] rfl rfl (new_cells2 _ _ (by first | rfl | simp) _ _) (fun x hx => by simp at hx; rcases hx with rfl | rfl | rfl <;> rfl) (by unfold maxLen; omega) (by omega) (by simp; omega) ?_; intro v4 w4 hown4 hgrow4 hnil4)
                obtain ⟨a4, c4, rfl⟩ := own_form hown4
                have hb4 : Below w1.heap.size w1 w4 := Below.grown (HB3.out.alloc (by first | omega | (simp; omega)) _) hgrow4 (by simp; omega) (fun g hg => (HOW3.out.lt g hg).1)
                go_roundw
                case rel => exact ⟨_, m + 1, k + 1, out ++ [⟨kd, pp, y⟩], rfl, by go_num, by omega, by omega, by omega, HNEXT.out, by simp [HOL.out], HSZ2.out, by
                  have h5 := hown4
                  rw [show deedCells (out ++ [⟨kd, pp, y⟩]) = deedCells out ++ [.int .i64 kd, .string (bs pp), .string (bs y)] by simp [deedCells, dcells]]
                  exact h5, hb4⟩
                case measure => simp [intOf]; omega
              · go_wp2_with (at_builtin; refine wpList_append_own _ rfl _ _ 22 rfl w1.heap.size 54 i0 (.agg #[.int .i64 0, .string ByteArray.empty, .string ByteArray.empty]) 3 40 Tryd.underlying22 hi hz0 hz1 hz2 rfl (by decide) _ _ _ rfl (HOW3.out.alloc _) ⟨W.heap.size, 0, none⟩ 1 1 [.int .i64 kd, .string (bs pp), .string (bs y)] rfl rfl (new_cells2 _ _ (by first | rfl | simp) _ _) (fun x hx => by simp at hx; rcases hx with rfl | rfl | rfl <;> rfl) (by unfold maxLen; omega) (by omega) (by simp; omega) ?_; intro v4 w4 hown4 hgrow4 hnil4)
                obtain ⟨a4, c4, rfl⟩ := own_form hown4
                have hb4 : Below w1.heap.size w1 w4 := Below.grown (HB3.out.alloc (by first | omega | (simp; omega)) _) hgrow4 (by simp; omega) (fun g hg => (HOW3.out.lt g hg).1)
                go_roundw
                case rel => exact ⟨_, m + 1, k + 1, out ++ [⟨kd, pp, y⟩], rfl, by go_num, by omega, by omega, by omega, HNEXT.out, by simp [HOL.out], HSZ2.out, by
                  have h5 := hown4
                  rw [show deedCells (out ++ [⟨kd, pp, y⟩]) = deedCells out ++ [.int .i64 kd, .string (bs pp), .string (bs y)] by simp [deedCells, dcells]]
                  exact h5, hb4⟩
                case measure => simp [intOf]; omega
      · have hfull : ls.tail.take k = ls.tail := List.take_of_length_le (by rw [List.length_tail]; have := HN.out; omega)
        have hpar2 := HPK.out
        rw [hfull] at hpar2
        have HP0 : Hid (Plan.parse s.data.toList = if Plan.ok out && decide (Plan.text out = s.data.toList) then (0, out) else (44, [])) := Lib.hid (by rw [HPAR.out, hpar2])
        have hlo : out.length = k := HOL.out
        have HDS : Hid (Deeds wo wo.heap.size (.slice al k cl) out) := Lib.hid (by
          have := HOWN.out
          rw [← hlo] at this ⊢
          exact Deeds.of_own this)
        have hn6 : out.length ≤ 1048576 := by rw [hlo]; omega
        have htl : (Plan.text out).length ≤ 4398046511104 := by
          have := Plan.text_le HSZ.out hn6 out.length
          rw [List.take_of_length_le (Nat.le_refl _)] at this
          omega
        have HCK := Lib.hid (rcheck_any (v := .slice al k cl) HDS.out (Nat.le_refl _) (by rw [hlo]; omega) (fun d hd => by have := HSZ.out d hd; omega))
        have HTX := Lib.hid (fun (W : World) (h : Below wo.heap.size wo W) => rtext_any (v := .slice al k cl) (HDS.out.below h (Nat.le_refl _)) h.size (by omega) htl)
        have HDD := Lib.hid (fun (W : World) (h : Below wo.heap.size wo W) => ((HDS.out.below h (Nat.le_refl _)).mono h.size : Deeds W W.heap.size _ _))
        have hex : ¬ ((m : Int) < (N : Int)) := by omega
        cases hok : Plan.ok out
        · have HP : Hid (Plan.parse s.data.toList = (44, [])) := Lib.hid (by rw [HP0.out, hok]; rfl)
          have hcode := Plan.code_no hok
          clear hok hpar2 hfull hlo hn6 htl
          go_wp2_with fail
          refine HCK.out.mono ?_
          rintro e w3 ⟨rfl, hb3⟩
          rw [hcode]
          go_wp2_with fail
          go_returns
          exact ParsePost.bad HP.out (hb1.trans ((hBr.trans (hb3.mono hBr.size)).mono hb1.size))
        · have hcode := Plan.code_yes hok
          by_cases hT : Plan.text out = s.data.toList
          · have HP : Hid (Plan.parse s.data.toList = (0, out)) := Lib.hid (by rw [HP0.out, hok, decide_eq_true hT]; rfl)
            have HTS : Hid (bs (Plan.text out) = s) := Lib.hid (by rw [hT]; exact bs_of s)
            clear hok hpar2 hfull hlo hn6 htl hT
            go_wp2_with fail
            refine HCK.out.mono ?_
            rintro e w3 ⟨rfl, hb3⟩
            rw [hcode]
            go_wp2_with fail
            refine (HTX.out _ hb3).mono ?_
            rintro e w4 ⟨rfl, hb4⟩
            rw [HTS.out]
            have hq : (s.toList == s.toList) = true := by simp
            have HB4 : Hid (Below wo.heap.size wo w4) := Lib.hid (hb3.trans (hb4.mono hb3.size))
            go_wp2_with fail
            go_returns
            exact ParsePost.good HP.out (HDD.out _ HB4.out) (hb1.trans ((hBr.trans (HB4.out.mono hBr.size)).mono hb1.size))
          · have HP : Hid (Plan.parse s.data.toList = (44, [])) := Lib.hid (by rw [HP0.out, hok, decide_eq_false hT]; rfl)
            obtain ⟨TT, hTT⟩ : ∃ TT, TT = bs (Plan.text out) := ⟨_, rfl⟩
            have hq : (TT.toList == s.toList) = false := by
              rw [hTT, ← bs_of s, sv_inj]
              exact decide_eq_false hT
            rw [← hTT] at HTX
            clear hok hpar2 hfull hlo hn6 htl hT hTT
            go_wp2_with fail
            refine HCK.out.mono ?_
            rintro e w3 ⟨rfl, hb3⟩
            rw [hcode]
            go_wp2_with fail
            refine (HTX.out _ hb3).mono ?_
            rintro e w4 ⟨rfl, hb4⟩
            go_wp2_with fail
            go_returns
            exact ParsePost.bad HP.out (hb1.trans ((hBr.trans ((hb3.trans (hb4.mono hb3.size)).mono hBr.size)).mono hb1.size))
end Go.Proofs.YtnbjdfiembbmmaaDoor

/- PlanReads' and PlanWrites' walks. -/
namespace Go.Proofs.YtnbjdfiembbmmaaDoor
open Go.RowKit
set_option linter.unusedSimpArgs false
set_option linter.unusedVariables false
set_option maxHeartbeats 1000000 in
set_option maxRecDepth 100000 in
theorem plan_reads_law (s : ByteArray) (hs : s.size ≤ 1048576) (w : World) :
    Calls Tryd.prog 4 #[.string s] w fun e w' => e = .returned (.bool true) ∧ Below w.heap.size w w' := by
  have HKN := Lib.hid (planKnown parseAll)
  obtain ⟨c, hc⟩ : ∃ c, c = (Plan.parse s.data.toList).1 := ⟨_, rfl⟩
  obtain ⟨ds, hds⟩ : ∃ ds, ds = (Plan.parse s.data.toList).2 := ⟨_, rfl⟩
  have hP : Plan.parse s.data.toList = (c, ds) := by rw [hc, hds]
  have hlen : ds.length ≤ 1048576 := by
    rcases Plan.parse_code s.data.toList with h0 | ⟨_, h1⟩
    · have := (Plan.text_sizes (Plan.text_parse (show Plan.parse s.data.toList = (0, ds) by rw [hP, hc, h0])).2).1
      rw [(Plan.text_parse (show Plan.parse s.data.toList = (0, ds) by rw [hP, hc, h0])).1, bal_length] at this
      omega
    · rw [hds, h1]; simp
  have HP := Lib.hid hP
  clear hP hc hds
  go_enter Tryd.func4, Tryd.ntmps4
  go_wp2_with fail
  refine (parse_any s (by omega) _).mono ?_
  rintro e w1 ⟨v, rfl, hd1, hb1⟩
  rw [HP.out] at hd1 ⊢
  have HD1 := Lib.hid hd1
  obtain ⟨a1, c1, rfl⟩ := hd1.form
  clear hd1
  go_wp2_with fail
  refine (rparse_any s hs _).mono ?_
  rintro e w2 ⟨v2, rfl, hd2, hb2⟩
  rw [HP.out] at hd2 ⊢
  have HD2 := Lib.hid hd2
  obtain ⟨a2, c2, rfl⟩ := hd2.form
  clear hd2
  have HD1' := Lib.hid ((HD1.out.below hb2 (Nat.le_refl _)).mono hb2.size)
  have hq : (c == c) = true := by simp
  have hz1 := hb1.size
  have hz2 := hb2.size
  go_wp2_with fail
  refine (sameD_any HD1'.out HD2.out (by omega) (by omega)).mono ?_
  rintro e w3 ⟨rfl, q3, rfl⟩
  rw [show decide (ds = ds) = true by simp]
  go_wp2_with fail
  refine (HKN.out _).mono ?_
  rintro e w4 ⟨rfl, hb4⟩
  go_wp2
  go_returns
  exact ⟨rfl, (Below.drewN (hb1.trans (hb2.mono hz1)) q3).trans (hb4.mono (by show _ ≤ w2.heap.size; omega))⟩
set_option maxHeartbeats 2000000 in
set_option maxRecDepth 100000 in
theorem plan_writes_law {w : World} {v : Value} {ds : List Plan.D} (h : Deeds w w.heap.size v ds) (hn : ds.length ≤ 1048576) (hsz : ∀ d ∈ ds, d.path.length ≤ 1048576 ∧ d.data.length ≤ 1048576) :
    Calls Tryd.prog 3 #[v] w fun e w' => e = .returned (.bool true) ∧ Below w.heap.size w w' := by
  have HKN := Lib.hid (planKnown parseAll)
  have HH := Lib.hid h
  have HSZ := Lib.hid hsz
  obtain ⟨a1, c1, rfl⟩ := h.form
  have HCK := Lib.hid (fun (W : World) (h : Below w.heap.size w W) => check_any (HH.out.below h (Nat.le_refl _)) h.size (by omega) (fun d hd => by have := HSZ.out d hd; omega))
  have HRC := Lib.hid (fun (W : World) (h : Below w.heap.size w W) => rcheck_any (HH.out.below h (Nat.le_refl _)) h.size (by omega) (fun d hd => by have := HSZ.out d hd; omega))
  have HRP := Lib.hid (fun (W : World) (h : Below w.heap.size w W) => rprint_any (HH.out.below h (Nat.le_refl _)) h.size hn HSZ.out)
  have HDD := Lib.hid (fun (W : World) (hb : Below w.heap.size w W) => ((HH.out.below hb (Nat.le_refl _)).mono hb.size : Deeds W W.heap.size _ _))
  have HTL := Lib.hid (Plan.text_le HSZ.out hn ds.length)
  clear h hsz
  cases hok : Plan.ok ds
  · have HF : Hid (printRes ds = .tuple #[.string ByteArray.empty, .int .i64 44]) := Lib.hid (by unfold printRes; rw [hok]; rfl)
    have HC := Lib.hid (Plan.code_no hok)
    obtain ⟨E, hE⟩ : ∃ E, E = ByteArray.empty := ⟨_, rfl⟩
    rw [← hE] at HF
    have hss : (E.toList == E.toList) = true := by simp
    clear hok hE
    go_enter Tryd.func3, Tryd.ntmps3
    go_wp2_with fail
    refine (print_any HH.out (Nat.le_refl _) hn HSZ.out).mono ?_
    rintro e w1 ⟨rfl, hb1⟩
    rw [HF.out]
    have hz1 := hb1.size
    go_wp2_with fail
    refine (HRP.out _ hb1).mono ?_
    rintro e w2 ⟨rfl, hb2⟩
    rw [HF.out]
    have HB2 := Lib.hid (hb1.trans (hb2.mono hz1))
    go_wp2_with fail
    refine (HCK.out _ HB2.out).mono ?_
    rintro e w3 ⟨rfl, hb3⟩
    rw [HC.out]
    have HB3 := Lib.hid (HB2.out.trans (hb3.mono HB2.out.size))
    go_wp2_with fail
    refine (HRC.out _ HB3.out).mono ?_
    rintro e w4 ⟨rfl, hb4⟩
    rw [HC.out]
    have HB4 := Lib.hid (HB3.out.trans (hb4.mono HB3.out.size))
    go_wp2_with fail
    refine (HKN.out _).mono ?_
    rintro e w5 ⟨rfl, hb5⟩
    go_wp2_with fail
    go_returns
    exact ⟨rfl, HB4.out.trans (hb5.mono HB4.out.size)⟩
  · obtain ⟨T, hT⟩ : ∃ T, T = bs (Plan.text ds) := ⟨_, rfl⟩
    have HF : Hid (printRes ds = .tuple #[.string T, .int .i64 0]) := Lib.hid (by unfold printRes; rw [if_pos hok, hT])
    have HC := Lib.hid (Plan.code_yes hok)
    have hss : (T.toList == T.toList) = true := by simp
    have HPT : Hid (Plan.parse T.data.toList = (0, ds)) := Lib.hid (by rw [hT]; exact Plan.parse_text hok)
    have HTS : Hid (T.size ≤ 3500000000000) := Lib.hid (by
      have := HTL.out
      rw [List.take_of_length_le (Nat.le_refl _)] at this
      rw [hT, bs_size]; omega)
    clear hok hT
    go_enter Tryd.func3, Tryd.ntmps3
    go_wp2_with fail
    refine (print_any HH.out (Nat.le_refl _) hn HSZ.out).mono ?_
    rintro e w1 ⟨rfl, hb1⟩
    rw [HF.out]
    have hz1 := hb1.size
    go_wp2_with fail
    refine (HRP.out _ hb1).mono ?_
    rintro e w2 ⟨rfl, hb2⟩
    rw [HF.out]
    have HB2 := Lib.hid (hb1.trans (hb2.mono hz1))
    go_wp2_with fail
    refine (HCK.out _ HB2.out).mono ?_
    rintro e w3 ⟨rfl, hb3⟩
    rw [HC.out]
    have HB3 := Lib.hid (HB2.out.trans (hb3.mono HB2.out.size))
    go_wp2_with fail
    refine (HRC.out _ HB3.out).mono ?_
    rintro e w4 ⟨rfl, hb4⟩
    rw [HC.out]
    have HB4 := Lib.hid (HB3.out.trans (hb4.mono HB3.out.size))
    go_wp2_with fail
    refine (HKN.out _).mono ?_
    rintro e w5 ⟨rfl, hb5⟩
    have HB5 := Lib.hid (HB4.out.trans (hb5.mono HB4.out.size))
    go_wp2_with fail
    refine (parse_any T HTS.out _).mono ?_
    rintro e w6 ⟨v6, rfl, hd6, hb6⟩
    rw [HPT.out] at hd6 ⊢
    have HD6 := Lib.hid hd6
    obtain ⟨a6, c6, rfl⟩ := hd6.form
    clear hd6
    have HB6 := Lib.hid (HB5.out.trans (hb6.mono HB5.out.size))
    go_wp2_with fail
    refine (sameD_any (HDD.out _ HB6.out) HD6.out (by omega) (by omega)).mono ?_
    rintro e w7 ⟨rfl, q7, rfl⟩
    rw [show decide (ds = ds) = true by simp]
    go_wp2
    go_returns
    exact ⟨rfl, Below.drewN HB6.out q7⟩
end Go.Proofs.YtnbjdfiembbmmaaDoor
