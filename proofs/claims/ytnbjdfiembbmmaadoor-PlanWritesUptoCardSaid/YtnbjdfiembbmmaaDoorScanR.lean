/- Join of the document. -/
import Derived.Test.YtnbjdfiembbmmaaDoorScanJ
namespace Go.Proofs.YtnbjdfiembbmmaaDoor
open Go.RowKit
set_option linter.unusedSimpArgs false
set_option linter.unusedVariables false
theorem bs_size (l : List UInt8) : (bs l).size = l.length := by show l.toArray.size = _; simp
/-- A sum of texts as a run. -/
theorem bs_add (a b : List UInt8) (h : a.length + b.length ≤ 9223372036854775807) (w : World) : (Op.stringOp .add (bs a) (bs b)).run Tryd.prog w = .ok (.string (bs (a ++ b))) w := by
  have h1 := run_string_add_sum (P := Tryd.prog) w (bs a) (bs b) (by rw [bs_size, bs_size]; exact h)
  rw [h1]
  exact congrArg (fun x => Result.ok (Value.string x) w) (bs_append _ _)
set_option maxHeartbeats 4000000 in
set_option maxRecDepth 100000 in
theorem rjoin_any {w : World} {B : Nat} {v : Value} {ls : List (List (List UInt8))} (h : Grid w B v ls) (hs : (Scan.unlines ls).length ≤ 2097152) :
    Calls Tryd.prog 29 #[v] w fun e w' => e = .returned (joinRes ls) ∧ w' = w := by
  obtain ⟨vs, hv, hn, hg⟩ := h.is
  have hlen := Scan.unlines_len ls
  obtain ⟨a1, c1, rfl⟩ := hv.form
  rw [hn]
  have HV := Lib.hid hv
  have HG := Lib.hid hg
  have HN := Lib.hid hn
  obtain ⟨N, hN⟩ : ∃ N, N = ls.length := ⟨_, rfl⟩
  rw [← hN] at hlen ⊢
  have HNN := Lib.hid hN
  have hNb : N ≤ 2097152 := by omega
  clear hv hg hn hN h hlen
  go_enter Tryd.func29, Tryd.ntmps29
  go_wp2
  go_loopw [4, 5] (fun p q wr => ∃ k : Nat, p = .string (bs (Scan.unlines (ls.take k))) ∧ q = .int .i64 k ∧ k ≤ N ∧ Scan.joinOk (ls.take k) = true ∧ wr = w) (fun _ q _ => N - (intOf q).toNat)
  case atStart => exact ⟨0, rfl, rfl, by omega, rfl, rfl⟩
  case round =>
    obtain ⟨k, rfl, rfl, hk, hok, rfl⟩ := hrel
    obtain ⟨wo, rfl⟩ : ∃ x, x = wr := ⟨wr, rfl⟩
    have HOK := Lib.hid hok
    clear hok
    by_cases hkN : k < N
    · obtain ⟨l, hl⟩ : ∃ l, ls[k]? = some l := ⟨_, List.getElem?_eq_getElem (by have := HNN.out; omega)⟩
      obtain ⟨u, hu⟩ : ∃ u, vs[k]? = some u := ⟨_, List.getElem?_eq_getElem (by have := HNN.out; have := HN.out; omega)⟩
      obtain ⟨bv, cv, hve, hbB, hbc⟩ := HV.out.some (by have := HNN.out; have := HN.out; omega)
      injection hve with ha1 _ hc1
      subst ha1; subst hc1
      have e1 : wo.cell? (bv.add k) = some u := hbc k u hu
      have hrow := HG.out k u l hu hl
      have hline := Scan.unlines_line hl
      have hwords := Scan.glue_words l
      have HW2 := Lib.hid hwords.2
      have hll : l.length ≤ 2097153 := by omega
      have HROW := Lib.hid hrow
      have HL := Lib.hid hl
      have hgl : (Cut.glue 32 l).length ≤ 2097152 := by omega
      have HLINE := Lib.hid hline
      have hul : (Scan.unlines (ls.take k)).length ≤ 2097152 := by omega
      clear hu hl hbc hrow hline hwords
      by_cases hp : 0 < l.length
      · obtain ⟨b2, c2, hue, hb2, hcc⟩ := HROW.out.some (by simpa using hp)
        rw [List.length_map] at hue
        subst hue
        have HCC := Lib.hid hcc
        clear hcc
        have hz : (((l.length : Nat) : Int) == 0) = false := by rw [beq_eq_false_iff_ne]; omega
        go_wp2
        go_loopw [4, 6] (fun p q wi => ∃ i : Nat, p = .string (bs (Scan.unlines (ls.take k) ++ Cut.glue 32 (l.take i))) ∧ q = .int .i64 i ∧ i ≤ l.length ∧ (∀ c ∈ l.take i, Scan.isW c = true) ∧ wi = wo) (fun _ q _ => l.length - (intOf q).toNat)
        case atStart => exact ⟨0, by simp [Cut.glue], rfl, by omega, fun c h => by simp at h, rfl⟩
        case round =>
          obtain ⟨i, rfl, rfl, hi, hall, rfl⟩ := hrel
          have HA := Lib.hid hall
          clear hall
          have hgi := Scan.glue_take_le (l := l) i
          obtain ⟨A0, hA0⟩ : ∃ A0, A0 = Scan.unlines (ls.take k) ++ Cut.glue 32 (l.take i) := ⟨_, rfl⟩
          have hAl : A0.length ≤ 4194304 := by rw [hA0, List.length_append]; omega
          rw [← hA0]
          have HA0 := Lib.hid hA0
          clear hA0 hgi
          by_cases hil : i < l.length
          · obtain ⟨x, hx⟩ : ∃ x, l[i]? = some x := ⟨_, List.getElem?_eq_getElem hil⟩
            have e2 : wr.cell? (b2.add i) = some (.string (bs x)) := HCC.out i (sv x) (by rw [List.getElem?_map, hx]; rfl)
            have hxl : x.length ≤ 2097152 := by have := HW2.out x (List.mem_of_getElem? hx); omega
            have hxs : (bs x).size ≤ 9223372036854775807 := by rw [bs_size]; omega
            have HX := Lib.hid hx
            have HXL := Lib.hid hxs
            clear hx hxs
            by_cases hw : Scan.isW x = true
            · by_cases hi0 : i = 0
              · obtain ⟨A2, hA2⟩ : ∃ A2, A2 = A0 ++ x := ⟨_, rfl⟩
                have hadd : ∀ w, (Op.stringOp .add (bs A0) (bs x)).run Tryd.prog w = .ok (.string (bs A2)) w := fun w => by rw [hA2]; exact bs_add _ _ (by omega) w
                have HNX : Hid (A2 = Scan.unlines (ls.take k) ++ Cut.glue 32 (l.take (i + 1))) := Lib.hid (by
                  rw [hA2, HA0.out, List.take_add_one, HX.out, hi0]; simp [Cut.glue])
                have hi1 : ¬ (0 : Int) < (i : Int) := by omega
                clear hA2
                clear hi0 hxl
                go_wp2_with fail
                refine (isWord_ref x HXL.out _).mono ?_
                rintro e w2 ⟨rfl, rfl⟩
                rw [hw]
                go_wp2
                go_roundw
                case rel => exact ⟨i + 1, by rw [← HNX.out], by go_num, by omega, all_take_next HA.out HX.out hw, trivial⟩
                case measure => simp [intOf]; omega
              · obtain ⟨A1, hA1⟩ : ∃ A1, A1 = A0 ++ [32] := ⟨_, rfl⟩
                obtain ⟨A2, hA2⟩ : ∃ A2, A2 = A1 ++ x := ⟨_, rfl⟩
                have hadd1 : ∀ w, (Op.stringOp .add (bs A0) ⟨#[32]⟩).run Tryd.prog w = .ok (.string (bs A1)) w := fun w => by rw [hA1]; exact bs_add _ [32] (by simp only [List.length_singleton]; omega) w
                have hadd2 : ∀ w, (Op.stringOp .add (bs A1) (bs x)).run Tryd.prog w = .ok (.string (bs A2)) w := fun w => by rw [hA2]; exact bs_add _ _ (by rw [hA1, List.length_append, List.length_singleton]; omega) w
                have HNX : Hid (A2 = Scan.unlines (ls.take k) ++ Cut.glue 32 (l.take (i + 1))) := Lib.hid (by
                  rw [hA2, hA1, HA0.out, Scan.glue_take HX.out (by omega)]; simp)
                have hi1 : (0 : Int) < (i : Int) := by omega
                clear hA1 hA2
                clear hi0 hxl
                go_wp2_with fail
                refine (isWord_ref x HXL.out _).mono ?_
                rintro e w2 ⟨rfl, rfl⟩
                rw [hw]
                go_wp2
                go_roundw
                case rel => exact ⟨i + 1, by rw [← HNX.out], by go_num, by omega, all_take_next HA.out HX.out hw, trivial⟩
                case measure => simp [intOf]; omega
            · have hf : Scan.isW x = false := by simpa using hw
              have HF : Hid (joinRes ls = .tuple #[.string ByteArray.empty, .int .i64 22]) := Lib.hid (by
                unfold joinRes; rw [Scan.joinOk_word HL.out HX.out hf]; rfl)
              go_wp2_with fail
              refine (isWord_ref x HXL.out _).mono ?_
              rintro e w2 ⟨rfl, rfl⟩
              rw [hf]
              go_wp2
              go_returns
              exact ⟨by rw [HF.out]; rfl, rfl⟩
          · have HAL := Lib.hid (all_take_full HA.out (by omega))
            have hti : l.take i = l := List.take_of_length_le (by omega)
            obtain ⟨A2, hA2⟩ : ∃ A2, A2 = A0 ++ [10] := ⟨_, rfl⟩
            have hadd : ∀ w, (Op.stringOp .add (bs A0) ⟨#[10]⟩).run Tryd.prog w = .ok (.string (bs A2)) w := fun w => by rw [hA2]; exact bs_add _ [10] (by simp only [List.length_singleton]; omega) w
            have HNX : Hid (A2 = Scan.unlines (ls.take (k + 1))) := Lib.hid (by
              rw [hA2, HA0.out, hti, Scan.unlines_take HL.out]; simp)
            clear hA2
            clear hti
            go_wp2
            go_roundw
            case rel => exact ⟨k + 1, by rw [← HNX.out], by go_num, by omega, Scan.joinOk_take HOK.out HL.out hp HAL.out, trivial⟩
            case measure => simp [intOf]; omega
      · have HF : Hid (joinRes ls = .tuple #[.string ByteArray.empty, .int .i64 22]) := Lib.hid (by
          unfold joinRes; rw [Scan.joinOk_empty HL.out hp]; rfl)
        obtain ⟨a2, c2, hue⟩ := HROW.out.form
        have hl0 : l.length = 0 := by omega
        rw [List.length_map, hl0] at hue
        subst hue
        go_wp2
        go_returns
        exact ⟨by rw [HF.out]; rfl, rfl⟩
    · have hfull : ls.take k = ls := List.take_of_length_le (by have := HNN.out; omega)
      have hok2 := HOK.out
      rw [hfull] at hok2 ⊢
      have HF : Hid (joinRes ls = .tuple #[sv (Scan.unlines ls), .int .i64 0]) := Lib.hid (by unfold joinRes; rw [if_pos hok2])
      clear hok2 hfull
      go_wp2
      go_returns
      exact ⟨by rw [HF.out]; rfl, rfl⟩
end Go.Proofs.YtnbjdfiembbmmaaDoor
