/- Join: the program's and the document's. -/
import Derived.Test.YtnbjdfiembbmmaaDoorScanParts
import Derived.Test.YtnbjdfiembbmmaaDoorScanJP
import Derived.Test.YtnbjdfiembbmmaaDoorBuilder
namespace Go.Proofs.YtnbjdfiembbmmaaDoor
open Go.RowKit
set_option linter.unusedSimpArgs false
set_option linter.unusedVariables false
/-- What Join answers. -/
def joinRes (ls : List (List (List UInt8))) : Value := if Scan.joinOk ls = true then .tuple #[sv (Scan.unlines ls), .int .i64 0] else .tuple #[.string ByteArray.empty, .int .i64 22]
theorem bs_append (a b : List UInt8) : bs a ++ bs b = bs (a ++ b) := by
  apply ByteArray.ext
  apply Array.toList_inj.1
  simp [bs]
theorem Join_row {w : World} {B : Nat} {v : Value} {l : List (List UInt8)} (h : Row w B v (l.map sv)) (hp : 0 < l.length) (hB : B ≤ w.heap.size) (hs : (Cut.glue 32 l).length ≤ 4194304) :
    Calls Tryd.prog 53 #[v, .string ⟨#[32]⟩] w fun e w' => e = .returned (.string (bs (Cut.glue 32 l))) ∧ Below w.heap.size w w' := by
  obtain ⟨bk, o, cap, rfl, hcap, hbk, hc⟩ := h.at (by simpa using hp)
  have hm : (l.map bs).map (·.data.toList) = l := by rw [List.map_map]; exact List.map_id _
  have hg : Go.Lib.join ((l.map bs).map (·.data.toList)) (⟨#[32]⟩ : ByteArray).data.toList = Cut.glue 32 l := by rw [hm]; exact Scan.glue_join_lib l
  have hw := (Scan.glue_words l).1
  have := Tryd.strings_Join bk o cap (l.map bs) ⟨#[32]⟩ w (fun j x hx => by
    rw [List.getElem?_map] at hx
    cases hh : l[j]? with
    | none => rw [hh] at hx; simp at hx
    | some y =>
      rw [hh] at hx; simp at hx; subst hx
      exact hc j (sv y) (by rw [List.getElem?_map, hh]; rfl)) (by omega) (by simp; omega) (by simpa using hcap) (by rw [hg]; omega)
  rw [hg] at this
  simp only [List.length_map] at this ⊢
  exact this
theorem builderAt_below {T e : TypeId} {B b : Nat} {p : Value} {xs : List Value} {w w' : World} (h : Go.Lib.BuilderAt T e B b p xs w) (hb : Below w.heap.size w w') : Go.Lib.BuilderAt T e B b p xs w' := by
  obtain ⟨hB, v, hbk, hown, hne⟩ := h
  have hlt : b < w.heap.size := by
    rcases Nat.lt_or_ge b w.heap.size with h' | h'
    · exact h'
    · simp [Array.getElem?_eq_none h'] at hbk
  exact ⟨hB, v, by rw [hb.block b hlt]; exact hbk, hown.kept (Below.grow hb) (by cases v.ownBlock <;> simp), hne⟩
theorem build_below {B b : Nat} {xs : List Value} {w w' : World} (h : Build B b xs w) (hb : Below w.heap.size w w') : Build B b xs w' := by
  rcases h with h | h
  · exact Or.inl (builderAt_below h hb)
  · exact Or.inr (builderAt_below h hb)
set_option maxHeartbeats 2000000 in
set_option maxRecDepth 100000 in
theorem join_any {w : World} {B : Nat} {v : Value} {ls : List (List (List UInt8))} (h : Grid w B v ls) (hB : B ≤ w.heap.size) (hs : (Scan.unlines ls).length ≤ 2097152) :
    Calls Tryd.prog 28 #[v] w fun e w' => e = .returned (joinRes ls) ∧ Below w.heap.size w w' := by
  obtain ⟨vs, hv, hn, hg⟩ := h.is
  have hlen := Scan.unlines_len ls
  obtain ⟨a1, c1, rfl⟩ := hv.form
  rw [hn]
  have HV := Lib.hid hv
  have HG := Lib.hid hg
  have HN := Lib.hid hn
  obtain ⟨N, hN⟩ : ∃ N, N = ls.length := ⟨_, rfl⟩
  rw [← hN] at hlen ⊢
  have HNN := Lib.hid hN
  have hNb : N ≤ 2097152 := by omega
  have HB0 := Lib.hid (Go.Lib.fresh_isBuilder 48 5 w)
  clear hv hg hn hN h hlen
  go_enter Tryd.func28, Tryd.ntmps28
  go_wp2
  go_loopw [11] (fun p wr => ∃ k : Nat, p = .int .i64 k ∧ k ≤ N ∧ Scan.joinOk (ls.take k) = true ∧ Build w.heap.size w.heap.size (Go.Lib.byteCells (Scan.unlines (ls.take k))) wr ∧ Below w.heap.size w wr) (fun p _ => N - (intOf p).toNat)
  case atStart => exact ⟨0, rfl, by omega, rfl, HB0.out, by go_grown⟩
  case round =>
    obtain ⟨k, rfl, hk, hok, hbd, hBr⟩ := hrel
    obtain ⟨wo, rfl⟩ : ∃ x, x = wr := ⟨wr, rfl⟩
    have HOK := Lib.hid hok
    have HBD := Lib.hid hbd
    clear hok hbd
    by_cases hkN : k < N
    · obtain ⟨l, hl⟩ : ∃ l, ls[k]? = some l := ⟨_, List.getElem?_eq_getElem (by have := HNN.out; omega)⟩
      obtain ⟨u, hu⟩ : ∃ u, vs[k]? = some u := ⟨_, List.getElem?_eq_getElem (by have := HNN.out; have := HN.out; omega)⟩
      obtain ⟨bv, cv, hve, hbB, hbc⟩ := HV.out.some (by have := HNN.out; have := HN.out; omega)
      injection hve with ha1 _ hc1
      subst ha1; subst hc1
      have e1 : wo.cell? (bv.add k) = some u := by
        rw [hBr.cell (p := bv.add k) (by rw [add_block]; omega)]
        exact hbc k u hu
      have hrow := (HG.out k u l hu hl).below hBr hB
      have hline := Scan.unlines_line hl
      have hwords := Scan.glue_words l
      have HW2 := Lib.hid hwords.2
      have hll : l.length ≤ 2097153 := by omega
      have HROW := Lib.hid hrow
      have HL := Lib.hid hl
      have hgl : (Cut.glue 32 l).length ≤ 2097152 := by omega
      have HLINE := Lib.hid hline
      clear hu hl hbc hrow hline hwords
      by_cases hp : 0 < l.length
      · obtain ⟨b2, c2, hue, hb2, hcc⟩ := HROW.out.some (by simpa using hp)
        rw [List.length_map] at hue
        subst hue
        have HCC := Lib.hid hcc
        clear hcc
        have hz : (((l.length : Nat) : Int) == 0) = false := by rw [beq_eq_false_iff_ne]; omega
        go_wp2
        go_loopw [20] (fun p wi => ∃ i : Nat, p = .int .i64 i ∧ i ≤ l.length ∧ (∀ c ∈ l.take i, Scan.isW c = true) ∧ wi = wo) (fun p _ => l.length - (intOf p).toNat)
        case atStart => exact ⟨0, rfl, by omega, fun c h => by simp at h, rfl⟩
        case round =>
          obtain ⟨i, rfl, hi, hall, rfl⟩ := hrel
          have HA := Lib.hid hall
          clear hall
          by_cases hil : i < l.length
          · obtain ⟨x, hx⟩ : ∃ x, l[i]? = some x := ⟨_, List.getElem?_eq_getElem hil⟩
            have e2 : wr.cell? (b2.add i) = some (.string (bs x)) := HCC.out i (sv x) (by rw [List.getElem?_map, hx]; rfl)
            have hxl : (bs x).size ≤ 9223372036854775807 := by
              have := HW2.out x (List.mem_of_getElem? hx)
              show x.toArray.size ≤ _
              simp; omega
            have HX := Lib.hid hx
            have HXL := Lib.hid hxl
            clear hx hxl
            by_cases hw : Scan.isW x = true
            · go_wp2_with fail
              refine (isWord_own x HXL.out _).mono ?_
              rintro e w2 ⟨rfl, rfl⟩
              rw [hw]
              go_wp2
              go_roundw
              case rel => exact ⟨i + 1, by go_num, by omega, all_take_next HA.out HX.out hw, trivial⟩
              case measure => simp [intOf]; omega
            · have hf : Scan.isW x = false := by simpa using hw
              have HF : Hid (joinRes ls = .tuple #[.string ByteArray.empty, .int .i64 22]) := Lib.hid (by
                unfold joinRes; rw [Scan.joinOk_word HL.out HX.out hf]; rfl)
              go_wp2_with fail
              refine (isWord_own x HXL.out _).mono ?_
              rintro e w2 ⟨rfl, rfl⟩
              rw [hf]
              go_wp2
              go_returns
              exact ⟨by rw [HF.out]; rfl, hBr⟩
          · have HAL := Lib.hid (all_take_full HA.out (by omega))
            have hadd : ∀ w, (Op.stringOp .add (bs (Cut.glue 32 l)) ⟨#[10]⟩).run Tryd.prog w = .ok (.string (bs (Cut.glue 32 l ++ [10]))) w := fun w => by
              have h1 := run_string_add_sum (P := Tryd.prog) w (bs (Cut.glue 32 l)) ⟨#[10]⟩ (by
                have e : (bs (Cut.glue 32 l)).size = (Cut.glue 32 l).length := by show (Cut.glue 32 l).toArray.size = _; simp
                have e2 : ByteArray.size ⟨#[10]⟩ = 1 := rfl
                omega)
              rw [h1]
              exact congrArg (fun x => Result.ok (Value.string x) w) (bs_append _ _)
            go_wp2_with fail
            refine (Join_row (HROW.out) hp (Nat.le_trans hB hBr.size) (by omega)).mono ?_
            rintro e w3 ⟨rfl, hb3⟩
            have HBD3 := Lib.hid (build_below HBD.out hb3)
            go_wp2_with fail
            refine (WriteString_any w.heap.size w.heap.size _ (bs (Cut.glue 32 l ++ [10])) _ HBD3.out (by
              have := HLINE.out
              have e : (bs (Cut.glue 32 l ++ [10])).size = (Cut.glue 32 l).length + 1 := by show (Cut.glue 32 l ++ [10]).toArray.size = _; simp
              rw [Go.Lib.byteCells_length]
              omega) (by have := hBr.size; have := hb3.size; omega)).mono ?_
            rintro e w4 ⟨rfl, hbd4, hb4⟩
            have hcells : Go.Lib.byteCells (Scan.unlines (ls.take k)) ++ Go.Lib.strCells (bs (Cut.glue 32 l ++ [10])) = Go.Lib.byteCells (Scan.unlines (ls.take (k + 1))) := by
              rw [Scan.unlines_take HL.out]
              simp [Go.Lib.byteCells, Go.Lib.strCells, bs]
            have HC4 := Lib.hid hcells
            have HBD4 := Lib.hid hbd4
            clear hcells hbd4
            go_wp2
            go_roundw
            case rel => exact ⟨k + 1, by go_num, by omega, Scan.joinOk_take HOK.out HL.out hp HAL.out, by rw [← HC4.out]; exact HBD4.out, (hBr.trans (hb3.mono hBr.size)).trans hb4⟩
            case measure => simp [intOf]; omega
      · have HF : Hid (joinRes ls = .tuple #[.string ByteArray.empty, .int .i64 22]) := Lib.hid (by
          unfold joinRes; rw [Scan.joinOk_empty HL.out hp]; rfl)
        obtain ⟨a2, c2, hue⟩ := HROW.out.form
        have hl0 : l.length = 0 := by omega
        rw [List.length_map, hl0] at hue
        subst hue
        go_wp2
        go_returns
        exact ⟨by rw [HF.out]; rfl, hBr⟩
    · have hfull : ls.take k = ls := List.take_of_length_le (by have := HNN.out; omega)
      have hok2 := HOK.out
      have hbd2 := HBD.out
      rw [hfull] at hok2 hbd2
      have HF : Hid (joinRes ls = .tuple #[sv (Scan.unlines ls), .int .i64 0]) := Lib.hid (by unfold joinRes; rw [if_pos hok2])
      have HBD2 := Lib.hid hbd2
      clear hok2 hbd2 hfull
      go_wp2_with fail
      refine (Tryd.Builder_String_any w.heap.size w.heap.size (Scan.unlines ls) _ HBD2.out hBr.size).mono ?_
      rintro e w5 ⟨rfl, hb5⟩
      go_wp2
      go_returns
      exact ⟨by rw [HF.out]; rfl, hBr.trans hb5⟩
end Go.Proofs.YtnbjdfiembbmmaaDoor
