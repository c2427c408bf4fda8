/- The document's text of a graph: the walk. -/
import Derived.Test.YtjiifieafnjpgaaDoorLockF4
import Derived.Test.YtjiifieafnjpgaaDoorLockW5
import Derived.Deep.RegionHeld3
namespace Go.Proofs.YtjiifieafnjpgaaDoor
open Go.RowKit
set_option linter.unusedSimpArgs false
set_option linter.unusedVariables false
open Lock
/-- The sums of a line of three words behind a text. -/
theorem text_adds (P : List UInt8) (K : ByteArray) (kw a b : List UInt8) (hP : P.length ≤ 2097152) (hK : K = bs (kw ++ [32])) (hk : kw.length ≤ 8) (ha : a.length ≤ 16) (hb : b.length ≤ 16) : ∃ t1 t2 t3 t4 t5 : List UInt8,
    (∀ w, (Op.stringOp .add (bs P) K).run Tryd.prog w = .ok (.string (bs t1)) w) ∧ (∀ w, (Op.stringOp .add (bs t1) (bs a)).run Tryd.prog w = .ok (.string (bs t2)) w) ∧ (∀ w, (Op.stringOp .add (bs t2) ⟨#[32]⟩).run Tryd.prog w = .ok (.string (bs t3)) w) ∧
    (∀ w, (Op.stringOp .add (bs t3) (bs b)).run Tryd.prog w = .ok (.string (bs t4)) w) ∧ (∀ w, (Op.stringOp .add (bs t4) ⟨#[10]⟩).run Tryd.prog w = .ok (.string (bs t5)) w) ∧ t5 = P ++ Scan.unline [kw, a, b] ∧ t5.length ≤ P.length + 48 := by
  subst hK
  refine ⟨P ++ (kw ++ [32]), P ++ (kw ++ [32]) ++ a, P ++ (kw ++ [32]) ++ a ++ [32], P ++ (kw ++ [32]) ++ a ++ [32] ++ b, P ++ (kw ++ [32]) ++ a ++ [32] ++ b ++ [10], fun w => bs_add _ _ (by simp; omega) w, fun w => bs_add _ _ (by simp; omega) w, fun w => bs_add _ [32] (by simp; omega) w, fun w => bs_add _ _ (by simp; omega) w, fun w => bs_add _ [10] (by simp; omega) w, ?_, ?_⟩
  · simp [Scan.unline, Cut.glue]
  · simp; omega
set_option maxHeartbeats 8000000 in
set_option maxRecDepth 100000 in
theorem rtext_any (w : World) (v : Value) (g : G) (hg : NodesAt w w.heap.size v g) (hmay : may g = true) :
    Calls Tryd.prog 17 #[.agg #[v]] w fun e w' => e = .returned (.string (bs (text g))) ∧ Below w.heap.size w w' := by
  have hform := may_form hmay
  obtain ⟨bk, o, cap, rfl, hcap, hbk, hat⟩ := hg.at (by omega)
  obtain ⟨N, hN⟩ : ∃ N, N = g.length := ⟨_, rfl⟩
  have HNODE : Hid (∀ (k : Nat) (x : Nd), g[k]? = some x → named k x = true ∧ pins x.ctx = true ∧ edges N x.edges = true) := Lib.hid (fun k x hx => by
    have := nodes_at g 0 hform.2.2 k x hx
    rw [Nat.zero_add, ← hN] at this
    exact node_parts this)
  have hmany : N ≤ 128 := by omega
  have hN1 : 1 ≤ N := by omega
  have HTL := Lib.hid (fun k => Tx_len hmay k)
  rw [← hN] at hcap ⊢
  have HN := Lib.hid hN
  have HAT := Lib.hid hat
  clear hg hat hN hmay hform
  go_enter Tryd.func17, Tryd.ntmps17
  go_wp2
  go_loopw [4, 3] (fun p q wr => ∃ k : Nat, p = .int .i64 k ∧ q = .string (bs (Tx g k)) ∧ k ≤ N ∧ Below w.heap.size w wr ∧ wr.cell? ⟨w.heap.size, 0, none⟩ = some (.slice (some ⟨bk, o, none⟩) N cap) ∧ w.heap.size < wr.heap.size) (fun p _ _ => N - (intOf p).toNat)
  case atStart => exact ⟨0, rfl, rfl, by omega, by go_grown, World.cell?_alloc_at _ _ _ _ rfl, by simp⟩
  case round =>
    obtain ⟨k, rfl, rfl, hk, hb, hgc, hsz⟩ := hrel
    obtain ⟨wo, rfl⟩ : ∃ x, x = wr := ⟨wr, rfl⟩
    by_cases hkN : k < N
    · obtain ⟨x, hx⟩ : ∃ x, g[k]? = some x := ⟨_, List.getElem?_eq_getElem (by have := HN.out; omega)⟩
      obtain ⟨cv, ev, hp, he, e0, e1, e2, e3, e4, e5⟩ := HAT.out k x hx
      have hnode := HNODE.out k x hx
      obtain ⟨nm, ⟨va, vb, vc⟩, cx, es⟩ := x
      dsimp only at hp he e0 e1 e2 e3 e4 e5 hnode
      have HPINS := Lib.hid hnode.2.1
      have HEDGES := Lib.hid hnode.2.2
      have HNAMED := Lib.hid hnode.1
      obtain ⟨ca, cc, rfl⟩ := RowZ.form hp
      obtain ⟨ea, ec, rfl⟩ := RowZ.form he
      rw [List.length_map] at hp he e4 e5
      rw [← hb.cell (p := ⟨bk, o + k * 6, none⟩) hbk] at e0
      rw [← hb.cell (p := ⟨bk, o + k * 6 + 1, none⟩) hbk] at e1
      rw [← hb.cell (p := ⟨bk, o + k * 6 + 2, none⟩) hbk] at e2
      rw [← hb.cell (p := ⟨bk, o + k * 6 + 3, none⟩) hbk] at e3
      rw [← hb.cell (p := ⟨bk, o + k * 6 + 4, none⟩) hbk] at e4
      rw [← hb.cell (p := ⟨bk, o + k * 6 + 5, none⟩) hbk] at e5
      unfold sv at e0
      have HP := Lib.hid hp
      have HE := Lib.hid he
      have HX := Lib.hid hx
      have hcl : cx.length ≤ 128 := by have h := HPINS.out; unfold pins at h; rw [Bool.and_eq_true] at h; simpa using names_few h.1
      have hel : es.length ≤ 128 := by have h := HEDGES.out; unfold edges at h; rw [Bool.and_eq_true] at h; simpa using names_few h.1
      have hnk : (k : Int) < (N : Int) := by omega
      clear hx hp he hnode
      obtain ⟨wa, hwa⟩ : ∃ y, y = wo.alloc (.cells #[.string (bs nm), .int .i64 va, .int .i64 vb, .int .i64 vc, .slice ca cx.length cc, .slice ea es.length ec] 38) := ⟨_, rfl⟩
      have hsix : Six wa wo.heap.size (.string (bs nm)) (.int .i64 va) (.int .i64 vb) (.int .i64 vc) (.slice ca cx.length cc) (.slice ea es.length ec) := by rw [hwa]; exact Six.new _ _ _ _ _ _ _ _
      have hza : wo.heap.size < wa.heap.size := by rw [hwa, World.size_alloc]; omega
      have hbwa : Below w.heap.size w wa := by rw [hwa]; exact hb.alloc hb.size _
      have hgca : wa.cell? ⟨w.heap.size, 0, none⟩ = some (.slice (some ⟨bk, o, none⟩) N cap) := by rw [hwa, World.cell?_alloc_old _ _ _ (by show w.heap.size ≠ _; omega)]; exact hgc
      have hlen := HTL.out k
      have HWA := Lib.hid hwa
      obtain ⟨P0, hP0⟩ : ∃ y, y = Tx g k ++ Scan.unline (headWords k ⟨nm, ⟨va, vb, vc⟩, cx, es⟩) := ⟨_, rfl⟩
      obtain ⟨P, hP⟩ : ∃ y, y = Tx g k := ⟨_, rfl⟩
      rw [← hP] at hlen hP0 ⊢
      clear hwa
      rcases Nat.eq_zero_or_pos k with hk0 | hk0
      · have hkz : (((k : Nat) : Int) == 0) = true := by rw [beq_iff_eq]; omega
        have hPe : P0 = P ++ [114, 111, 111, 116, 10] := by rw [hP0]; unfold headWords; rw [if_pos hk0]; rfl
        have s1 : ∀ w, (Op.stringOp .add (bs P) ⟨#[114, 111, 111, 116, 10]⟩).run Tryd.prog w = .ok (.string (bs P0)) w := fun w => by rw [hPe]; exact bs_add _ [114, 111, 111, 116, 10] (by simp; omega) w
        have hPl : P0.length ≤ 1049000 := by rw [hPe, List.length_append]; simp; omega
        have HP0 : Hid (P0 = Tx g k ++ Scan.unline (headWords k ⟨nm, ⟨va, vb, vc⟩, cx, es⟩)) := Lib.hid (by rw [hP0, hP])
        clear hP0 hk0 hPe hP
        go_wp2_with fail
        rw [← HWA.out]
        clear s1 hkz e0 e1 e2 e3 e4 e5
        obtain ⟨wi0, hwi0⟩ : ∃ y, y = wa := ⟨_, rfl⟩
        rw [← hwi0] at hsix hza hbwa hgca ⊢
        have HSIX := Lib.hid hsix
        have hbw0 := hbwa
        have HGC := Lib.hid hgca
        have hz0 := hza
        clear hwi0 hsix hgca hbwa
        obtain ⟨d0, d1, d2, d3, d4, d5⟩ := HSIX.out
        go_wp2
        go_loopw [6, 3] (fun p q wr => ∃ i : Nat, p = .int .i64 i ∧ q = .string (bs (P0 ++ Scan.unlines ((cx.take i).map pinWords))) ∧ i ≤ cx.length ∧ Below wi0.heap.size wi0 wr) (fun p _ _ => cx.length - (intOf p).toNat)
        case atStart => exact ⟨0, rfl, by simp [Scan.unlines], by omega, Below.refl _ _⟩
        case round =>
          obtain ⟨i, rfl, rfl, hi, hBi⟩ := hrel
          obtain ⟨wi, rfl⟩ : ∃ x, x = wr := ⟨wr, rfl⟩
          have hzi := hBi.size
          obtain ⟨d0, d1, d2, d3, d4, d5⟩ := HSIX.out.below hBi (by omega)
          have hbwi : Below w.heap.size w wi := hbw0.trans (hBi.mono hbw0.size)
          by_cases hil : i < cx.length
          · obtain ⟨p, hxp⟩ : ∃ y, cx[i]? = some y := ⟨_, List.getElem?_eq_getElem hil⟩
            obtain ⟨pn, ⟨pa, pb, pc⟩⟩ := p
            have hgood := pin_in HPINS.out _ (List.mem_of_getElem? hxp)
            dsimp only at hgood
            obtain ⟨bk2, o2, cap2, hve, hlc2, hk2, hu⟩ := HP.out.some (by rw [List.length_map]; omega)
            rw [List.length_map] at hve
            cases hve
            have hq : (cx.map pinCells)[i]? = some (pinCells ⟨pn, ⟨pa, pb, pc⟩⟩) := by rw [List.getElem?_map, hxp]; rfl
            have e0 := hu i _ hq 0 _ rfl
            rw [← hbwi.cell (p := ⟨bk2, o2 + i * 4 + 0, none⟩) (by show bk2 < _; omega)] at e0
            have e1 := hu i _ hq 1 _ rfl
            rw [← hbwi.cell (p := ⟨bk2, o2 + i * 4 + 1, none⟩) (by show bk2 < _; omega)] at e1
            have e2 := hu i _ hq 2 _ rfl
            rw [← hbwi.cell (p := ⟨bk2, o2 + i * 4 + 2, none⟩) (by show bk2 < _; omega)] at e2
            have e3 := hu i _ hq 3 _ rfl
            rw [← hbwi.cell (p := ⟨bk2, o2 + i * 4 + 3, none⟩) (by show bk2 < _; omega)] at e3
            rw [Nat.add_zero] at e0
            unfold sv at e0
            have k0 : wi.cell? ⟨wo.heap.size, 4, none⟩ = some (.slice (some ⟨bk2, o2, none⟩) cx.length cc) ∧ wi.cell? ⟨bk2, o2 + i * 4, none⟩ = some (.string (bs pn)) ∧ wi.cell? ⟨bk2, o2 + i * 4 + 1, none⟩ = some (.int .i64 pa) ∧ wi.cell? ⟨bk2, o2 + i * 4 + 2, none⟩ = some (.int .i64 pb) ∧ wi.cell? ⟨bk2, o2 + i * 4 + 3, none⟩ = some (.int .i64 pc) := ⟨d4, e0, e1, e2, e3⟩
            obtain ⟨vt, hvt⟩ : ∃ t, t = Ve.text ⟨pa, pb, pc⟩ := ⟨_, rfl⟩
            have hvl : vt.length ≤ 16 := by rw [hvt]; have := ver_short (v := ⟨pa, pb, pc⟩) hgood.2; omega
            have HV : Hid (∀ W, Below wi.heap.size wi W → Calls Tryd.prog 30 #[.agg #[.int .i64 pa, .int .i64 pb, .int .i64 pc]] W fun e w' => e = .returned (.string (bs vt)) ∧ Below W.heap.size W w') := Lib.hid (fun W hW => by
              rw [hvt, ← str_bs (v := ⟨pa, pb, pc⟩) hgood.2]
              exact VL.rprint_any pa pb pc W)
            have hlen : (P0 ++ Scan.unlines ((cx.take i).map pinWords)).length ≤ 2097152 := by have := pins_short HPINS.out i; rw [List.length_append]; omega
            obtain ⟨t1, t2, t3, t4, t5, s1, s2, s3, s4, s5, ht5, ht5l⟩ := text_adds (P0 ++ Scan.unlines ((cx.take i).map pinWords)) ⟨#[119, 105, 116, 104, 32]⟩ wWith pn vt hlen rfl (by decide) (name_short hgood.1) hvl
            have HNX : Hid (t5 = P0 ++ Scan.unlines ((cx.take (i + 1)).map pinWords)) := Lib.hid (by rw [ht5, unlines_next hxp, hvt, List.append_assoc]; rfl)
            obtain ⟨Q, hQ⟩ : ∃ Q, Q = P0 ++ Scan.unlines ((cx.take i).map pinWords) := ⟨_, rfl⟩
            rw [← hQ] at s1 ⊢
            have hqi : (i : Int) < (cx.length : Int) := by omega
            have hbwo : bk2 < wi.heap.size := by have := hbwi.size; omega
            clear hu hq hxp hgood hvt ht5 hQ hlen ht5l
            go_wp2_with fail
            go_region_held3 (fun w' => w'.cell? ⟨wo.heap.size, 4, none⟩ = some (.slice (some ⟨bk2, o2, none⟩) cx.length cc) ∧ w'.cell? ⟨bk2, o2 + i * 4, none⟩ = some (.string (bs pn)) ∧ w'.cell? ⟨bk2, o2 + i * 4 + 1, none⟩ = some (.int .i64 pa) ∧ w'.cell? ⟨bk2, o2 + i * 4 + 2, none⟩ = some (.int .i64 pb) ∧ w'.cell? ⟨bk2, o2 + i * 4 + 3, none⟩ = some (.int .i64 pc)) (first | exact k0 | exact k3) (first
              | (go_at_call 30; refine (HV.out _ (by go_grown)).mono ?_; rintro e w3 ⟨rfl, hb3⟩; have hA3 : Below wi.heap.size wi w3 := (Below.trans (by go_grown) hb3); have k3 : w3.cell? ⟨wo.heap.size, 4, none⟩ = some (.slice (some ⟨bk2, o2, none⟩) cx.length cc) ∧ w3.cell? ⟨bk2, o2 + i * 4, none⟩ = some (.string (bs pn)) ∧ w3.cell? ⟨bk2, o2 + i * 4 + 1, none⟩ = some (.int .i64 pa) ∧ w3.cell? ⟨bk2, o2 + i * 4 + 2, none⟩ = some (.int .i64 pb) ∧ w3.cell? ⟨bk2, o2 + i * 4 + 3, none⟩ = some (.int .i64 pc) := ⟨(hA3.cell (p := ⟨wo.heap.size, 4, none⟩) (by show wo.heap.size < _; omega)).trans k0.1, (hA3.cell (p := ⟨bk2, o2 + i * 4, none⟩) (by show bk2 < _; omega)).trans k0.2.1, (hA3.cell (p := ⟨bk2, o2 + i * 4 + 1, none⟩) (by show bk2 < _; omega)).trans k0.2.2.1, (hA3.cell (p := ⟨bk2, o2 + i * 4 + 2, none⟩) (by show bk2 < _; omega)).trans k0.2.2.2.1, (hA3.cell (p := ⟨bk2, o2 + i * 4 + 3, none⟩) (by show bk2 < _; omega)).trans k0.2.2.2.2⟩; have HA3 := Lib.hid hA3; have hz3 := hA3.size; clear hb3 hA3))
            all_goals
              clear k0 k3 e0 e1 e2 e3 s1 s2 s3 s4 s5 d0 d1 d2 d3 d4 d5
              go_wp2
              go_roundw
              case rel => exact ⟨i + 1, by go_num, by rw [HNX.out], by omega, by first | exact hBi.trans (HA3.out.mono hzi) | exact hBi.trans ((HA3.out.mono hzi).trans (by go_grown))⟩
              case measure => simp [intOf]; omega
          · obtain ⟨P1, hP1⟩ : ∃ y, y = P0 ++ Scan.unlines (cx.map pinWords) := ⟨_, rfl⟩
            rw [List.take_of_length_le (by omega), ← hP1]
            have HP1 := Lib.hid hP1
            have hPl1 : P1.length ≤ 1054000 := by rw [hP1, List.length_append]; have := pins_short HPINS.out cx.length; rw [List.take_of_length_le (Nat.le_refl _)] at this; omega
            have hqn : ¬ (i : Int) < (cx.length : Int) := by omega
            have HSIX2 := Lib.hid (HSIX.out.below hBi (by omega))
            have HG2 : Hid (Below w.heap.size w wi ∧ wi.cell? ⟨w.heap.size, 0, none⟩ = some (.slice (some ⟨bk, o, none⟩) N cap) ∧ wo.heap.size < wi.heap.size) := Lib.hid ⟨hbwi, (hBi.cell (p := ⟨w.heap.size, 0, none⟩) (by show w.heap.size < _; omega)).trans HGC.out, by omega⟩
            clear hP1
            go_wp2_with fail
            clear d0 d1 d2 d3 d4 d5 HSIX HGC hbw0 hqn
            obtain ⟨wi0, hwi0⟩ : ∃ y, y = wi := ⟨_, rfl⟩
            rw [← hwi0] at HSIX2 HG2 ⊢
            clear hwi0 hBi hbwi hzi
            have HSIX := Lib.hid HSIX2.out
            have hbw0 := HG2.out.1
            have HGC := Lib.hid HG2.out.2.1
            have hz0 := HG2.out.2.2
            obtain ⟨d0, d1, d2, d3, d4, d5⟩ := HSIX.out
            clear d0 d1 d2 d3 d4 d5
            go_loopw [7, 3] (fun p q wr => ∃ i : Nat, p = .int .i64 i ∧ q = .string (bs (P1 ++ Scan.unlines ((es.take i).map edgeWords))) ∧ i ≤ es.length ∧ Below wi0.heap.size wi0 wr) (fun p _ _ => es.length - (intOf p).toNat)
            case atStart => exact ⟨0, rfl, by simp [Scan.unlines], by omega, Below.refl _ _⟩
            case round =>
              obtain ⟨i2, rfl, rfl, hi, hBi⟩ := hrel
              obtain ⟨wi, rfl⟩ : ∃ x, x = wr := ⟨wr, rfl⟩
              have hzi := hBi.size
              obtain ⟨d0, d1, d2, d3, d4, d5⟩ := HSIX.out.below hBi (by omega)
              have hbwi : Below w.heap.size w wi := hbw0.trans (hBi.mono hbw0.size)
              by_cases hil : i2 < es.length
              · obtain ⟨e2, hxe2⟩ : ∃ y, es[i2]? = some y := ⟨_, List.getElem?_eq_getElem hil⟩
                obtain ⟨en, ed⟩ := e2
                have hgood := edge_in HEDGES.out _ (List.mem_of_getElem? hxe2)
                dsimp only at hgood
                obtain ⟨bk2, o2, cap2, hve, hlc2, hk2, hu⟩ := HE.out.some (by rw [List.length_map]; omega)
                rw [List.length_map] at hve
                cases hve
                have hq : (es.map edgeCells)[i2]? = some (edgeCells ⟨en, ed⟩) := by rw [List.getElem?_map, hxe2]; rfl
                have e0 := hu i2 _ hq 0 _ rfl
                rw [← hbwi.cell (p := ⟨bk2, o2 + i2 * 2 + 0, none⟩) (by show bk2 < _; omega)] at e0
                have e1 := hu i2 _ hq 1 _ rfl
                rw [← hbwi.cell (p := ⟨bk2, o2 + i2 * 2 + 1, none⟩) (by show bk2 < _; omega)] at e1
                rw [Nat.add_zero] at e0
                unfold sv at e0
                have k0 : wi.cell? ⟨wo.heap.size, 5, none⟩ = some (.slice (some ⟨bk2, o2, none⟩) es.length ec) ∧ wi.cell? ⟨bk2, o2 + i2 * 2, none⟩ = some (.string (bs en)) ∧ wi.cell? ⟨bk2, o2 + i2 * 2 + 1, none⟩ = some (.int .i64 ed) := ⟨d5, e0, e1⟩
                obtain ⟨vt, hvt⟩ : ∃ t, t = Go.Lib.decDigits ed.toNat := ⟨_, rfl⟩
                have hvl : vt.length ≤ 16 := by rw [hvt]; have := dec_four (u := ed.toNat) (by omega); omega
                have HV : Hid (∀ W, Below wi.heap.size wi W → Calls Tryd.prog 31 #[.int .i64 ed] W fun e w' => e = .returned (.string (bs vt)) ∧ Below W.heap.size W w') := Lib.hid (fun W hW => by
                  have h := VL.number_any ed (by omega) W
                  have hi : VL.V.dig ed = bs vt := by rw [hvt]; rfl
                  rwa [hi] at h)
                have hlen : (P1 ++ Scan.unlines ((es.take i2).map edgeWords)).length ≤ 2097152 := by have := edges_short hmany HEDGES.out i2; rw [List.length_append]; omega
                obtain ⟨t1, t2, t3, t4, t5, s1, s2, s3, s4, s5, ht5, ht5l⟩ := text_adds (P1 ++ Scan.unlines ((es.take i2).map edgeWords)) ⟨#[116, 111, 32]⟩ wTo en vt hlen rfl (by decide) (name_short hgood.1) hvl
                have HNX : Hid (t5 = P1 ++ Scan.unlines ((es.take (i2 + 1)).map edgeWords)) := Lib.hid (by rw [ht5, unlines_next hxe2, hvt, List.append_assoc]; rfl)
                obtain ⟨Q, hQ⟩ : ∃ Q, Q = P1 ++ Scan.unlines ((es.take i2).map edgeWords) := ⟨_, rfl⟩
                rw [← hQ] at s1 ⊢
                have hqi : (i2 : Int) < (es.length : Int) := by omega
                have hbwo : bk2 < wi.heap.size := by have := hbwi.size; omega
                clear hu hq hxe2 hgood hvt ht5 hQ hlen ht5l
                go_wp2_with fail
                go_region_held3 (fun w' => w'.cell? ⟨wo.heap.size, 5, none⟩ = some (.slice (some ⟨bk2, o2, none⟩) es.length ec) ∧ w'.cell? ⟨bk2, o2 + i2 * 2, none⟩ = some (.string (bs en)) ∧ w'.cell? ⟨bk2, o2 + i2 * 2 + 1, none⟩ = some (.int .i64 ed)) (first | exact k0 | exact k3) (first
                  | (go_at_call 31; refine (HV.out _ (by go_grown)).mono ?_; rintro e w3 ⟨rfl, hb3⟩; have hA3 : Below wi.heap.size wi w3 := (Below.trans (by go_grown) hb3); have k3 : w3.cell? ⟨wo.heap.size, 5, none⟩ = some (.slice (some ⟨bk2, o2, none⟩) es.length ec) ∧ w3.cell? ⟨bk2, o2 + i2 * 2, none⟩ = some (.string (bs en)) ∧ w3.cell? ⟨bk2, o2 + i2 * 2 + 1, none⟩ = some (.int .i64 ed) := ⟨(hA3.cell (p := ⟨wo.heap.size, 5, none⟩) (by show wo.heap.size < _; omega)).trans k0.1, (hA3.cell (p := ⟨bk2, o2 + i2 * 2, none⟩) (by show bk2 < _; omega)).trans k0.2.1, (hA3.cell (p := ⟨bk2, o2 + i2 * 2 + 1, none⟩) (by show bk2 < _; omega)).trans k0.2.2⟩; have HA3 := Lib.hid hA3; have hz3 := hA3.size; clear hb3 hA3))
                all_goals
                  clear k0 k3 e0 e1 s1 s2 s3 s4 s5 d0 d1 d2 d3 d4 d5
                  go_wp2
                  go_roundw
                  case rel => exact ⟨i2 + 1, by go_num, by rw [HNX.out], by omega, by first | exact hBi.trans (HA3.out.mono hzi) | exact hBi.trans ((HA3.out.mono hzi).trans (by go_grown))⟩
                  case measure => simp [intOf]; omega
              · rw [List.take_of_length_le (by omega)]
                have HT : Hid (P1 ++ Scan.unlines (es.map edgeWords) = Tx g (k + 1)) := Lib.hid (by rw [Tx_next HX.out, HP1.out, HP0.out])
                have hqn : ¬ (i2 : Int) < (es.length : Int) := by omega
                have HGE := Lib.hid ((hBi.cell (p := ⟨w.heap.size, 0, none⟩) (by show w.heap.size < _; omega)).trans HGC.out)
                rw [HT.out]
                go_wp2
                exact ⟨⟨k + 1, by simp, rfl, by omega, hbwi, HGE.out, by omega⟩, by simp [intOf]; omega⟩
      · have hkz : (((k : Nat) : Int) == 0) = false := by rw [beq_eq_false_iff_ne]; omega
        have hgood := HNAMED.out
        rw [named_pos hk0, Bool.and_eq_true] at hgood
        obtain ⟨vt, hvt⟩ : ∃ t, t = Ve.text ⟨va, vb, vc⟩ := ⟨_, rfl⟩
        have hvl : vt.length ≤ 16 := by rw [hvt]; have := ver_short (v := ⟨va, vb, vc⟩) hgood.2; omega
        have HV : Hid (∀ W, Below wa.heap.size wa W → Calls Tryd.prog 30 #[.agg #[.int .i64 va, .int .i64 vb, .int .i64 vc]] W fun e w' => e = .returned (.string (bs vt)) ∧ Below W.heap.size W w') := Lib.hid (fun W hW => by
          rw [hvt, ← str_bs (v := ⟨va, vb, vc⟩) hgood.2]
          exact VL.rprint_any va vb vc W)
        obtain ⟨t1, t2, t3, t4, t5, s1, s2, s3, s4, s5, ht5, ht5l⟩ := text_adds P ⟨#[110, 111, 100, 101, 32]⟩ wNode nm vt (by omega) rfl (by decide) (name_short hgood.1) hvl
        have hPe : P0 = t5 := by rw [hP0, ht5, hvt]; unfold headWords; rw [if_neg (by omega)]
        have hPl : P0.length ≤ 1049000 := by rw [hPe]; omega
        have HPE := Lib.hid hPe
        have HP0 : Hid (P0 = Tx g k ++ Scan.unline (headWords k ⟨nm, ⟨va, vb, vc⟩, cx, es⟩)) := Lib.hid (by rw [hP0, hP])
        have k0 : wa.cell? ⟨wo.heap.size, 0, none⟩ = some (.string (bs nm)) ∧ wa.cell? ⟨wo.heap.size, 1, none⟩ = some (.int .i64 va) ∧ wa.cell? ⟨wo.heap.size, 2, none⟩ = some (.int .i64 vb) ∧ wa.cell? ⟨wo.heap.size, 3, none⟩ = some (.int .i64 vc) := ⟨hsix.c0, hsix.c1, hsix.c2, hsix.c3⟩
        clear hP0 hk0 hgood hvt ht5 hPe hP
        go_wp2_with fail
        rw [← HWA.out]
        go_region_held3 (fun w' => w'.cell? ⟨wo.heap.size, 0, none⟩ = some (.string (bs nm)) ∧ w'.cell? ⟨wo.heap.size, 1, none⟩ = some (.int .i64 va) ∧ w'.cell? ⟨wo.heap.size, 2, none⟩ = some (.int .i64 vb) ∧ w'.cell? ⟨wo.heap.size, 3, none⟩ = some (.int .i64 vc)) (first | exact k0 | exact k3) (first
          | (go_at_call 30; refine (HV.out _ (by go_grown)).mono ?_; rintro e w3 ⟨rfl, hb3⟩; have hA3 : Below wa.heap.size wa w3 := (Below.trans (by go_grown) hb3); have k3 : w3.cell? ⟨wo.heap.size, 0, none⟩ = some (.string (bs nm)) ∧ w3.cell? ⟨wo.heap.size, 1, none⟩ = some (.int .i64 va) ∧ w3.cell? ⟨wo.heap.size, 2, none⟩ = some (.int .i64 vb) ∧ w3.cell? ⟨wo.heap.size, 3, none⟩ = some (.int .i64 vc) := ⟨(hA3.cell (p := ⟨wo.heap.size, 0, none⟩) (by show wo.heap.size < _; omega)).trans k0.1, (hA3.cell (p := ⟨wo.heap.size, 1, none⟩) (by show wo.heap.size < _; omega)).trans k0.2.1, (hA3.cell (p := ⟨wo.heap.size, 2, none⟩) (by show wo.heap.size < _; omega)).trans k0.2.2.1, (hA3.cell (p := ⟨wo.heap.size, 3, none⟩) (by show wo.heap.size < _; omega)).trans k0.2.2.2⟩; have HA3 := Lib.hid hA3; have hz3 := hA3.size; clear hb3 hA3))
        all_goals
          obtain ⟨wi0, hwi0⟩ : ∃ y, y = w3 := ⟨_, rfl⟩
          have HSIX := Lib.hid (hsix.below HA3.out hza)
          have hbw0 := hbwa.trans (HA3.out.mono hbwa.size)
          have HGC := Lib.hid ((HA3.out.cell (p := ⟨w.heap.size, 0, none⟩) (by show w.heap.size < _; omega)).trans hgca)
          rw [← hwi0] at HSIX hbw0 HGC hz3 ⊢
          have hz0 : wo.heap.size < wi0.heap.size := by omega
          rw [← HPE.out]
          clear hwi0 hsix hgca hbwa k0 k3 s1 s2 s3 s4 s5 hkz e0 e1 e2 e3 e4 e5 HA3 hlen ht5l
          obtain ⟨d0, d1, d2, d3, d4, d5⟩ := HSIX.out
          go_wp2
          go_loopw [6, 3] (fun p q wr => ∃ i : Nat, p = .int .i64 i ∧ q = .string (bs (P0 ++ Scan.unlines ((cx.take i).map pinWords))) ∧ i ≤ cx.length ∧ Below wi0.heap.size wi0 wr) (fun p _ _ => cx.length - (intOf p).toNat)
          case atStart => exact ⟨0, rfl, by simp [Scan.unlines], by omega, Below.refl _ _⟩
          case round =>
            obtain ⟨i, rfl, rfl, hi, hBi⟩ := hrel
            obtain ⟨wi, rfl⟩ : ∃ x, x = wr := ⟨wr, rfl⟩
            have hzi := hBi.size
            obtain ⟨d0, d1, d2, d3, d4, d5⟩ := HSIX.out.below hBi (by omega)
            have hbwi : Below w.heap.size w wi := hbw0.trans (hBi.mono hbw0.size)
            by_cases hil : i < cx.length
            · obtain ⟨p, hxp⟩ : ∃ y, cx[i]? = some y := ⟨_, List.getElem?_eq_getElem hil⟩
              obtain ⟨pn, ⟨pa, pb, pc⟩⟩ := p
              have hgood := pin_in HPINS.out _ (List.mem_of_getElem? hxp)
              dsimp only at hgood
              obtain ⟨bk2, o2, cap2, hve, hlc2, hk2, hu⟩ := HP.out.some (by rw [List.length_map]; omega)
              rw [List.length_map] at hve
              cases hve
              have hq : (cx.map pinCells)[i]? = some (pinCells ⟨pn, ⟨pa, pb, pc⟩⟩) := by rw [List.getElem?_map, hxp]; rfl
              have e0 := hu i _ hq 0 _ rfl
              rw [← hbwi.cell (p := ⟨bk2, o2 + i * 4 + 0, none⟩) (by show bk2 < _; omega)] at e0
              have e1 := hu i _ hq 1 _ rfl
              rw [← hbwi.cell (p := ⟨bk2, o2 + i * 4 + 1, none⟩) (by show bk2 < _; omega)] at e1
              have e2 := hu i _ hq 2 _ rfl
              rw [← hbwi.cell (p := ⟨bk2, o2 + i * 4 + 2, none⟩) (by show bk2 < _; omega)] at e2
              have e3 := hu i _ hq 3 _ rfl
              rw [← hbwi.cell (p := ⟨bk2, o2 + i * 4 + 3, none⟩) (by show bk2 < _; omega)] at e3
              rw [Nat.add_zero] at e0
              unfold sv at e0
              have k0 : wi.cell? ⟨wo.heap.size, 4, none⟩ = some (.slice (some ⟨bk2, o2, none⟩) cx.length cc) ∧ wi.cell? ⟨bk2, o2 + i * 4, none⟩ = some (.string (bs pn)) ∧ wi.cell? ⟨bk2, o2 + i * 4 + 1, none⟩ = some (.int .i64 pa) ∧ wi.cell? ⟨bk2, o2 + i * 4 + 2, none⟩ = some (.int .i64 pb) ∧ wi.cell? ⟨bk2, o2 + i * 4 + 3, none⟩ = some (.int .i64 pc) := ⟨d4, e0, e1, e2, e3⟩
              obtain ⟨vt, hvt⟩ : ∃ t, t = Ve.text ⟨pa, pb, pc⟩ := ⟨_, rfl⟩
              have hvl : vt.length ≤ 16 := by rw [hvt]; have := ver_short (v := ⟨pa, pb, pc⟩) hgood.2; omega
              have HV : Hid (∀ W, Below wi.heap.size wi W → Calls Tryd.prog 30 #[.agg #[.int .i64 pa, .int .i64 pb, .int .i64 pc]] W fun e w' => e = .returned (.string (bs vt)) ∧ Below W.heap.size W w') := Lib.hid (fun W hW => by
                rw [hvt, ← str_bs (v := ⟨pa, pb, pc⟩) hgood.2]
                exact VL.rprint_any pa pb pc W)
              have hlen : (P0 ++ Scan.unlines ((cx.take i).map pinWords)).length ≤ 2097152 := by have := pins_short HPINS.out i; rw [List.length_append]; omega
              obtain ⟨t1, t2, t3, t4, t5, s1, s2, s3, s4, s5, ht5, ht5l⟩ := text_adds (P0 ++ Scan.unlines ((cx.take i).map pinWords)) ⟨#[119, 105, 116, 104, 32]⟩ wWith pn vt hlen rfl (by decide) (name_short hgood.1) hvl
              have HNX : Hid (t5 = P0 ++ Scan.unlines ((cx.take (i + 1)).map pinWords)) := Lib.hid (by rw [ht5, unlines_next hxp, hvt, List.append_assoc]; rfl)
              obtain ⟨Q, hQ⟩ : ∃ Q, Q = P0 ++ Scan.unlines ((cx.take i).map pinWords) := ⟨_, rfl⟩
              rw [← hQ] at s1 ⊢
              have hqi : (i : Int) < (cx.length : Int) := by omega
              have hbwo : bk2 < wi.heap.size := by have := hbwi.size; omega
              clear hu hq hxp hgood hvt ht5 hQ hlen ht5l
              go_wp2_with fail
              go_region_held3 (fun w' => w'.cell? ⟨wo.heap.size, 4, none⟩ = some (.slice (some ⟨bk2, o2, none⟩) cx.length cc) ∧ w'.cell? ⟨bk2, o2 + i * 4, none⟩ = some (.string (bs pn)) ∧ w'.cell? ⟨bk2, o2 + i * 4 + 1, none⟩ = some (.int .i64 pa) ∧ w'.cell? ⟨bk2, o2 + i * 4 + 2, none⟩ = some (.int .i64 pb) ∧ w'.cell? ⟨bk2, o2 + i * 4 + 3, none⟩ = some (.int .i64 pc)) (first | exact k0 | exact k3) (first
                | (go_at_call 30; refine (HV.out _ (by go_grown)).mono ?_; rintro e w3 ⟨rfl, hb3⟩; have hA3 : Below wi.heap.size wi w3 := (Below.trans (by go_grown) hb3); have k3 : w3.cell? ⟨wo.heap.size, 4, none⟩ = some (.slice (some ⟨bk2, o2, none⟩) cx.length cc) ∧ w3.cell? ⟨bk2, o2 + i * 4, none⟩ = some (.string (bs pn)) ∧ w3.cell? ⟨bk2, o2 + i * 4 + 1, none⟩ = some (.int .i64 pa) ∧ w3.cell? ⟨bk2, o2 + i * 4 + 2, none⟩ = some (.int .i64 pb) ∧ w3.cell? ⟨bk2, o2 + i * 4 + 3, none⟩ = some (.int .i64 pc) := ⟨(hA3.cell (p := ⟨wo.heap.size, 4, none⟩) (by show wo.heap.size < _; omega)).trans k0.1, (hA3.cell (p := ⟨bk2, o2 + i * 4, none⟩) (by show bk2 < _; omega)).trans k0.2.1, (hA3.cell (p := ⟨bk2, o2 + i * 4 + 1, none⟩) (by show bk2 < _; omega)).trans k0.2.2.1, (hA3.cell (p := ⟨bk2, o2 + i * 4 + 2, none⟩) (by show bk2 < _; omega)).trans k0.2.2.2.1, (hA3.cell (p := ⟨bk2, o2 + i * 4 + 3, none⟩) (by show bk2 < _; omega)).trans k0.2.2.2.2⟩; have HA3 := Lib.hid hA3; have hz3 := hA3.size; clear hb3 hA3))
              all_goals
                clear k0 k3 e0 e1 e2 e3 s1 s2 s3 s4 s5 d0 d1 d2 d3 d4 d5
                go_wp2
                go_roundw
                case rel => exact ⟨i + 1, by go_num, by rw [HNX.out], by omega, by first | exact hBi.trans (HA3.out.mono hzi) | exact hBi.trans ((HA3.out.mono hzi).trans (by go_grown))⟩
                case measure => simp [intOf]; omega
            · obtain ⟨P1, hP1⟩ : ∃ y, y = P0 ++ Scan.unlines (cx.map pinWords) := ⟨_, rfl⟩
              rw [List.take_of_length_le (by omega), ← hP1]
              have HP1 := Lib.hid hP1
              have hPl1 : P1.length ≤ 1054000 := by rw [hP1, List.length_append]; have := pins_short HPINS.out cx.length; rw [List.take_of_length_le (Nat.le_refl _)] at this; omega
              have hqn : ¬ (i : Int) < (cx.length : Int) := by omega
              have HSIX2 := Lib.hid (HSIX.out.below hBi (by omega))
              have HG2 : Hid (Below w.heap.size w wi ∧ wi.cell? ⟨w.heap.size, 0, none⟩ = some (.slice (some ⟨bk, o, none⟩) N cap) ∧ wo.heap.size < wi.heap.size) := Lib.hid ⟨hbwi, (hBi.cell (p := ⟨w.heap.size, 0, none⟩) (by show w.heap.size < _; omega)).trans HGC.out, by omega⟩
              clear hP1
              go_wp2_with fail
              clear d0 d1 d2 d3 d4 d5 HSIX HGC hbw0 hqn
              obtain ⟨wi0, hwi0⟩ : ∃ y, y = wi := ⟨_, rfl⟩
              rw [← hwi0] at HSIX2 HG2 ⊢
              clear hwi0 hBi hbwi hzi
              have HSIX := Lib.hid HSIX2.out
              have hbw0 := HG2.out.1
              have HGC := Lib.hid HG2.out.2.1
              have hz0 := HG2.out.2.2
              obtain ⟨d0, d1, d2, d3, d4, d5⟩ := HSIX.out
              clear d0 d1 d2 d3 d4 d5
              go_loopw [7, 3] (fun p q wr => ∃ i : Nat, p = .int .i64 i ∧ q = .string (bs (P1 ++ Scan.unlines ((es.take i).map edgeWords))) ∧ i ≤ es.length ∧ Below wi0.heap.size wi0 wr) (fun p _ _ => es.length - (intOf p).toNat)
              case atStart => exact ⟨0, rfl, by simp [Scan.unlines], by omega, Below.refl _ _⟩
              case round =>
                obtain ⟨i2, rfl, rfl, hi, hBi⟩ := hrel
                obtain ⟨wi, rfl⟩ : ∃ x, x = wr := ⟨wr, rfl⟩
                have hzi := hBi.size
                obtain ⟨d0, d1, d2, d3, d4, d5⟩ := HSIX.out.below hBi (by omega)
                have hbwi : Below w.heap.size w wi := hbw0.trans (hBi.mono hbw0.size)
                by_cases hil : i2 < es.length
                · obtain ⟨e2, hxe2⟩ : ∃ y, es[i2]? = some y := ⟨_, List.getElem?_eq_getElem hil⟩
                  obtain ⟨en, ed⟩ := e2
                  have hgood := edge_in HEDGES.out _ (List.mem_of_getElem? hxe2)
                  dsimp only at hgood
                  obtain ⟨bk2, o2, cap2, hve, hlc2, hk2, hu⟩ := HE.out.some (by rw [List.length_map]; omega)
                  rw [List.length_map] at hve
                  cases hve
                  have hq : (es.map edgeCells)[i2]? = some (edgeCells ⟨en, ed⟩) := by rw [List.getElem?_map, hxe2]; rfl
                  have e0 := hu i2 _ hq 0 _ rfl
                  rw [← hbwi.cell (p := ⟨bk2, o2 + i2 * 2 + 0, none⟩) (by show bk2 < _; omega)] at e0
                  have e1 := hu i2 _ hq 1 _ rfl
                  rw [← hbwi.cell (p := ⟨bk2, o2 + i2 * 2 + 1, none⟩) (by show bk2 < _; omega)] at e1
                  rw [Nat.add_zero] at e0
                  unfold sv at e0
                  have k0 : wi.cell? ⟨wo.heap.size, 5, none⟩ = some (.slice (some ⟨bk2, o2, none⟩) es.length ec) ∧ wi.cell? ⟨bk2, o2 + i2 * 2, none⟩ = some (.string (bs en)) ∧ wi.cell? ⟨bk2, o2 + i2 * 2 + 1, none⟩ = some (.int .i64 ed) := ⟨d5, e0, e1⟩
                  obtain ⟨vt, hvt⟩ : ∃ t, t = Go.Lib.decDigits ed.toNat := ⟨_, rfl⟩
                  have hvl : vt.length ≤ 16 := by rw [hvt]; have := dec_four (u := ed.toNat) (by omega); omega
                  have HV : Hid (∀ W, Below wi.heap.size wi W → Calls Tryd.prog 31 #[.int .i64 ed] W fun e w' => e = .returned (.string (bs vt)) ∧ Below W.heap.size W w') := Lib.hid (fun W hW => by
                    have h := VL.number_any ed (by omega) W
                    have hi : VL.V.dig ed = bs vt := by rw [hvt]; rfl
                    rwa [hi] at h)
                  have hlen : (P1 ++ Scan.unlines ((es.take i2).map edgeWords)).length ≤ 2097152 := by have := edges_short hmany HEDGES.out i2; rw [List.length_append]; omega
                  obtain ⟨t1, t2, t3, t4, t5, s1, s2, s3, s4, s5, ht5, ht5l⟩ := text_adds (P1 ++ Scan.unlines ((es.take i2).map edgeWords)) ⟨#[116, 111, 32]⟩ wTo en vt hlen rfl (by decide) (name_short hgood.1) hvl
                  have HNX : Hid (t5 = P1 ++ Scan.unlines ((es.take (i2 + 1)).map edgeWords)) := Lib.hid (by rw [ht5, unlines_next hxe2, hvt, List.append_assoc]; rfl)
                  obtain ⟨Q, hQ⟩ : ∃ Q, Q = P1 ++ Scan.unlines ((es.take i2).map edgeWords) := ⟨_, rfl⟩
                  rw [← hQ] at s1 ⊢
                  have hqi : (i2 : Int) < (es.length : Int) := by omega
                  have hbwo : bk2 < wi.heap.size := by have := hbwi.size; omega
                  clear hu hq hxe2 hgood hvt ht5 hQ hlen ht5l
                  go_wp2_with fail
                  go_region_held3 (fun w' => w'.cell? ⟨wo.heap.size, 5, none⟩ = some (.slice (some ⟨bk2, o2, none⟩) es.length ec) ∧ w'.cell? ⟨bk2, o2 + i2 * 2, none⟩ = some (.string (bs en)) ∧ w'.cell? ⟨bk2, o2 + i2 * 2 + 1, none⟩ = some (.int .i64 ed)) (first | exact k0 | exact k3) (first
                    | (go_at_call 31; refine (HV.out _ (by go_grown)).mono ?_; rintro e w3 ⟨rfl, hb3⟩; have hA3 : Below wi.heap.size wi w3 := (Below.trans (by go_grown) hb3); have k3 : w3.cell? ⟨wo.heap.size, 5, none⟩ = some (.slice (some ⟨bk2, o2, none⟩) es.length ec) ∧ w3.cell? ⟨bk2, o2 + i2 * 2, none⟩ = some (.string (bs en)) ∧ w3.cell? ⟨bk2, o2 + i2 * 2 + 1, none⟩ = some (.int .i64 ed) := ⟨(hA3.cell (p := ⟨wo.heap.size, 5, none⟩) (by show wo.heap.size < _; omega)).trans k0.1, (hA3.cell (p := ⟨bk2, o2 + i2 * 2, none⟩) (by show bk2 < _; omega)).trans k0.2.1, (hA3.cell (p := ⟨bk2, o2 + i2 * 2 + 1, none⟩) (by show bk2 < _; omega)).trans k0.2.2⟩; have HA3 := Lib.hid hA3; have hz3 := hA3.size; clear hb3 hA3))
                  all_goals
                    clear k0 k3 e0 e1 s1 s2 s3 s4 s5 d0 d1 d2 d3 d4 d5
                    go_wp2
                    go_roundw
                    case rel => exact ⟨i2 + 1, by go_num, by rw [HNX.out], by omega, by first | exact hBi.trans (HA3.out.mono hzi) | exact hBi.trans ((HA3.out.mono hzi).trans (by go_grown))⟩
                    case measure => simp [intOf]; omega
                · rw [List.take_of_length_le (by omega)]
                  have HT : Hid (P1 ++ Scan.unlines (es.map edgeWords) = Tx g (k + 1)) := Lib.hid (by rw [Tx_next HX.out, HP1.out, HP0.out])
                  have hqn : ¬ (i2 : Int) < (es.length : Int) := by omega
                  have HGE := Lib.hid ((hBi.cell (p := ⟨w.heap.size, 0, none⟩) (by show w.heap.size < _; omega)).trans HGC.out)
                  rw [HT.out]
                  go_wp2
                  exact ⟨⟨k + 1, by simp, rfl, by omega, hbwi, HGE.out, by omega⟩, by simp [intOf]; omega⟩
    · have HT : Hid (Tx g k = text g) := Lib.hid (Tx_full (by have := HN.out; omega))
      rw [HT.out]
      have hnk : ¬ (k : Int) < (N : Int) := by omega
      go_wp2
      go_returns
      exact ⟨rfl, hb⟩
end Go.Proofs.YtjiifieafnjpgaaDoor
