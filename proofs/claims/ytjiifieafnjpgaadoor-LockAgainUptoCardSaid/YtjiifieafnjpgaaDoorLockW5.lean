/- Print: the program's walk. -/
import Derived.Test.YtjiifieafnjpgaaDoorLockW4
import Derived.Test.YtjiifieafnjpgaaDoorLockS
import Derived.Test.YtjiifieafnjpgaaDoorLkS
import Derived.Deep.RegionHeld3
import Derived.Lib.ItoaMem
namespace Go.Proofs.YtjiifieafnjpgaaDoor
open Go.RowKit
set_option linter.unusedSimpArgs false
set_option linter.unusedVariables false
open Lock
/-- What Print answers. -/
def gPrintRes (g : G) : Value := if may g = true then .tuple #[sv (text g), .int .i64 0] else .tuple #[.string ByteArray.empty, .int .i64 33]
/-- The sums of a line of three words. -/
theorem line_adds (K : ByteArray) (kw a b : List UInt8) (hK : K = bs (kw ++ [32])) (hk : kw.length ≤ 8) (ha : a.length ≤ 16) (hb : b.length ≤ 16) : ∃ t1 t2 t3 t4 : List UInt8,
    (∀ w, (Op.stringOp .add K (bs a)).run Tryd.prog w = .ok (.string (bs t1)) w) ∧ (∀ w, (Op.stringOp .add (bs t1) ⟨#[32]⟩).run Tryd.prog w = .ok (.string (bs t2)) w) ∧
    (∀ w, (Op.stringOp .add (bs t2) (bs b)).run Tryd.prog w = .ok (.string (bs t3)) w) ∧ (∀ w, (Op.stringOp .add (bs t3) ⟨#[10]⟩).run Tryd.prog w = .ok (.string (bs t4)) w) ∧ t4 = Scan.unline [kw, a, b] ∧ t4.length ≤ 48 := by
  subst hK
  refine ⟨kw ++ [32] ++ a, kw ++ [32] ++ a ++ [32], kw ++ [32] ++ a ++ [32] ++ b, kw ++ [32] ++ a ++ [32] ++ b ++ [10], fun w => bs_add _ _ (by simp; omega) w, fun w => bs_add _ [32] (by simp; omega) w, fun w => bs_add _ _ (by simp; omega) w, fun w => bs_add _ [10] (by simp; omega) w, ?_, ?_⟩
  · simp [Scan.unline, Cut.glue]
  · simp; omega
theorem str_bs {v : Ve} (h : v.may = true) : VL.V.str v.a v.b v.c = bs v.text := by
  have := VL.V.str_list h
  apply ByteArray.ext
  apply Array.toList_inj.1
  rw [ByteArray.toList_eq] at this
  exact this
theorem kept_block {b : Nat} {W w4 w0 : World} {k : Nat} {cs : Array Value} {t : TypeId} {n : Nat} (ho : OthersLie b W w4) (hx : w0.heap[k]? = some (.cells cs t (0, 0))) (hb : Below n w0 W) (hk : k < n) (hne : k ≠ b) (ht : t ≠ 5) : w4.heap[k]? = some (.cells cs t (0, 0)) := by
  have h : W.heap[k]? = some (.cells cs t (0, 0)) := (hb.block _ hk).trans hx
  rw [ho _ _ _ _ hne h ht, h]
set_option maxHeartbeats 8000000 in
set_option maxRecDepth 100000 in
theorem Print_any (w : World) (v : Value) (g : G) (hg : NodesAt w w.heap.size v g) (hz : ∀ x ∈ g, NdSize x) (hn : g.length ≤ 4611686018427387904) (hE : Env w) :
    Calls Tryd.prog 6 #[.agg #[v]] w fun e w' => e = .returned (gPrintRes g) ∧ Below w.heap.size w w' := by
  have HMAY : Hid (∀ W, Below w.heap.size w W → Calls Tryd.prog 8 #[.agg #[v]] W fun e w' => e = .returned (.bool (may g)) ∧ Below W.heap.size W w') := Lib.hid (fun W hW => May_any W v g ((hg.below hW (Nat.le_refl _)).mono hW.size) hz hn)
  cases hmay : may g
  · have HF : Hid (gPrintRes g = .tuple #[.string ByteArray.empty, .int .i64 33]) := Lib.hid (by unfold gPrintRes; rw [hmay]; rfl)
    rw [hmay] at HMAY
    obtain ⟨a, cap, rfl⟩ := hg.form
    clear hg hz hE hmay
    go_enter Tryd.func6, Tryd.ntmps6
    go_wp2_with fail
    refine (HMAY.out _ (by go_grown)).mono ?_
    rintro e w1 ⟨rfl, hb1⟩
    go_wp2_with fail
    go_returns
    exact ⟨by rw [HF.out]; rfl, Below.trans (by go_grown) (hb1.mono (by simp))⟩
  have HF : Hid (gPrintRes g = .tuple #[sv (text g), .int .i64 0]) := Lib.hid (by unfold gPrintRes; rw [if_pos hmay])
  rw [hmay] at HMAY
  have hform := may_form hmay
  obtain ⟨bk, o, cap, rfl, hcap, hbk, hat⟩ := hg.at (by omega)
  obtain ⟨N, hN⟩ : ∃ N, N = g.length := ⟨_, rfl⟩
  have HNODE : Hid (∀ (k : Nat) (x : Nd), g[k]? = some x → named k x = true ∧ pins x.ctx = true ∧ edges N x.edges = true) := Lib.hid (fun k x hx => by
    have := nodes_at g 0 hform.2.2 k x hx
    rw [Nat.zero_add, ← hN] at this
    exact node_parts this)
  have hmany : N ≤ 128 := by omega
  have hN1 : 1 ≤ N := by omega
  have HTL := Lib.hid (fun k => Tx_len hmay k)
  rw [← hN] at hcap HMAY ⊢
  have HN := Lib.hid hN
  have HAT := Lib.hid hat
  have HENV := Lib.hid hE
  clear hg hz hat hN hE hmay hform hn
  go_enter Tryd.func6, Tryd.ntmps6
  go_wp2_with fail
  refine (HMAY.out _ (by go_grown)).mono ?_
  rintro e w1 ⟨rfl, hb1⟩
  have c0 : w1.cell? ⟨w.heap.size, 0, none⟩ = some (.slice (some ⟨bk, o, none⟩) N cap) := by rw [hb1.cell (p := ⟨w.heap.size, 0, none⟩) (by show w.heap.size < _; simp)]; exact World.cell?_alloc_at _ _ _ _ rfl
  have hzw : w.heap.size < w1.heap.size := by have := hb1.size; simp at this; omega
  have HB1 : Hid (Below w.heap.size w w1) := Lib.hid (Below.trans (by go_grown) (hb1.mono (by simp)))
  clear hb1
  have HB0 := Lib.hid (Go.Lib.fresh_isBuilder 47 5 w1)
  go_wp2_with fail
  refine (WriteString_any w1.heap.size w1.heap.size [] ⟨#[108, 111, 99, 107, 10]⟩ _ HB0.out (by decide) (by simp)).mono ?_
  rintro e w2 ⟨rfl, hbd2, hb2⟩
  have HBD2 := Lib.hid hbd2
  have HB2 : Hid (Below w1.heap.size w1 w2) := Lib.hid (((Below.refl _ w1).alloc (Nat.le_refl _) _).trans hb2)
  have c0' : w2.cell? ⟨w.heap.size, 0, none⟩ = some (.slice (some ⟨bk, o, none⟩) N cap) := by rw [HB2.out.cell (p := ⟨w.heap.size, 0, none⟩) hzw]; exact c0
  clear hbd2 HB0 c0 hb2
  go_wp2_with fail
  clear c0'
  go_loopw [18] (fun p wr => ∃ k : Nat, p = .int .i64 k ∧ k ≤ N ∧ Build w1.heap.size w1.heap.size (Go.Lib.byteCells (Tx g k)) wr ∧ Below w1.heap.size w1 wr) (fun p _ => N - (intOf p).toNat)
  case atStart => exact ⟨0, rfl, by omega, HBD2.out, HB2.out⟩
  case round =>
    obtain ⟨k, rfl, hk, hbd, hBr⟩ := hrel
    obtain ⟨wo, rfl⟩ : ∃ x, x = wr := ⟨wr, rfl⟩
    have HBD := Lib.hid hbd
    clear hbd
    have hzo := hBr.size
    have hzlt : w1.heap.size < wo.heap.size := by rcases HBD.out with h | h <;> exact h.lt
    by_cases hkN : k < N
    · obtain ⟨x, hx⟩ : ∃ x, g[k]? = some x := ⟨_, List.getElem?_eq_getElem (by have := HN.out; omega)⟩
      obtain ⟨cv, ev, hp, he, e0, e1, e2, e3, e4, e5⟩ := HAT.out k x hx
      have hnode := HNODE.out k x hx
      obtain ⟨nm, ⟨va, vb, vc⟩, cx, es⟩ := x
      dsimp only at hp he e0 e1 e2 e3 e4 e5 hnode
      have HPINS := Lib.hid hnode.2.1
      have HEDGES := Lib.hid hnode.2.2
      have HNAMED := Lib.hid hnode.1
      obtain ⟨ca, cc, rfl⟩ := RowZ.form hp
      obtain ⟨ea, ec, rfl⟩ := RowZ.form he
      rw [List.length_map] at hp he e4 e5
      have hbw : Below w.heap.size w wo := HB1.out.trans (hBr.mono HB1.out.size)
      rw [← hbw.cell (p := ⟨bk, o + k * 6, none⟩) hbk] at e0
      rw [← hbw.cell (p := ⟨bk, o + k * 6 + 1, none⟩) hbk] at e1
      rw [← hbw.cell (p := ⟨bk, o + k * 6 + 2, none⟩) hbk] at e2
      rw [← hbw.cell (p := ⟨bk, o + k * 6 + 3, none⟩) hbk] at e3
      rw [← hbw.cell (p := ⟨bk, o + k * 6 + 4, none⟩) hbk] at e4
      rw [← hbw.cell (p := ⟨bk, o + k * 6 + 5, none⟩) hbk] at e5
      unfold sv at e0
      have HP := Lib.hid hp
      have HE := Lib.hid he
      have HX := Lib.hid hx
      have hcl : cx.length ≤ 128 := by have h := HPINS.out; unfold pins at h; rw [Bool.and_eq_true] at h; simpa using names_few h.1
      have hel : es.length ≤ 128 := by have h := HEDGES.out; unfold edges at h; rw [Bool.and_eq_true] at h; simpa using names_few h.1
      clear hx hp he hnode
      obtain ⟨wa, hwa⟩ : ∃ y, y = wo.alloc (.cells #[.string (bs nm), .int .i64 va, .int .i64 vb, .int .i64 vc, .slice ca cx.length cc, .slice ea es.length ec] 38) := ⟨_, rfl⟩
      have hza : wa.heap.size = wo.heap.size + 1 := by rw [hwa]; exact Array.size_push ..
      have HBDA : Hid (Build w1.heap.size w1.heap.size (Go.Lib.byteCells (Tx g k)) wa) := Lib.hid (build_below HBD.out (by rw [hwa]; exact (Below.refl _ wo).alloc (Nat.le_refl _) _))
      have HXA : Hid (wa.heap[wo.heap.size]? = some (.cells #[.string (bs nm), .int .i64 va, .int .i64 vb, .int .i64 vc, .slice ca cx.length cc, .slice ea es.length ec] 38 (0, 0))) := Lib.hid (by rw [hwa]; exact heap_alloc_new wo _)
      have HBA : Hid (Below w1.heap.size w1 wa) := Lib.hid (by rw [hwa]; exact hBr.alloc hzo _)
      have hbwa : Below w.heap.size w wa := HB1.out.trans (HBA.out.mono HB1.out.size)
      have hlen := HTL.out k
      have HWA := Lib.hid hwa
      obtain ⟨P0, hP0⟩ : ∃ y, y = Tx g k ++ Scan.unline (headWords k ⟨nm, ⟨va, vb, vc⟩, cx, es⟩) := ⟨_, rfl⟩
      clear hwa HBD
      rcases Nat.eq_zero_or_pos k with hk0 | hk0
      · have hkz : (((k : Nat) : Int) == 0) = true := by rw [beq_iff_eq]; omega
        have hPl : P0.length ≤ 1049000 := by
          rw [hP0, List.length_append]
          have : (Scan.unline (headWords k ⟨nm, ⟨va, vb, vc⟩, cx, es⟩)).length = 5 := by unfold headWords; rw [if_pos hk0]; rfl
          omega
        have HNX : Hid (Go.Lib.byteCells (Tx g k) ++ Go.Lib.strCells ⟨#[114, 111, 111, 116, 10]⟩ = Go.Lib.byteCells P0) := Lib.hid (by
          rw [hP0]; unfold headWords; rw [if_pos hk0]
          simp [Go.Lib.byteCells, Go.Lib.strCells, Scan.unline, Cut.glue, wRoot])
        have HP0 := Lib.hid hP0
        clear hP0 hk0
        go_wp2_with fail
        rw [← HWA.out]
        refine (WriteString_kept w1.heap.size w1.heap.size _ ⟨#[114, 111, 111, 116, 10]⟩ _ HBDA.out (by rw [Go.Lib.byteCells_length]; have e : ByteArray.size ⟨#[114, 111, 111, 116, 10]⟩ = 5 := rfl; omega) (by omega)).mono ?_
        rintro e wi0 ⟨rfl, ⟨hbd4, hb4⟩, ho4⟩
        have hx4 := kept_block (n := wa.heap.size) ho4 HXA.out (Below.refl _ _) (by omega) (by omega) (by decide)
        have HX0 := Lib.hid hx4
        have HBD0 : Hid (Build w1.heap.size w1.heap.size (Go.Lib.byteCells P0) wi0) := Lib.hid (by rw [← HNX.out]; exact hbd4)
        have HB0 : Hid (Below w1.heap.size w1 wi0) := Lib.hid (HBA.out.trans hb4)
        have HZ0 : Hid (wo.heap.size < wi0.heap.size) := Lib.hid (by have := hb4.size; omega)
        clear hbd4 hb4 ho4 hx4 hlen hkz e0 e1 e2 e3 e4 e5
        have HTX := HX0.out
        have g4 : wi0.cell? ⟨wo.heap.size, 4, none⟩ = some (.slice ca cx.length cc) := by rw [Go.Lib.cell_of_heap HTX]; rfl
        have g5 : wi0.cell? ⟨wo.heap.size, 5, none⟩ = some (.slice ea es.length ec) := by rw [Go.Lib.cell_of_heap HTX]; rfl
        clear HTX
        go_wp2
        clear g4 g5
        go_loopw [39] (fun p wr => ∃ i : Nat, p = .int .i64 i ∧ i ≤ cx.length ∧ Build w1.heap.size w1.heap.size (Go.Lib.byteCells (P0 ++ Scan.unlines ((cx.take i).map pinWords))) wr ∧ wr.heap[wo.heap.size]? = some (.cells #[.string (bs nm), .int .i64 va, .int .i64 vb, .int .i64 vc, .slice ca cx.length cc, .slice ea es.length ec] 38 (0, 0)) ∧ Below w1.heap.size w1 wr ∧ wo.heap.size < wr.heap.size) (fun p _ => cx.length - (intOf p).toNat)
        case atStart => exact ⟨0, rfl, by omega, by simpa [Scan.unlines] using HBD0.out, HX0.out, HB0.out, HZ0.out⟩
        case round =>
          obtain ⟨i, rfl, hi, hbd, hX, hBi, hXz⟩ := hrel
          obtain ⟨wi, rfl⟩ : ∃ x, x = wr := ⟨wr, rfl⟩
          have HBD := Lib.hid hbd
          have HXI := Lib.hid hX
          clear hbd hX
          have hzi := hBi.size
          by_cases hil : i < cx.length
          · obtain ⟨p, hxp⟩ : ∃ y, cx[i]? = some y := ⟨_, List.getElem?_eq_getElem hil⟩
            obtain ⟨pn, ⟨pa, pb, pc⟩⟩ := p
            have hgood := pin_in HPINS.out _ (List.mem_of_getElem? hxp)
            dsimp only at hgood
            obtain ⟨bk2, o2, cap2, hve, hlc2, hk2, hu⟩ := HP.out.some (by rw [List.length_map]; omega)
            rw [List.length_map] at hve
            cases hve
            have hq : (cx.map pinCells)[i]? = some (pinCells ⟨pn, ⟨pa, pb, pc⟩⟩) := by rw [List.getElem?_map, hxp]; rfl
            have hbwi : Below w.heap.size w wi := HB1.out.trans (hBi.mono HB1.out.size)
            have e0 := hu i _ hq 0 _ rfl
            rw [← hbwi.cell (p := ⟨bk2, o2 + i * 4 + 0, none⟩) (by show bk2 < _; omega)] at e0
            have e1 := hu i _ hq 1 _ rfl
            rw [← hbwi.cell (p := ⟨bk2, o2 + i * 4 + 1, none⟩) (by show bk2 < _; omega)] at e1
            have e2 := hu i _ hq 2 _ rfl
            rw [← hbwi.cell (p := ⟨bk2, o2 + i * 4 + 2, none⟩) (by show bk2 < _; omega)] at e2
            have e3 := hu i _ hq 3 _ rfl
            rw [← hbwi.cell (p := ⟨bk2, o2 + i * 4 + 3, none⟩) (by show bk2 < _; omega)] at e3
            rw [Nat.add_zero] at e0
            unfold sv at e0
            obtain ⟨wa, hwa⟩ : ∃ y, y = wi.alloc (.cells #[.string (bs pn), .int .i64 pa, .int .i64 pb, .int .i64 pc] 42) := ⟨_, rfl⟩
            have k0 : wa.cell? ⟨wi.heap.size, 0, none⟩ = some (.string (bs pn)) ∧ wa.cell? ⟨wi.heap.size, 1, none⟩ = some (.int .i64 pa) ∧ wa.cell? ⟨wi.heap.size, 2, none⟩ = some (.int .i64 pb) ∧ wa.cell? ⟨wi.heap.size, 3, none⟩ = some (.int .i64 pc) := by rw [hwa]; exact ⟨World.cell?_alloc_at _ _ _ _ rfl, World.cell?_alloc_at _ _ _ _ rfl, World.cell?_alloc_at _ _ _ _ rfl, World.cell?_alloc_at _ _ _ _ rfl⟩
            have hza : wa.heap.size = wi.heap.size + 1 := by rw [hwa]; exact Array.size_push ..
            have HBDA : Hid (Build w1.heap.size w1.heap.size _ wa) := Lib.hid (build_below HBD.out (by rw [hwa]; exact (Below.refl _ wi).alloc (Nat.le_refl _) _))
            have HXA : Hid (wa.heap[wo.heap.size]? = some (.cells #[.string (bs nm), .int .i64 va, .int .i64 vb, .int .i64 vc, .slice (some ⟨bk2, o2, none⟩) cx.length cc, .slice ea es.length ec] 38 (0, 0))) := Lib.hid (by rw [hwa, Below.heap_alloc _ _ _ hXz]; exact HXI.out)
            have HVA : Hid (wa.heap[wi.heap.size]? = some (.cells #[.string (bs pn), .int .i64 pa, .int .i64 pb, .int .i64 pc] 42 (0, 0))) := Lib.hid (by rw [hwa]; exact heap_alloc_new wi _)
            have HBA : Hid (Below w1.heap.size w1 wa) := Lib.hid (by rw [hwa]; exact hBi.alloc hzi _)
            have hbwa : Below w.heap.size w wa := HB1.out.trans (HBA.out.mono HB1.out.size)
            obtain ⟨vt, hvt⟩ : ∃ t, t = Ve.text ⟨pa, pb, pc⟩ := ⟨_, rfl⟩
            have hvl : vt.length ≤ 16 := by rw [hvt]; have := ver_short (v := ⟨pa, pb, pc⟩) hgood.2; omega
            have HV : Hid (∀ W, Below wa.heap.size wa W → Calls Tryd.prog 14 #[.agg #[.int .i64 pa, .int .i64 pb, .int .i64 pc]] W fun e w' => e = .returned (.string (bs vt)) ∧ Below W.heap.size W w') := Lib.hid (fun W hW => by
              rw [hvt, ← str_bs (v := ⟨pa, pb, pc⟩) hgood.2]
              exact VL.print_any pa pb pc W (HENV.out.below (hbwa.trans (hW.mono hbwa.size)) (Nat.le_refl _)).pow)
            obtain ⟨t1, t2, t3, t4, s1, s2, s3, s4, ht4, ht4l⟩ := line_adds ⟨#[119, 105, 116, 104, 32]⟩ wWith pn vt rfl (by decide) (name_short hgood.1) hvl
            have HNX : Hid (Go.Lib.byteCells (P0 ++ Scan.unlines ((cx.take i).map pinWords)) ++ Go.Lib.strCells (bs t4) = Go.Lib.byteCells (P0 ++ Scan.unlines ((cx.take (i + 1)).map pinWords))) := Lib.hid (by
              rw [unlines_next hxp, ht4, hvt]
              simp [Go.Lib.byteCells, Go.Lib.strCells, bs, pinWords])
            have hlen : (P0 ++ Scan.unlines ((cx.take i).map pinWords)).length ≤ 1060000 := by have := pins_short HPINS.out i; rw [List.length_append]; omega
            have HWA := Lib.hid hwa
            clear hu hq hxp hgood hvt ht4 hwa
            go_wp2_with fail
            rw [← HWA.out]
            go_region_held3 (fun w' => w'.cell? ⟨wi.heap.size, 0, none⟩ = some (.string (bs pn)) ∧ w'.cell? ⟨wi.heap.size, 1, none⟩ = some (.int .i64 pa) ∧ w'.cell? ⟨wi.heap.size, 2, none⟩ = some (.int .i64 pb) ∧ w'.cell? ⟨wi.heap.size, 3, none⟩ = some (.int .i64 pc)) (first | exact k0 | exact k3 | exact k4) (first
              | (go_at_call 14; refine (HV.out _ (by go_grown)).mono ?_; rintro e w3 ⟨rfl, hb3⟩; have hA3 : Below wa.heap.size wa w3 := (Below.trans (by go_grown) hb3); have k3 : w3.cell? ⟨wi.heap.size, 0, none⟩ = some (.string (bs pn)) ∧ w3.cell? ⟨wi.heap.size, 1, none⟩ = some (.int .i64 pa) ∧ w3.cell? ⟨wi.heap.size, 2, none⟩ = some (.int .i64 pb) ∧ w3.cell? ⟨wi.heap.size, 3, none⟩ = some (.int .i64 pc) := ⟨by rw [hA3.cell (p := ⟨wi.heap.size, 0, none⟩) (by show wi.heap.size < _; omega)]; exact k0.1, by rw [hA3.cell (p := ⟨wi.heap.size, 1, none⟩) (by show wi.heap.size < _; omega)]; exact k0.2.1, by rw [hA3.cell (p := ⟨wi.heap.size, 2, none⟩) (by show wi.heap.size < _; omega)]; exact k0.2.2.1, by rw [hA3.cell (p := ⟨wi.heap.size, 3, none⟩) (by show wi.heap.size < _; omega)]; exact k0.2.2.2⟩; have HBD3 := Lib.hid (build_below HBDA.out hA3); have HA3 := Lib.hid hA3; have hz3 := hA3.size; clear hb3 hA3)
              | (go_at_call 13; refine (WriteString_kept w1.heap.size w1.heap.size _ (bs t4) _ HBD3.out (by rw [Go.Lib.byteCells_length, bs_size]; omega) (by omega)).mono ?_; rintro e w4 ⟨rfl, ⟨hbd4, hb4⟩, ho4⟩; have hx4 := kept_block ho4 HXA.out (Below.trans HA3.out (by go_grown)) (by omega) (by omega) (by decide); have hy4 := kept_block ho4 HVA.out (Below.trans HA3.out (by go_grown)) (by omega) (by omega) (by decide); have k4 : w4.cell? ⟨wi.heap.size, 0, none⟩ = some (.string (bs pn)) ∧ w4.cell? ⟨wi.heap.size, 1, none⟩ = some (.int .i64 pa) ∧ w4.cell? ⟨wi.heap.size, 2, none⟩ = some (.int .i64 pb) ∧ w4.cell? ⟨wi.heap.size, 3, none⟩ = some (.int .i64 pc) := (by refine ⟨?_, ?_, ?_, ?_⟩ <;> (rw [Go.Lib.cell_of_heap hy4]; rfl)); have HB4 : Hid (Below w1.heap.size w1 w4) := Lib.hid ((HBA.out.trans (HA3.out.mono (by omega))).trans (Below.trans (by go_grown) hb4)); have HBD4 := Lib.hid hbd4; have HX4 := Lib.hid hx4; have hz4 : wo.heap.size < w4.heap.size := (by have h1 := hb4.size; (try simp at h1); omega); clear hbd4 ho4 hx4 hy4 hb4))
            all_goals
              clear k0 k3 k4 e0 e1 e2 e3 s1 s2 s3 s4
              go_wp2
              go_roundw
              case rel => exact ⟨i + 1, by go_num, by omega, by rw [← HNX.out]; exact HBD4.out, HX4.out, HB4.out, hz4⟩
              case measure => simp [intOf]; omega
          · obtain ⟨P1, hP1⟩ : ∃ y, y = P0 ++ Scan.unlines (cx.map pinWords) := ⟨_, rfl⟩
            have hbd2 := HBD.out
            rw [List.take_of_length_le (by omega), ← hP1] at hbd2
            have HP1 := Lib.hid hP1
            have HBD0 := Lib.hid hbd2
            have HX0 := Lib.hid HXI.out
            have HB0 := Lib.hid hBi
            have HZ0 := Lib.hid hXz
            have hPl1 : P1.length ≤ 1054000 := by rw [hP1, List.length_append]; have := pins_short HPINS.out cx.length; rw [List.take_of_length_le (Nat.le_refl _)] at this; omega
            clear hP1 hbd2
            obtain ⟨wi0, hwi0⟩ : ∃ y, y = wi := ⟨_, rfl⟩
            rw [← hwi0] at HBD0 HX0 HB0 HZ0 ⊢
            clear hwi0 HBD HXI hBi hXz hzi
            have HTX := HX0.out
            have g4 : wi0.cell? ⟨wo.heap.size, 4, none⟩ = some (.slice ca cx.length cc) := by rw [Go.Lib.cell_of_heap HTX]; rfl
            have g5 : wi0.cell? ⟨wo.heap.size, 5, none⟩ = some (.slice ea es.length ec) := by rw [Go.Lib.cell_of_heap HTX]; rfl
            clear HTX
            go_wp2
            clear g4 g5
            go_loopw [57] (fun p wr => ∃ i : Nat, p = .int .i64 i ∧ i ≤ es.length ∧ Build w1.heap.size w1.heap.size (Go.Lib.byteCells (P1 ++ Scan.unlines ((es.take i).map edgeWords))) wr ∧ wr.heap[wo.heap.size]? = some (.cells #[.string (bs nm), .int .i64 va, .int .i64 vb, .int .i64 vc, .slice ca cx.length cc, .slice ea es.length ec] 38 (0, 0)) ∧ Below w1.heap.size w1 wr ∧ wo.heap.size < wr.heap.size) (fun p _ => es.length - (intOf p).toNat)
            case atStart => exact ⟨0, rfl, by omega, by simpa [Scan.unlines] using HBD0.out, HX0.out, HB0.out, HZ0.out⟩
            case round =>
              obtain ⟨i2, rfl, hi, hbd, hX, hBi, hXz⟩ := hrel
              obtain ⟨wi, rfl⟩ : ∃ x, x = wr := ⟨wr, rfl⟩
              have HBD := Lib.hid hbd
              have HXI := Lib.hid hX
              clear hbd hX
              have hzi := hBi.size
              by_cases hil : i2 < es.length
              · obtain ⟨e2, hxe2⟩ : ∃ y, es[i2]? = some y := ⟨_, List.getElem?_eq_getElem hil⟩
                obtain ⟨en, ed⟩ := e2
                have hgood := edge_in HEDGES.out _ (List.mem_of_getElem? hxe2)
                dsimp only at hgood
                obtain ⟨bk2, o2, cap2, hve, hlc2, hk2, hu⟩ := HE.out.some (by rw [List.length_map]; omega)
                rw [List.length_map] at hve
                cases hve
                have hq : (es.map edgeCells)[i2]? = some (edgeCells ⟨en, ed⟩) := by rw [List.getElem?_map, hxe2]; rfl
                have hbwi : Below w.heap.size w wi := HB1.out.trans (hBi.mono HB1.out.size)
                have e0 := hu i2 _ hq 0 _ rfl
                rw [← hbwi.cell (p := ⟨bk2, o2 + i2 * 2 + 0, none⟩) (by show bk2 < _; omega)] at e0
                have e1 := hu i2 _ hq 1 _ rfl
                rw [← hbwi.cell (p := ⟨bk2, o2 + i2 * 2 + 1, none⟩) (by show bk2 < _; omega)] at e1
                rw [Nat.add_zero] at e0
                unfold sv at e0
                obtain ⟨wa, hwa⟩ : ∃ y, y = wi.alloc (.cells #[.string (bs en), .int .i64 ed] 40) := ⟨_, rfl⟩
                have k0 : wa.cell? ⟨wi.heap.size, 0, none⟩ = some (.string (bs en)) ∧ wa.cell? ⟨wi.heap.size, 1, none⟩ = some (.int .i64 ed) := by rw [hwa]; exact ⟨World.cell?_alloc_at _ _ _ _ rfl, World.cell?_alloc_at _ _ _ _ rfl⟩
                have hza : wa.heap.size = wi.heap.size + 1 := by rw [hwa]; exact Array.size_push ..
                have HBDA : Hid (Build w1.heap.size w1.heap.size _ wa) := Lib.hid (build_below HBD.out (by rw [hwa]; exact (Below.refl _ wi).alloc (Nat.le_refl _) _))
                have HXA : Hid (wa.heap[wo.heap.size]? = some (.cells #[.string (bs nm), .int .i64 va, .int .i64 vb, .int .i64 vc, .slice ca cx.length cc, .slice (some ⟨bk2, o2, none⟩) es.length ec] 38 (0, 0))) := Lib.hid (by rw [hwa, Below.heap_alloc _ _ _ hXz]; exact HXI.out)
                have HVA : Hid (wa.heap[wi.heap.size]? = some (.cells #[.string (bs en), .int .i64 ed] 40 (0, 0))) := Lib.hid (by rw [hwa]; exact heap_alloc_new wi _)
                have HBA : Hid (Below w1.heap.size w1 wa) := Lib.hid (by rw [hwa]; exact hBi.alloc hzi _)
                have hbwa : Below w.heap.size w wa := HB1.out.trans (HBA.out.mono HB1.out.size)
                obtain ⟨vt, hvt⟩ : ∃ t, t = Go.Lib.decDigits ed.toNat := ⟨_, rfl⟩
                have hvl : vt.length ≤ 16 := by rw [hvt]; have := dec_four (u := ed.toNat) (by omega); omega
                have HV : Hid (∀ W, Below wa.heap.size wa W → Calls Tryd.prog 15 #[.int .i64 ed] W fun e w' => e = .returned (.string (bs vt)) ∧ Below W.heap.size W w') := Lib.hid (fun W hW => by
                  have h := Itoa_any ed (by omega) W (HENV.out.below (hbwa.trans (hW.mono hbwa.size)) (Nat.le_refl _))
                  have hi : itext ed = bs vt := by unfold itext bs; rw [hvt, show ed = ((ed.toNat : Nat) : Int) by omega, Go.Lib.itoa_nonneg]; rfl
                  rwa [hi] at h)
                obtain ⟨t1, t2, t3, t4, s1, s2, s3, s4, ht4, ht4l⟩ := line_adds ⟨#[116, 111, 32]⟩ wTo en vt rfl (by decide) (name_short hgood.1) hvl
                have HNX : Hid (Go.Lib.byteCells (P1 ++ Scan.unlines ((es.take i2).map edgeWords)) ++ Go.Lib.strCells (bs t4) = Go.Lib.byteCells (P1 ++ Scan.unlines ((es.take (i2 + 1)).map edgeWords))) := Lib.hid (by
                  rw [unlines_next hxe2, ht4, hvt]
                  simp [Go.Lib.byteCells, Go.Lib.strCells, bs, edgeWords])
                have hlen : (P1 ++ Scan.unlines ((es.take i2).map edgeWords)).length ≤ 1060000 := by have := edges_short hmany HEDGES.out i2; rw [List.length_append]; omega
                have HWA := Lib.hid hwa
                clear hu hq hxe2 hgood hvt ht4 hwa
                go_wp2_with fail
                rw [← HWA.out]
                go_region_held3 (fun w' => w'.cell? ⟨wi.heap.size, 0, none⟩ = some (.string (bs en)) ∧ w'.cell? ⟨wi.heap.size, 1, none⟩ = some (.int .i64 ed)) (first | exact k0 | exact k3 | exact k4) (first
                  | (go_at_call 15; refine (HV.out _ (by go_grown)).mono ?_; rintro e w3 ⟨rfl, hb3⟩; have hA3 : Below wa.heap.size wa w3 := (Below.trans (by go_grown) hb3); have k3 : w3.cell? ⟨wi.heap.size, 0, none⟩ = some (.string (bs en)) ∧ w3.cell? ⟨wi.heap.size, 1, none⟩ = some (.int .i64 ed) := ⟨by rw [hA3.cell (p := ⟨wi.heap.size, 0, none⟩) (by show wi.heap.size < _; omega)]; exact k0.1, by rw [hA3.cell (p := ⟨wi.heap.size, 1, none⟩) (by show wi.heap.size < _; omega)]; exact k0.2⟩; have HBD3 := Lib.hid (build_below HBDA.out hA3); have HA3 := Lib.hid hA3; have hz3 := hA3.size; clear hb3 hA3)
                  | (go_at_call 13; refine (WriteString_kept w1.heap.size w1.heap.size _ (bs t4) _ HBD3.out (by rw [Go.Lib.byteCells_length, bs_size]; omega) (by omega)).mono ?_; rintro e w4 ⟨rfl, ⟨hbd4, hb4⟩, ho4⟩; have hx4 := kept_block ho4 HXA.out (Below.trans HA3.out (by go_grown)) (by omega) (by omega) (by decide); have hy4 := kept_block ho4 HVA.out (Below.trans HA3.out (by go_grown)) (by omega) (by omega) (by decide); have k4 : w4.cell? ⟨wi.heap.size, 0, none⟩ = some (.string (bs en)) ∧ w4.cell? ⟨wi.heap.size, 1, none⟩ = some (.int .i64 ed) := (by refine ⟨?_, ?_⟩ <;> (rw [Go.Lib.cell_of_heap hy4]; rfl)); have HB4 : Hid (Below w1.heap.size w1 w4) := Lib.hid ((HBA.out.trans (HA3.out.mono (by omega))).trans (Below.trans (by go_grown) hb4)); have HBD4 := Lib.hid hbd4; have HX4 := Lib.hid hx4; have hz4 : wo.heap.size < w4.heap.size := (by have h1 := hb4.size; (try simp at h1); omega); clear hbd4 ho4 hx4 hy4 hb4))
                all_goals
                  clear k0 k3 k4 e0 e1 s1 s2 s3 s4
                  go_wp2
                  go_roundw
                  case rel => exact ⟨i2 + 1, by go_num, by omega, by rw [← HNX.out]; exact HBD4.out, HX4.out, HB4.out, hz4⟩
                  case measure => simp [intOf]; omega
              · have hbd2 := HBD.out
                rw [List.take_of_length_le (by omega)] at hbd2
                have HBD5 : Hid (Build w1.heap.size w1.heap.size (Go.Lib.byteCells (Tx g (k + 1))) wi) := Lib.hid (by rw [Tx_next HX.out, ← HP0.out, ← HP1.out]; exact hbd2)
                clear hbd2
                go_wp2
                exact ⟨⟨k + 1, by simp, by omega, HBD5.out, hBi⟩, by simp [intOf]; omega⟩
      · have hkz : (((k : Nat) : Int) == 0) = false := by rw [beq_eq_false_iff_ne]; omega
        have hgood := HNAMED.out
        rw [named_pos hk0, Bool.and_eq_true] at hgood
        obtain ⟨vt, hvt⟩ : ∃ t, t = Ve.text ⟨va, vb, vc⟩ := ⟨_, rfl⟩
        have hvl : vt.length ≤ 16 := by rw [hvt]; have := ver_short (v := ⟨va, vb, vc⟩) hgood.2; omega
        have HV : Hid (∀ W, Below wa.heap.size wa W → Calls Tryd.prog 14 #[.agg #[.int .i64 va, .int .i64 vb, .int .i64 vc]] W fun e w' => e = .returned (.string (bs vt)) ∧ Below W.heap.size W w') := Lib.hid (fun W hW => by
          rw [hvt, ← str_bs (v := ⟨va, vb, vc⟩) hgood.2]
          exact VL.print_any va vb vc W (HENV.out.below (hbwa.trans (hW.mono hbwa.size)) (Nat.le_refl _)).pow)
        obtain ⟨t1, t2, t3, t4, s1, s2, s3, s4, ht4, ht4l⟩ := line_adds ⟨#[110, 111, 100, 101, 32]⟩ wNode nm vt rfl (by decide) (name_short hgood.1) hvl
        have hPe : P0 = Tx g k ++ t4 := by rw [hP0, ht4, hvt]; unfold headWords; rw [if_neg (by omega)]
        have hPl : P0.length ≤ 1049000 := by rw [hPe, List.length_append]; omega
        have HNX : Hid (Go.Lib.byteCells (Tx g k) ++ Go.Lib.strCells (bs t4) = Go.Lib.byteCells P0) := Lib.hid (by
          rw [hPe]
          simp [Go.Lib.byteCells, Go.Lib.strCells, bs])
        have HP0 := Lib.hid hP0
        have k0 : wa.cell? ⟨wo.heap.size, 0, none⟩ = some (.string (bs nm)) ∧ wa.cell? ⟨wo.heap.size, 1, none⟩ = some (.int .i64 va) ∧ wa.cell? ⟨wo.heap.size, 2, none⟩ = some (.int .i64 vb) ∧ wa.cell? ⟨wo.heap.size, 3, none⟩ = some (.int .i64 vc) := by rw [HWA.out]; exact ⟨World.cell?_alloc_at _ _ _ _ rfl, World.cell?_alloc_at _ _ _ _ rfl, World.cell?_alloc_at _ _ _ _ rfl, World.cell?_alloc_at _ _ _ _ rfl⟩
        clear hP0 hk0 hgood hvt ht4 hPe
        go_wp2_with fail
        rw [← HWA.out]
        go_region_held3 (fun w' => w'.cell? ⟨wo.heap.size, 0, none⟩ = some (.string (bs nm)) ∧ w'.cell? ⟨wo.heap.size, 1, none⟩ = some (.int .i64 va) ∧ w'.cell? ⟨wo.heap.size, 2, none⟩ = some (.int .i64 vb) ∧ w'.cell? ⟨wo.heap.size, 3, none⟩ = some (.int .i64 vc)) (first | exact k0 | exact k3 | exact k4) (first
          | (go_at_call 14; refine (HV.out _ (by go_grown)).mono ?_; rintro e w3 ⟨rfl, hb3⟩; have hA3 : Below wa.heap.size wa w3 := (Below.trans (by go_grown) hb3); have k3 : w3.cell? ⟨wo.heap.size, 0, none⟩ = some (.string (bs nm)) ∧ w3.cell? ⟨wo.heap.size, 1, none⟩ = some (.int .i64 va) ∧ w3.cell? ⟨wo.heap.size, 2, none⟩ = some (.int .i64 vb) ∧ w3.cell? ⟨wo.heap.size, 3, none⟩ = some (.int .i64 vc) := ⟨by rw [hA3.cell (p := ⟨wo.heap.size, 0, none⟩) (by show wo.heap.size < _; omega)]; exact k0.1, by rw [hA3.cell (p := ⟨wo.heap.size, 1, none⟩) (by show wo.heap.size < _; omega)]; exact k0.2.1, by rw [hA3.cell (p := ⟨wo.heap.size, 2, none⟩) (by show wo.heap.size < _; omega)]; exact k0.2.2.1, by rw [hA3.cell (p := ⟨wo.heap.size, 3, none⟩) (by show wo.heap.size < _; omega)]; exact k0.2.2.2⟩; have HBD3 := Lib.hid (build_below HBDA.out hA3); have HA3 := Lib.hid hA3; have hz3 := hA3.size; clear hb3 hA3)
          | (go_at_call 13; refine (WriteString_kept w1.heap.size w1.heap.size _ (bs t4) _ HBD3.out (by rw [Go.Lib.byteCells_length, bs_size]; omega) (by omega)).mono ?_; rintro e w4 ⟨rfl, ⟨hbd4, hb4⟩, ho4⟩; have hx4 := kept_block ho4 HXA.out (Below.trans HA3.out (by go_grown)) (by omega) (by omega) (by decide); have k4 : w4.cell? ⟨wo.heap.size, 0, none⟩ = some (.string (bs nm)) ∧ w4.cell? ⟨wo.heap.size, 1, none⟩ = some (.int .i64 va) ∧ w4.cell? ⟨wo.heap.size, 2, none⟩ = some (.int .i64 vb) ∧ w4.cell? ⟨wo.heap.size, 3, none⟩ = some (.int .i64 vc) := (by refine ⟨?_, ?_, ?_, ?_⟩ <;> (rw [Go.Lib.cell_of_heap hx4]; rfl)); have HB4 : Hid (Below w1.heap.size w1 w4) := Lib.hid ((HBA.out.trans (HA3.out.mono (by omega))).trans (Below.trans (by go_grown) hb4)); have HBD4 := Lib.hid hbd4; have HX4 := Lib.hid hx4; have hz4 : wo.heap.size < w4.heap.size := (by have h1 := hb4.size; (try simp at h1); omega); clear hbd4 ho4 hx4 hb4))
        all_goals
          obtain ⟨wi0, hwi0⟩ : ∃ y, y = w4 := ⟨_, rfl⟩
          rw [← hwi0] at HX4 HBD4 HB4 hz4 ⊢
          have HX0 := Lib.hid HX4.out
          have HBD0 : Hid (Build w1.heap.size w1.heap.size (Go.Lib.byteCells P0) wi0) := Lib.hid (by rw [← HNX.out]; exact HBD4.out)
          have HB0 := Lib.hid HB4.out
          have HZ0 := Lib.hid hz4
          clear hwi0 HX4 HBD4 HB4 hz4 k0 k3 k4 s1 s2 s3 s4 hlen hkz e0 e1 e2 e3 e4 e5 hz3 HBD3 HA3
          have HTX := HX0.out
          have g4 : wi0.cell? ⟨wo.heap.size, 4, none⟩ = some (.slice ca cx.length cc) := by rw [Go.Lib.cell_of_heap HTX]; rfl
          have g5 : wi0.cell? ⟨wo.heap.size, 5, none⟩ = some (.slice ea es.length ec) := by rw [Go.Lib.cell_of_heap HTX]; rfl
          clear HTX
          go_wp2
          clear g4 g5
          go_loopw [39] (fun p wr => ∃ i : Nat, p = .int .i64 i ∧ i ≤ cx.length ∧ Build w1.heap.size w1.heap.size (Go.Lib.byteCells (P0 ++ Scan.unlines ((cx.take i).map pinWords))) wr ∧ wr.heap[wo.heap.size]? = some (.cells #[.string (bs nm), .int .i64 va, .int .i64 vb, .int .i64 vc, .slice ca cx.length cc, .slice ea es.length ec] 38 (0, 0)) ∧ Below w1.heap.size w1 wr ∧ wo.heap.size < wr.heap.size) (fun p _ => cx.length - (intOf p).toNat)
          case atStart => exact ⟨0, rfl, by omega, by simpa [Scan.unlines] using HBD0.out, HX0.out, HB0.out, HZ0.out⟩
          case round =>
            obtain ⟨i, rfl, hi, hbd, hX, hBi, hXz⟩ := hrel
            obtain ⟨wi, rfl⟩ : ∃ x, x = wr := ⟨wr, rfl⟩
            have HBD := Lib.hid hbd
            have HXI := Lib.hid hX
            clear hbd hX
            have hzi := hBi.size
            by_cases hil : i < cx.length
            · obtain ⟨p, hxp⟩ : ∃ y, cx[i]? = some y := ⟨_, List.getElem?_eq_getElem hil⟩
              obtain ⟨pn, ⟨pa, pb, pc⟩⟩ := p
              have hgood := pin_in HPINS.out _ (List.mem_of_getElem? hxp)
              dsimp only at hgood
              obtain ⟨bk2, o2, cap2, hve, hlc2, hk2, hu⟩ := HP.out.some (by rw [List.length_map]; omega)
              rw [List.length_map] at hve
              cases hve
              have hq : (cx.map pinCells)[i]? = some (pinCells ⟨pn, ⟨pa, pb, pc⟩⟩) := by rw [List.getElem?_map, hxp]; rfl
              have hbwi : Below w.heap.size w wi := HB1.out.trans (hBi.mono HB1.out.size)
              have e0 := hu i _ hq 0 _ rfl
              rw [← hbwi.cell (p := ⟨bk2, o2 + i * 4 + 0, none⟩) (by show bk2 < _; omega)] at e0
              have e1 := hu i _ hq 1 _ rfl
              rw [← hbwi.cell (p := ⟨bk2, o2 + i * 4 + 1, none⟩) (by show bk2 < _; omega)] at e1
              have e2 := hu i _ hq 2 _ rfl
              rw [← hbwi.cell (p := ⟨bk2, o2 + i * 4 + 2, none⟩) (by show bk2 < _; omega)] at e2
              have e3 := hu i _ hq 3 _ rfl
              rw [← hbwi.cell (p := ⟨bk2, o2 + i * 4 + 3, none⟩) (by show bk2 < _; omega)] at e3
              rw [Nat.add_zero] at e0
              unfold sv at e0
              obtain ⟨wa, hwa⟩ : ∃ y, y = wi.alloc (.cells #[.string (bs pn), .int .i64 pa, .int .i64 pb, .int .i64 pc] 42) := ⟨_, rfl⟩
              have k0 : wa.cell? ⟨wi.heap.size, 0, none⟩ = some (.string (bs pn)) ∧ wa.cell? ⟨wi.heap.size, 1, none⟩ = some (.int .i64 pa) ∧ wa.cell? ⟨wi.heap.size, 2, none⟩ = some (.int .i64 pb) ∧ wa.cell? ⟨wi.heap.size, 3, none⟩ = some (.int .i64 pc) := by rw [hwa]; exact ⟨World.cell?_alloc_at _ _ _ _ rfl, World.cell?_alloc_at _ _ _ _ rfl, World.cell?_alloc_at _ _ _ _ rfl, World.cell?_alloc_at _ _ _ _ rfl⟩
              have hza : wa.heap.size = wi.heap.size + 1 := by rw [hwa]; exact Array.size_push ..
              have HBDA : Hid (Build w1.heap.size w1.heap.size _ wa) := Lib.hid (build_below HBD.out (by rw [hwa]; exact (Below.refl _ wi).alloc (Nat.le_refl _) _))
              have HXA : Hid (wa.heap[wo.heap.size]? = some (.cells #[.string (bs nm), .int .i64 va, .int .i64 vb, .int .i64 vc, .slice (some ⟨bk2, o2, none⟩) cx.length cc, .slice ea es.length ec] 38 (0, 0))) := Lib.hid (by rw [hwa, Below.heap_alloc _ _ _ hXz]; exact HXI.out)
              have HVA : Hid (wa.heap[wi.heap.size]? = some (.cells #[.string (bs pn), .int .i64 pa, .int .i64 pb, .int .i64 pc] 42 (0, 0))) := Lib.hid (by rw [hwa]; exact heap_alloc_new wi _)
              have HBA : Hid (Below w1.heap.size w1 wa) := Lib.hid (by rw [hwa]; exact hBi.alloc hzi _)
              have hbwa : Below w.heap.size w wa := HB1.out.trans (HBA.out.mono HB1.out.size)
              obtain ⟨vt, hvt⟩ : ∃ t, t = Ve.text ⟨pa, pb, pc⟩ := ⟨_, rfl⟩
              have hvl : vt.length ≤ 16 := by rw [hvt]; have := ver_short (v := ⟨pa, pb, pc⟩) hgood.2; omega
              have HV : Hid (∀ W, Below wa.heap.size wa W → Calls Tryd.prog 14 #[.agg #[.int .i64 pa, .int .i64 pb, .int .i64 pc]] W fun e w' => e = .returned (.string (bs vt)) ∧ Below W.heap.size W w') := Lib.hid (fun W hW => by
                rw [hvt, ← str_bs (v := ⟨pa, pb, pc⟩) hgood.2]
                exact VL.print_any pa pb pc W (HENV.out.below (hbwa.trans (hW.mono hbwa.size)) (Nat.le_refl _)).pow)
              obtain ⟨t1, t2, t3, t4, s1, s2, s3, s4, ht4, ht4l⟩ := line_adds ⟨#[119, 105, 116, 104, 32]⟩ wWith pn vt rfl (by decide) (name_short hgood.1) hvl
              have HNX : Hid (Go.Lib.byteCells (P0 ++ Scan.unlines ((cx.take i).map pinWords)) ++ Go.Lib.strCells (bs t4) = Go.Lib.byteCells (P0 ++ Scan.unlines ((cx.take (i + 1)).map pinWords))) := Lib.hid (by
                rw [unlines_next hxp, ht4, hvt]
                simp [Go.Lib.byteCells, Go.Lib.strCells, bs, pinWords])
              have hlen : (P0 ++ Scan.unlines ((cx.take i).map pinWords)).length ≤ 1060000 := by have := pins_short HPINS.out i; rw [List.length_append]; omega
              have HWA := Lib.hid hwa
              clear hu hq hxp hgood hvt ht4 hwa
              go_wp2_with fail
              rw [← HWA.out]
              go_region_held3 (fun w' => w'.cell? ⟨wi.heap.size, 0, none⟩ = some (.string (bs pn)) ∧ w'.cell? ⟨wi.heap.size, 1, none⟩ = some (.int .i64 pa) ∧ w'.cell? ⟨wi.heap.size, 2, none⟩ = some (.int .i64 pb) ∧ w'.cell? ⟨wi.heap.size, 3, none⟩ = some (.int .i64 pc)) (first | exact k0 | exact k3 | exact k4) (first
                | (go_at_call 14; refine (HV.out _ (by go_grown)).mono ?_; rintro e w3 ⟨rfl, hb3⟩; have hA3 : Below wa.heap.size wa w3 := (Below.trans (by go_grown) hb3); have k3 : w3.cell? ⟨wi.heap.size, 0, none⟩ = some (.string (bs pn)) ∧ w3.cell? ⟨wi.heap.size, 1, none⟩ = some (.int .i64 pa) ∧ w3.cell? ⟨wi.heap.size, 2, none⟩ = some (.int .i64 pb) ∧ w3.cell? ⟨wi.heap.size, 3, none⟩ = some (.int .i64 pc) := ⟨by rw [hA3.cell (p := ⟨wi.heap.size, 0, none⟩) (by show wi.heap.size < _; omega)]; exact k0.1, by rw [hA3.cell (p := ⟨wi.heap.size, 1, none⟩) (by show wi.heap.size < _; omega)]; exact k0.2.1, by rw [hA3.cell (p := ⟨wi.heap.size, 2, none⟩) (by show wi.heap.size < _; omega)]; exact k0.2.2.1, by rw [hA3.cell (p := ⟨wi.heap.size, 3, none⟩) (by show wi.heap.size < _; omega)]; exact k0.2.2.2⟩; have HBD3 := Lib.hid (build_below HBDA.out hA3); have HA3 := Lib.hid hA3; have hz3 := hA3.size; clear hb3 hA3)
                | (go_at_call 13; refine (WriteString_kept w1.heap.size w1.heap.size _ (bs t4) _ HBD3.out (by rw [Go.Lib.byteCells_length, bs_size]; omega) (by omega)).mono ?_; rintro e w4 ⟨rfl, ⟨hbd4, hb4⟩, ho4⟩; have hx4 := kept_block ho4 HXA.out (Below.trans HA3.out (by go_grown)) (by omega) (by omega) (by decide); have hy4 := kept_block ho4 HVA.out (Below.trans HA3.out (by go_grown)) (by omega) (by omega) (by decide); have k4 : w4.cell? ⟨wi.heap.size, 0, none⟩ = some (.string (bs pn)) ∧ w4.cell? ⟨wi.heap.size, 1, none⟩ = some (.int .i64 pa) ∧ w4.cell? ⟨wi.heap.size, 2, none⟩ = some (.int .i64 pb) ∧ w4.cell? ⟨wi.heap.size, 3, none⟩ = some (.int .i64 pc) := (by refine ⟨?_, ?_, ?_, ?_⟩ <;> (rw [Go.Lib.cell_of_heap hy4]; rfl)); have HB4 : Hid (Below w1.heap.size w1 w4) := Lib.hid ((HBA.out.trans (HA3.out.mono (by omega))).trans (Below.trans (by go_grown) hb4)); have HBD4 := Lib.hid hbd4; have HX4 := Lib.hid hx4; have hz4 : wo.heap.size < w4.heap.size := (by have h1 := hb4.size; (try simp at h1); omega); clear hbd4 ho4 hx4 hy4 hb4))
              all_goals
                clear k0 k3 k4 e0 e1 e2 e3 s1 s2 s3 s4
                go_wp2
                go_roundw
                case rel => exact ⟨i + 1, by go_num, by omega, by rw [← HNX.out]; exact HBD4.out, HX4.out, HB4.out, hz4⟩
                case measure => simp [intOf]; omega
            · obtain ⟨P1, hP1⟩ : ∃ y, y = P0 ++ Scan.unlines (cx.map pinWords) := ⟨_, rfl⟩
              have hbd2 := HBD.out
              rw [List.take_of_length_le (by omega), ← hP1] at hbd2
              have HP1 := Lib.hid hP1
              have HBD0 := Lib.hid hbd2
              have HX0 := Lib.hid HXI.out
              have HB0 := Lib.hid hBi
              have HZ0 := Lib.hid hXz
              have hPl1 : P1.length ≤ 1054000 := by rw [hP1, List.length_append]; have := pins_short HPINS.out cx.length; rw [List.take_of_length_le (Nat.le_refl _)] at this; omega
              clear hP1 hbd2
              obtain ⟨wi0, hwi0⟩ : ∃ y, y = wi := ⟨_, rfl⟩
              rw [← hwi0] at HBD0 HX0 HB0 HZ0 ⊢
              clear hwi0 HBD HXI hBi hXz hzi
              have HTX := HX0.out
              have g4 : wi0.cell? ⟨wo.heap.size, 4, none⟩ = some (.slice ca cx.length cc) := by rw [Go.Lib.cell_of_heap HTX]; rfl
              have g5 : wi0.cell? ⟨wo.heap.size, 5, none⟩ = some (.slice ea es.length ec) := by rw [Go.Lib.cell_of_heap HTX]; rfl
              clear HTX
              go_wp2
              clear g4 g5
              go_loopw [57] (fun p wr => ∃ i : Nat, p = .int .i64 i ∧ i ≤ es.length ∧ Build w1.heap.size w1.heap.size (Go.Lib.byteCells (P1 ++ Scan.unlines ((es.take i).map edgeWords))) wr ∧ wr.heap[wo.heap.size]? = some (.cells #[.string (bs nm), .int .i64 va, .int .i64 vb, .int .i64 vc, .slice ca cx.length cc, .slice ea es.length ec] 38 (0, 0)) ∧ Below w1.heap.size w1 wr ∧ wo.heap.size < wr.heap.size) (fun p _ => es.length - (intOf p).toNat)
              case atStart => exact ⟨0, rfl, by omega, by simpa [Scan.unlines] using HBD0.out, HX0.out, HB0.out, HZ0.out⟩
              case round =>
                obtain ⟨i2, rfl, hi, hbd, hX, hBi, hXz⟩ := hrel
                obtain ⟨wi, rfl⟩ : ∃ x, x = wr := ⟨wr, rfl⟩
                have HBD := Lib.hid hbd
                have HXI := Lib.hid hX
                clear hbd hX
                have hzi := hBi.size
                by_cases hil : i2 < es.length
                · obtain ⟨e2, hxe2⟩ : ∃ y, es[i2]? = some y := ⟨_, List.getElem?_eq_getElem hil⟩
                  obtain ⟨en, ed⟩ := e2
                  have hgood := edge_in HEDGES.out _ (List.mem_of_getElem? hxe2)
                  dsimp only at hgood
                  obtain ⟨bk2, o2, cap2, hve, hlc2, hk2, hu⟩ := HE.out.some (by rw [List.length_map]; omega)
                  rw [List.length_map] at hve
                  cases hve
                  have hq : (es.map edgeCells)[i2]? = some (edgeCells ⟨en, ed⟩) := by rw [List.getElem?_map, hxe2]; rfl
                  have hbwi : Below w.heap.size w wi := HB1.out.trans (hBi.mono HB1.out.size)
                  have e0 := hu i2 _ hq 0 _ rfl
                  rw [← hbwi.cell (p := ⟨bk2, o2 + i2 * 2 + 0, none⟩) (by show bk2 < _; omega)] at e0
                  have e1 := hu i2 _ hq 1 _ rfl
                  rw [← hbwi.cell (p := ⟨bk2, o2 + i2 * 2 + 1, none⟩) (by show bk2 < _; omega)] at e1
                  rw [Nat.add_zero] at e0
                  unfold sv at e0
                  obtain ⟨wa, hwa⟩ : ∃ y, y = wi.alloc (.cells #[.string (bs en), .int .i64 ed] 40) := ⟨_, rfl⟩
                  have k0 : wa.cell? ⟨wi.heap.size, 0, none⟩ = some (.string (bs en)) ∧ wa.cell? ⟨wi.heap.size, 1, none⟩ = some (.int .i64 ed) := by rw [hwa]; exact ⟨World.cell?_alloc_at _ _ _ _ rfl, World.cell?_alloc_at _ _ _ _ rfl⟩
                  have hza : wa.heap.size = wi.heap.size + 1 := by rw [hwa]; exact Array.size_push ..
                  have HBDA : Hid (Build w1.heap.size w1.heap.size _ wa) := Lib.hid (build_below HBD.out (by rw [hwa]; exact (Below.refl _ wi).alloc (Nat.le_refl _) _))
                  have HXA : Hid (wa.heap[wo.heap.size]? = some (.cells #[.string (bs nm), .int .i64 va, .int .i64 vb, .int .i64 vc, .slice ca cx.length cc, .slice (some ⟨bk2, o2, none⟩) es.length ec] 38 (0, 0))) := Lib.hid (by rw [hwa, Below.heap_alloc _ _ _ hXz]; exact HXI.out)
                  have HVA : Hid (wa.heap[wi.heap.size]? = some (.cells #[.string (bs en), .int .i64 ed] 40 (0, 0))) := Lib.hid (by rw [hwa]; exact heap_alloc_new wi _)
                  have HBA : Hid (Below w1.heap.size w1 wa) := Lib.hid (by rw [hwa]; exact hBi.alloc hzi _)
                  have hbwa : Below w.heap.size w wa := HB1.out.trans (HBA.out.mono HB1.out.size)
                  obtain ⟨vt, hvt⟩ : ∃ t, t = Go.Lib.decDigits ed.toNat := ⟨_, rfl⟩
                  have hvl : vt.length ≤ 16 := by rw [hvt]; have := dec_four (u := ed.toNat) (by omega); omega
                  have HV : Hid (∀ W, Below wa.heap.size wa W → Calls Tryd.prog 15 #[.int .i64 ed] W fun e w' => e = .returned (.string (bs vt)) ∧ Below W.heap.size W w') := Lib.hid (fun W hW => by
                    have h := Itoa_any ed (by omega) W (HENV.out.below (hbwa.trans (hW.mono hbwa.size)) (Nat.le_refl _))
                    have hi : itext ed = bs vt := by unfold itext bs; rw [hvt, show ed = ((ed.toNat : Nat) : Int) by omega, Go.Lib.itoa_nonneg]; rfl
                    rwa [hi] at h)
                  obtain ⟨t1, t2, t3, t4, s1, s2, s3, s4, ht4, ht4l⟩ := line_adds ⟨#[116, 111, 32]⟩ wTo en vt rfl (by decide) (name_short hgood.1) hvl
                  have HNX : Hid (Go.Lib.byteCells (P1 ++ Scan.unlines ((es.take i2).map edgeWords)) ++ Go.Lib.strCells (bs t4) = Go.Lib.byteCells (P1 ++ Scan.unlines ((es.take (i2 + 1)).map edgeWords))) := Lib.hid (by
                    rw [unlines_next hxe2, ht4, hvt]
                    simp [Go.Lib.byteCells, Go.Lib.strCells, bs, edgeWords])
                  have hlen : (P1 ++ Scan.unlines ((es.take i2).map edgeWords)).length ≤ 1060000 := by have := edges_short hmany HEDGES.out i2; rw [List.length_append]; omega
                  have HWA := Lib.hid hwa
                  clear hu hq hxe2 hgood hvt ht4 hwa
                  go_wp2_with fail
                  rw [← HWA.out]
                  go_region_held3 (fun w' => w'.cell? ⟨wi.heap.size, 0, none⟩ = some (.string (bs en)) ∧ w'.cell? ⟨wi.heap.size, 1, none⟩ = some (.int .i64 ed)) (first | exact k0 | exact k3 | exact k4) (first
                    | (go_at_call 15; refine (HV.out _ (by go_grown)).mono ?_; rintro e w3 ⟨rfl, hb3⟩; have hA3 : Below wa.heap.size wa w3 := (Below.trans (by go_grown) hb3); have k3 : w3.cell? ⟨wi.heap.size, 0, none⟩ = some (.string (bs en)) ∧ w3.cell? ⟨wi.heap.size, 1, none⟩ = some (.int .i64 ed) := ⟨by rw [hA3.cell (p := ⟨wi.heap.size, 0, none⟩) (by show wi.heap.size < _; omega)]; exact k0.1, by rw [hA3.cell (p := ⟨wi.heap.size, 1, none⟩) (by show wi.heap.size < _; omega)]; exact k0.2⟩; have HBD3 := Lib.hid (build_below HBDA.out hA3); have HA3 := Lib.hid hA3; have hz3 := hA3.size; clear hb3 hA3)
                    | (go_at_call 13; refine (WriteString_kept w1.heap.size w1.heap.size _ (bs t4) _ HBD3.out (by rw [Go.Lib.byteCells_length, bs_size]; omega) (by omega)).mono ?_; rintro e w4 ⟨rfl, ⟨hbd4, hb4⟩, ho4⟩; have hx4 := kept_block ho4 HXA.out (Below.trans HA3.out (by go_grown)) (by omega) (by omega) (by decide); have hy4 := kept_block ho4 HVA.out (Below.trans HA3.out (by go_grown)) (by omega) (by omega) (by decide); have k4 : w4.cell? ⟨wi.heap.size, 0, none⟩ = some (.string (bs en)) ∧ w4.cell? ⟨wi.heap.size, 1, none⟩ = some (.int .i64 ed) := (by refine ⟨?_, ?_⟩ <;> (rw [Go.Lib.cell_of_heap hy4]; rfl)); have HB4 : Hid (Below w1.heap.size w1 w4) := Lib.hid ((HBA.out.trans (HA3.out.mono (by omega))).trans (Below.trans (by go_grown) hb4)); have HBD4 := Lib.hid hbd4; have HX4 := Lib.hid hx4; have hz4 : wo.heap.size < w4.heap.size := (by have h1 := hb4.size; (try simp at h1); omega); clear hbd4 ho4 hx4 hy4 hb4))
                  all_goals
                    clear k0 k3 k4 e0 e1 s1 s2 s3 s4
                    go_wp2
                    go_roundw
                    case rel => exact ⟨i2 + 1, by go_num, by omega, by rw [← HNX.out]; exact HBD4.out, HX4.out, HB4.out, hz4⟩
                    case measure => simp [intOf]; omega
                · have hbd2 := HBD.out
                  rw [List.take_of_length_le (by omega)] at hbd2
                  have HBD5 : Hid (Build w1.heap.size w1.heap.size (Go.Lib.byteCells (Tx g (k + 1))) wi) := Lib.hid (by rw [Tx_next HX.out, ← HP0.out, ← HP1.out]; exact hbd2)
                  clear hbd2
                  go_wp2
                  exact ⟨⟨k + 1, by simp, by omega, HBD5.out, hBi⟩, by simp [intOf]; omega⟩
    · have hbd2 := HBD.out
      rw [Tx_full (by have := HN.out; omega)] at hbd2
      have HBD2 := Lib.hid hbd2
      clear hbd2
      go_wp2_with fail
      refine (Tryd.Builder_String_any w1.heap.size w1.heap.size (text g) _ HBD2.out hzo).mono ?_
      rintro e w5 ⟨rfl, hb5⟩
      go_wp2
      go_returns
      exact ⟨by rw [HF.out]; rfl, HB1.out.trans ((hBr.trans hb5).mono (by omega))⟩
end Go.Proofs.YtjiifieafnjpgaaDoor
