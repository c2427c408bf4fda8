/- lock.Parse: the walk. -/
import Derived.Test.YtjiifieafnjpgaaDoorLockW7I
import Derived.Test.YtjiifieafnjpgaaDoorLkM
import Derived.Test.YtjiifieafnjpgaaDoorScanJP
import Derived.Deep.RegionHeld3
import Derived.Lib.BufferWrite
import Derived.Deep.AppendLies
import Derived.OwnWalk
namespace Go.Proofs.YtjiifieafnjpgaaDoor
open Go.RowKit
set_option linter.unusedSimpArgs false
set_option linter.unusedVariables false
open Lock
set_option maxHeartbeats 16000000 in
set_option maxRecDepth 100000 in
theorem gparse_any (s : ByteArray) (hs : s.size ≤ 4398046511104) (w : World) (hE : Env w) :
    Calls Tryd.prog 11 #[.string s] w (GParsePost s.data.toList w) := by
  by_cases hno : ∀ r, Scan.spec s.data.toList ≠ .inr ([wLock] :: [wRoot] :: r)
  · exact gparse_no s hs w hno
  by_cases hbig : 1048576 < s.size
  · exact gparse_long s hs w hbig
  obtain ⟨r, hsp⟩ : ∃ r, Scan.spec s.data.toList = .inr ([wLock] :: [wRoot] :: r) := by
    simp only [ne_eq, Classical.not_forall, Classical.not_not] at hno
    exact hno
  obtain ⟨i0, hi, ha0, ha1, ha2⟩ := info_parts infoNode
  obtain ⟨i1, hi1, hy0, hy1, hy2⟩ := info_parts infoPin
  obtain ⟨i2, hi2, hx0, hx1, hx2⟩ := info_parts infoEdge
  have HA := Lib.hid (ans_some hbig hsp)
  have HP : Hid (Lock.parse s.data.toList = rest2 r) := Lib.hid (by rw [parse_some hbig hsp]; rfl)
  have hz := Scan.ans_sizes s 1048576
  rw [HA.out] at hz
  have HZ := Lib.hid hz.2
  have hlen : ([wLock] :: [wRoot] :: r).length ≤ 1048577 := by have : ([wLock] :: [wRoot] :: r).length ≤ s.size + 1 := hz.1; omega
  have hss : s.size ≤ 1048576 := by omega
  have HWL : Hid (∀ (k : Nat) (l : List (List UInt8)), r[k]? = some l → ∀ p ∈ l, p.length ≤ 1048576) := Lib.hid (fun k l hl p hp => by
    have h1 := (Scan.spec_form hsp).1
    have h2 := Scan.unlines_line (ls := [wLock] :: [wRoot] :: r) (k := k + 2) (l := l) (by simpa using hl)
    have h3 := (Scan.glue_words l).2 p hp
    have h4 := congrArg List.length h1
    rw [bal_length] at h4
    omega)
  obtain ⟨N, hN⟩ : ∃ N, N = ([wLock] :: [wRoot] :: r).length := ⟨_, rfl⟩
  have hNr : N = r.length + 2 := by rw [hN]; rfl
  have HN := Lib.hid hN
  have HNR := Lib.hid hNr
  rw [← hN] at hlen
  have hN2 : ¬ ((N : Int) < 2) := by omega
  have HENV := Lib.hid hE
  clear hz hsp hno hbig hN hNr hE
  go_enter Tryd.func11, Tryd.ntmps11
  go_wp2_with fail
  refine (lines_ans s _ (by omega) _).mono ?_
  rintro e w1 ⟨va, hsa, rfl, hla, hb1⟩
  rw [HA.out] at hla ⊢
  have HW1 : Hid (Below w.heap.size w w1) := Lib.hid (Below.trans (by go_grown) (hb1.mono (by simp)))
  have HR1 : Hid (w1.heap[w.heap.size]? = some (.cells #[.slice none 0 0] 24 (0, 0))) := Lib.hid (by rw [hb1.block _ (by simp)]; exact heap_alloc_new w _)
  have hzw : w.heap.size < w1.heap.size := by have := hb1.size; simp at this; omega
  clear hb1
  have hrow := hla.row
  rw [← HN.out] at hrow
  have hvs := Lines.grid_rows hla
  obtain ⟨g, cap, rfl, hg1, hg2⟩ := own_some hrow (by omega)
  have hcap : N ≤ cap := by
    rcases hrow.2 with ⟨h', _⟩ | ⟨g', cap', cur, h', _, _, hnc, _⟩
    · simp at h'
    · injection h' with _ _ hc; omega
  obtain ⟨vs, hvsd⟩ : ∃ vs, vs = List.zipWith (fun h (l : List (List UInt8)) => rv h l.length) hsa ([wLock] :: [wRoot] :: r) := ⟨_, rfl⟩
  rw [← hvsd] at hvs hrow
  have HVS := Lib.hid hvs
  have HCELL : Hid (∀ j u, vs[j]? = some u → w1.cell? ⟨g, j, none⟩ = some u) := Lib.hid (fun j u hu => by
    have hj := (List.getElem?_eq_some_iff.1 hu).1
    rw [hrow.cellAt j (by have := hrow.1; omega)]; exact hu)
  obtain ⟨u0, hu0⟩ : ∃ u, vs[0]? = some u := ⟨_, List.getElem?_eq_getElem (by have := hvs.1; simp at this; omega)⟩
  obtain ⟨u1, hu1⟩ : ∃ u, vs[1]? = some u := ⟨_, List.getElem?_eq_getElem (by have := hvs.1; simp at this; omega)⟩
  have e0 := HCELL.out 0 u0 hu0
  have e1 := HCELL.out 1 u1 hu1
  obtain ⟨b0, o0, k0, rfl, hk0, hb0, hc0⟩ := (hvs.2 0 u0 [wLock] hu0 rfl).at (by simp)
  obtain ⟨b1, o1, k1, rfl, hk1, hb1, hc1⟩ := (hvs.2 1 u1 [wRoot] hu1 rfl).at (by simp)
  have d0 : w1.cell? ⟨b0, o0, none⟩ = some (.string (bs wLock)) := hc0 0 (sv wLock) rfl
  have d1 : w1.cell? ⟨b1, o1, none⟩ = some (.string (bs wRoot)) := hc1 0 (sv wRoot) rfl
  have x2 : ((bs wLock).toList == [108, 111, 99, 107]) = true := by rw [lit_eq]; rfl
  have x4 : ((bs wRoot).toList == [114, 111, 111, 116]) = true := by rw [lit_eq]; rfl
  rw [List.length_map] at e0 e1
  have l1 : ((([wLock] : List (List UInt8)).length : Nat) : Int) = 1 := rfl
  have l2 : ((([wRoot] : List (List UInt8)).length : Nat) : Int) = 1 := rfl
  clear hu0 hu1 hla hvs hrow hvsd hc0 hc1 hk0 hk1
  obtain ⟨wz, hwz⟩ : ∃ y, y = ((w1.alloc (.cells #[.slice none 0 0] 24)).alloc (.cells #[.string ⟨#[]⟩, .int .i64 0, .int .i64 0, .int .i64 0, .slice none 0 0, .slice none 0 0] 38)).alloc (.cells #[.slice (some ⟨w1.heap.size + 1, 0, none⟩) 1 1] 24) := ⟨_, rfl⟩
  have HOWN0 : Hid (NOwn wz (w1.heap.size + 1) (w1.heap.size + 1) (.slice (some ⟨w1.heap.size + 1, 0, none⟩) 1 1) [] [] nd0 (.slice none 0 0) (.slice none 0 0)) := Lib.hid (by
    rw [hwz]
    have h := NodesOwn.start (tn := 38) (tp := 42) (te := 40) (w := w1.alloc (.cells #[.slice none 0 0] 24)) (.cells #[.slice (some ⟨w1.heap.size + 1, 0, none⟩) 1 1] 24)
    rwa [World.size_alloc] at h)
  have HGZ : Hid (wz.heap[w1.heap.size + 1 + 1]? = some (.cells #[.slice (some ⟨w1.heap.size + 1, 0, none⟩) 1 1] 24 (0, 0))) := Lib.hid (by
    rw [hwz]
    have h := heap_alloc_new ((w1.alloc (.cells #[.slice none 0 0] 24)).alloc (.cells #[.string ⟨#[]⟩, .int .i64 0, .int .i64 0, .int .i64 0, .slice none 0 0, .slice none 0 0] 38)) (.cells #[.slice (some ⟨w1.heap.size + 1, 0, none⟩) 1 1] 24)
    rwa [World.size_alloc, World.size_alloc] at h)
  have HNZ : Hid (wz.heap[w1.heap.size]? = some (.cells #[.slice none 0 0] 24 (0, 0))) := Lib.hid (by
    rw [hwz, Below.heap_alloc _ _ _ (by rw [World.size_alloc, World.size_alloc]; omega), Below.heap_alloc _ _ _ (by rw [World.size_alloc]; omega)]
    exact heap_alloc_new w1 _)
  have hzz : wz.heap.size = w1.heap.size + 3 := by rw [hwz, World.size_alloc, World.size_alloc, World.size_alloc]
  have HBZ : Hid (Below w1.heap.size w1 wz) := Lib.hid (by rw [hwz]; go_grown)
  have HWZ := Lib.hid hwz
  clear hwz
  have hNN : ((N - 2 : Nat) : Int) = (N : Int) - 2 := by omega
  by_cases htwo : N = 2
  · have hr0 : r = [] := List.length_eq_zero_iff.1 (by have := HNR.out; omega)
    have HF : Hid (Lock.parse s.data.toList = (0, [nd0])) := Lib.hid (by rw [HP.out, hr0]; exact rest2_yes rfl (by decide))
    have HMAY : Hid (Calls Tryd.prog 8 #[.agg #[.slice (some ⟨w1.heap.size + 1, 0, none⟩) 1 1]] wz fun e w' => e = .returned (.bool true) ∧ Below wz.heap.size wz w') := Lib.hid (May_any wz _ [nd0] HOWN0.out.at (fun y hy => by
      simp only [List.mem_singleton] at hy
      subst hy
      exact ⟨by decide, by decide, by decide, fun p hp => by simp [nd0] at hp, fun p hp => by simp [nd0] at hp⟩) (by decide))
    have hzz2 : w1.heap.size ≤ wz.heap.size := by omega
    subst htwo
    clear hr0 hzz hNN
    go_wp2_with fail
    all_goals
      rw [← HWZ.out]
      refine wp_loop_rounds 1 ?_
      rw [rounds_succ]
      have c8 : wz.cell? ⟨w1.heap.size + 1 + 1, 0, none⟩ = some (.slice (some ⟨w1.heap.size + 1, 0, none⟩) 1 1) := by rw [Go.Lib.cell_of_heap HGZ.out]; rfl
      go_wp2_with fail
      refine HMAY.out.mono ?_
      rintro e w4 ⟨rfl, hb4⟩
      have HB4 : Hid (Below w1.heap.size w1 w4) := Lib.hid (HBZ.out.trans (hb4.mono hzz2))
      have hG4 := heap_below hb4 (heap_lt HGZ.out) HGZ.out
      have HOWN4 := Lib.hid (HOWN0.out.below hb4)
      have c9 : w4.cell? ⟨w1.heap.size + 1 + 1, 0, none⟩ = some (.slice (some ⟨w1.heap.size + 1, 0, none⟩) 1 1) := by rw [Go.Lib.cell_of_heap hG4]; rfl
      have hrz : w4.heap[w.heap.size]? = some (.cells #[.slice none 0 0] 24 (0, 0)) := heap_below HB4.out (heap_lt HR1.out) HR1.out
      have c2 : w4.cell? ⟨w.heap.size, 0, none⟩ = some (.slice none 0 0) := by rw [Go.Lib.cell_of_heap hrz]; rfl
      have f2 : w4.frozen? ⟨w.heap.size, 0, none⟩ = false := Go.Lib.frozen_of_heap hrz 0
      have c3 : (w4.setCell ⟨w.heap.size, 0, none⟩ (.slice (some ⟨w1.heap.size + 1, 0, none⟩) 1 1)).cell? ⟨w.heap.size, 0, none⟩ = some (.slice (some ⟨w1.heap.size + 1, 0, none⟩) 1 1) := World.cell?_setCell_same _ _ _ c2
      clear hrz hb4 hG4 c8
      go_wp2
      refine bodyPost_ret (v := .tuple #[.agg #[.slice (some ⟨w1.heap.size + 1, 0, none⟩) 1 1], .int .i64 0]) (by simp [results, Tryd.results11, go_sem, c3]) rfl ?_
      exact GParsePost.out HF.out HW1.out HB4.out HR1.out (Or.inr ⟨_, [], [], nd0, _, _, rfl, HOWN4.out⟩)
  have hc2 : ¬ cap = 2 := by omega
  clear htwo
  go_wp2
  rw [← HWZ.out]
  clear e0 e1 d0 d1 x2 x4 l1 l2 hb0 hb1
  go_loopw [70, 9] (fun p q wr => ∃ (k : Nat) (pre : G) (x : Nd) (cs : List (Value × Value)) (cv ev : Value) (Bw gg cp : Nat), LHead r w1 p q wr k pre x cs cv ev Bw gg cp) (fun p _ _ => (N - 2) - (intOf p).toNat)
  case atStart => exact ⟨0, [], nd0, [], _, _, _, _, _, ⟨rfl, rfl, Nat.zero_le _, rfl, Nat.le_refl _, Nat.le_refl _, Nat.le_refl _, HOWN0.out, HGZ.out, HNZ.out, HBZ.out, by omega, fun y hy => by
    simp only [List.nil_append, List.mem_singleton] at hy
    subst hy
    exact ⟨by decide, by decide, by decide, fun p hp => by simp [nd0] at hp, fun p hp => by simp [nd0] at hp⟩⟩⟩
  case round =>
    obtain ⟨k, pre, x, cs, cv, ev, Bw, gg, cp, rfl, rfl, hk, hst, hp1, hp2, hp3, hown, hG, hNo, hBr, hBw, hzn⟩ := hrel
    obtain ⟨wo, rfl⟩ : ∃ x, x = wr := ⟨wr, rfl⟩
    have HST := Lib.hid hst
    have HOWN := Lib.hid hown
    have HG := Lib.hid hG
    have HNO := Lib.hid hNo
    have HZN := Lib.hid hzn
    have hzo := hBr.size
    have hkb : k ≤ 1048577 := by have := HNR.out; omega
    clear hst hown hG hNo hzn
    by_cases hkN : k < N - 2
    · obtain ⟨l, hl⟩ : ∃ l, r[k]? = some l := ⟨_, List.getElem?_eq_getElem (by have := HNR.out; omega)⟩
      obtain ⟨u, hu⟩ : ∃ u, vs[k + 2]? = some u := ⟨_, List.getElem?_eq_getElem (by have := HVS.out.1; have := HNR.out; simp at *; omega)⟩
      have hru := HVS.out.2 (k + 2) u l hu (by simpa using hl)
      have hlz := HZ.out l (List.mem_cons_of_mem _ (List.mem_cons_of_mem _ (List.mem_of_getElem? hl)))
      have e1 : wo.cell? ⟨g, 2 + k, none⟩ = some u := by
        rw [hBr.cell (p := ⟨g, 2 + k, none⟩) (by show g < _; omega), Nat.add_comm]; exact HCELL.out (k + 2) u hu
      obtain ⟨b2, o2, c9, hue, hcc2, hb2, hcc⟩ := hru.at (by simpa using hlz.2)
      rw [List.length_map] at hue
      subst hue
      have hcw : ∀ j x, l[j]? = some x → wo.cell? ⟨b2, o2 + j, none⟩ = some (.string (bs x)) := fun j x hx => by
        rw [hBr.cell (p := ⟨b2, o2 + j, none⟩) (by show b2 < _; omega)]
        exact hcc j (sv x) (by rw [List.getElem?_map, hx]; rfl)
      have hwl := HWL.out k l hl
      have HCW := Lib.hid hcw
      have HL := Lib.hid hl
      have HWLL := Lib.hid hwl
      have hll : l.length ≤ 1048577 := by omega
      have hkn : ((k : Int) < (N : Int) - 2) := by omega
      clear hcc hcw hl hu hru hlz hwl hcc2
      by_cases h3 : l.length = 3
      · obtain ⟨kw, n, t, rfl⟩ : ∃ a b c, l = [a, b, c] := by
          match l, h3 with
          | [a, b, c], _ => exact ⟨a, b, c, rfl⟩
        have d2 : wo.cell? ⟨b2, o2 + 2, none⟩ = some (.string (bs t)) := HCW.out 2 t rfl
        obtain ⟨⟨va, vb, vc⟩, vok, hver⟩ : ∃ v ok, Lock.verOf t = (v, ok) := ⟨_, _, rfl⟩
        obtain ⟨nn, nok, hnum⟩ : ∃ m ok, Num.numAns t 128 = (m, ok) := ⟨_, _, rfl⟩
        have hnl : n.length ≤ 1048576 := HWLL.out n (by simp)
        have htl : t.length ≤ 1048576 := HWLL.out t (by simp)
        have hbw : Below w.heap.size w wo := HW1.out.trans (hBr.mono HW1.out.size)
        have HVP : Hid (∀ W, Below w.heap.size w W → Calls Tryd.prog 26 #[.string (bs t)] W fun e w' => e = .returned (.tuple #[.agg #[.int .i64 va, .int .i64 vb, .int .i64 vc], .bool vok]) ∧ Below W.heap.size W w') := Lib.hid (fun W hW => by
          have h := VL.parse_any (bs t) (by show t.toArray.size ≤ _; rw [List.size_toArray]; exact htl) W (HENV.out.below hW (Nat.le_refl _))
          rw [bs_list, rans_verOf, hver] at h
          exact h)
        have HNU : Hid (∀ W, Below w.heap.size w W → Calls Tryd.prog 27 #[.string (bs t), .int .i64 128] W fun e w' => e = .returned (.tuple #[.int .i64 nn, .bool nok]) ∧ Below W.heap.size W w') := Lib.hid (fun W hW => by
          have h := number_any (bs t) 128 (by show t.toArray.size ≤ _; rw [List.size_toArray]; omega) W (HENV.out.below hW (Nat.le_refl _))
          unfold numRes at h
          rw [bs_list, hnum] at h
          exact h)
        have HVER := Lib.hid hver
        have HNUM := Lib.hid hnum
        clear hver hnum
        go_wp2_with fail
        refine (HVP.out _ hbw).mono ?_
        rintro e w2 ⟨rfl, hv2⟩
        obtain ⟨wv, hwv⟩ : ∃ y, y = w2.alloc (.cells #[.int .i64 va, .int .i64 vb, .int .i64 vc] 34) := ⟨_, rfl⟩
        have hbv : Below wo.heap.size wo wv := by rw [hwv]; exact hv2.alloc hv2.size _
        have hzv : wv.heap.size = w2.heap.size + 1 := by rw [hwv]; exact Array.size_push ..
        have v0 : wv.heap[w2.heap.size]? = some (.cells #[.int .i64 va, .int .i64 vb, .int .i64 vc] 34 (0, 0)) := by rw [hwv]; exact heap_alloc_new w2 _
        have HV0 := Lib.hid v0
        have HWV := Lib.hid hwv
        have hz2 := hv2.size
        have d2' : w2.cell? ⟨b2, o2 + 2, none⟩ = some (.string (bs t)) := by rw [hv2.cell (p := ⟨b2, o2 + 2, none⟩) (by show b2 < _; omega)]; exact d2
        have hb2w : b2 < w2.heap.size := by omega
        have hg2w : w1.heap.size + 1 + 1 < w2.heap.size := by have := heap_lt HG.out; omega
        clear hwv v0
        go_wp2_with fail
        rw [← HWV.out]
        refine (HNU.out _ (hbw.trans (hbv.mono hbw.size))).mono ?_
        rintro e w3 ⟨rfl, hv3⟩
        have hb3 : Below wo.heap.size wo w3 := hbv.trans (hv3.mono hbv.size)
        have hz3 := hv3.size
        have HOWN3 := Lib.hid (HOWN.out.below hb3)
        have HG3 := Lib.hid (heap_below hb3 (heap_lt HG.out) HG.out)
        have HNO3 := Lib.hid (heap_below hb3 (heap_lt HNO.out) HNO.out)
        have HV3 := Lib.hid (heap_below hv3 (heap_lt HV0.out) HV0.out)
        have hbr3 : Below w1.heap.size w1 w3 := hBr.trans (hb3.mono hzo)
        have m0 : w3.cell? ⟨b2, o2, none⟩ = some (.string (bs kw)) := by rw [hb3.cell (p := ⟨b2, o2, none⟩) (by show b2 < _; omega)]; exact HCW.out 0 kw rfl
        have m1 : w3.cell? ⟨b2, o2 + 1, none⟩ = some (.string (bs n)) := by rw [hb3.cell (p := ⟨b2, o2 + 1, none⟩) (by show b2 < _; omega)]; exact HCW.out 1 n rfl
        have hBw3 : Bw ≤ w3.heap.size := by omega
        have hG3l : w1.heap.size + 1 + 1 < w3.heap.size := heap_lt HG3.out
        clear d2 d2' hv2 hv3 hbv HV0 HWV hbw e1
        by_cases hnode : kw = wNode ∧ vok = true
        · obtain ⟨hkw, hvt⟩ := hnode
          have x1 : ((bs kw).toList == [110, 111, 100, 101]) = true := by rw [lit_eq, hkw]; rfl
          have HKW := Lib.hid hkw
          subst hvt
          clear hkw
          obtain ⟨n1, hn1⟩ : ∃ y, y = pre.length + 1 := ⟨_, rfl⟩
          have c8 : w3.cell? ⟨w1.heap.size + 1 + 1, 0, none⟩ = some (.slice (some ⟨gg, 0, none⟩) n1 cp) := by rw [Go.Lib.cell_of_heap HG3.out, hn1]; rfl
          have c8B : ∀ o, (w3.alloc o).cell? ⟨w1.heap.size + 1 + 1, 0, none⟩ = some (.slice (some ⟨gg, 0, none⟩) n1 cp) := fun o => by rw [World.cell?_alloc_old _ _ _ (by show w1.heap.size + 1 + 1 ≠ _; omega)]; exact c8
          have y0 : w3.cell? ⟨w2.heap.size, 0, none⟩ = some (.int .i64 va) := by rw [Go.Lib.cell_of_heap HV3.out]; rfl
          have y1 : w3.cell? ⟨w2.heap.size, 1, none⟩ = some (.int .i64 vb) := by rw [Go.Lib.cell_of_heap HV3.out]; rfl
          have y2 : w3.cell? ⟨w2.heap.size, 2, none⟩ = some (.int .i64 vc) := by rw [Go.Lib.cell_of_heap HV3.out]; rfl
          have hn1b : n1 ≤ 1048578 := by omega
          have HN1 := Lib.hid hn1
          clear hn1
          go_wp2
          have kA : w3.cell? ⟨b2, o2 + 1, none⟩ = some (.string (bs n)) ∧ w3.cell? ⟨w2.heap.size, 0, none⟩ = some (.int .i64 va) ∧ w3.cell? ⟨w2.heap.size, 1, none⟩ = some (.int .i64 vb) ∧ w3.cell? ⟨w2.heap.size, 2, none⟩ = some (.int .i64 vc) := ⟨m1, y0, y1, y2⟩
          have kB : ∀ o, (w3.alloc o).cell? ⟨b2, o2 + 1, none⟩ = some (.string (bs n)) ∧ (w3.alloc o).cell? ⟨w2.heap.size, 0, none⟩ = some (.int .i64 va) ∧ (w3.alloc o).cell? ⟨w2.heap.size, 1, none⟩ = some (.int .i64 vb) ∧ (w3.alloc o).cell? ⟨w2.heap.size, 2, none⟩ = some (.int .i64 vc) := fun o => ⟨(by rw [World.cell?_alloc_old _ _ _ (by show b2 ≠ _; omega)]; exact m1), (by rw [World.cell?_alloc_old _ _ _ (by show w2.heap.size ≠ _; omega)]; exact y0), (by rw [World.cell?_alloc_old _ _ _ (by show w2.heap.size ≠ _; omega)]; exact y1), (by rw [World.cell?_alloc_old _ _ _ (by show w2.heap.size ≠ _; omega)]; exact y2)⟩
          obtain ⟨wx, hwx⟩ : ∃ y, y = (w3.alloc (.cells #[.string (bs n), .int .i64 va, .int .i64 vb, .int .i64 vc, .slice none 0 0, .slice none 0 0] 38)).drew := ⟨_, rfl⟩
          have HWX := Lib.hid hwx
          have HOWX : Hid (NOwn wx (w1.heap.size + 1) Bw (.slice (some ⟨gg, 0, none⟩) (pre.length + 1) cp) pre cs x cv ev) := Lib.hid (by rw [hwx]; exact (HOWN3.out.alloc _).drew)
          have HBX : Hid (Below w1.heap.size w1 wx) := Lib.hid (by rw [hwx]; exact (hbr3.alloc (by omega) _).drew)
          have HGX : Hid (wx.heap[w1.heap.size + 1 + 1]? = some (.cells #[.slice (some ⟨gg, 0, none⟩) (pre.length + 1) cp] 24 (0, 0))) := Lib.hid (by rw [hwx]; exact (Below.heap_alloc w3 _ _ (by omega)).trans HG3.out)
          have HNX7 : Hid (wx.heap[w1.heap.size]? = some (.cells #[.slice none 0 0] 24 (0, 0))) := Lib.hid (by rw [hwx]; exact (Below.heap_alloc w3 _ _ (by omega)).trans HNO3.out)
          have HVX : Hid (wx.heap[w2.heap.size]? = some (.cells #[.int .i64 va, .int .i64 vb, .int .i64 vc] 34 (0, 0))) := Lib.hid (by rw [hwx]; exact (Below.heap_alloc w3 _ _ (heap_lt HV3.out)).trans HV3.out)
          have HNB : Hid (wx.heap[w3.heap.size]? = some (.cells #[.string (bs n), .int .i64 va, .int .i64 vb, .int .i64 vc, .slice none 0 0, .slice none 0 0] 38 (0, 0))) := Lib.hid (by rw [hwx]; exact heap_alloc_new w3 _)
          have HSX : Hid (wx.heap.size = w3.heap.size + 1) := Lib.hid (by rw [hwx]; exact World.size_alloc _ _)
          have kX : wx.cell? ⟨b2, o2 + 1, none⟩ = some (.string (bs n)) ∧ wx.cell? ⟨w2.heap.size, 0, none⟩ = some (.int .i64 va) ∧ wx.cell? ⟨w2.heap.size, 1, none⟩ = some (.int .i64 vb) ∧ wx.cell? ⟨w2.heap.size, 2, none⟩ = some (.int .i64 vc) := by rw [hwx]; exact kB _
          have HROW : Hid (wx.ownsRow (w1.heap.size + 1) 38 6 (.slice (some ⟨gg, 0, none⟩) n1 cp) n1 (((List.zipWith nodeCells pre cs).flatten ++ nodeCells x (cv, ev)))) := Lib.hid (by rw [HN1.out]; exact HOWX.out.row)
          have NE8 : Hid (some (w1.heap.size + 1 + 1) ≠ (Value.slice (some ⟨gg, 0, none⟩) n1 cp).ownBlock) := Lib.hid (own_far' HROW.out HGX.out (by decide))
          have NEV : Hid (some w2.heap.size ≠ (Value.slice (some ⟨gg, 0, none⟩) n1 cp).ownBlock) := Lib.hid (own_far' HROW.out HVX.out (by decide))
          have NEB : Hid (some b2 ≠ (Value.slice (some ⟨gg, 0, none⟩) n1 cp).ownBlock) := Lib.hid (fun e => by have := (HROW.out.lt b2 e.symm).1; have := HOWX.out.bw; omega)
          have NEG : Hid (some (w1.heap.size + 1 + 1) ≠ (Value.slice (some ⟨gg, 0, none⟩) (pre.length + 1) cp).ownBlock) := Lib.hid (own_far' HOWX.out.row HGX.out (by decide))
          have NGV : Hid (some w2.heap.size ≠ (Value.slice (some ⟨gg, 0, none⟩) (pre.length + 1) cp).ownBlock) := Lib.hid (own_far' HOWX.out.row HVX.out (by decide))
          have hgg : w1.heap.size + 1 ≤ gg := (HOWX.out.row.lt gg rfl).1
          clear hwx
          refine wp_region_held_drew (S := fun w' => w'.cell? ⟨b2, o2 + 1, none⟩ = some (.string (bs n)) ∧ w'.cell? ⟨w2.heap.size, 0, none⟩ = some (.int .i64 va) ∧ w'.cell? ⟨w2.heap.size, 1, none⟩ = some (.int .i64 vb) ∧ w'.cell? ⟨w2.heap.size, 2, none⟩ = some (.int .i64 vc)) (by kernel_rfl) kA (fun hHeld => ?_)
          refine wpAnyH_take (i := 0) (v := ?va1) rfl (by kernel_rfl) (by kernel_rfl) (by kernel_rfl) (fun _ _ _ h => h) (Or.inl ⟨by kernel_rfl, ?hya1⟩) (by assumption) ?resta1
          case hya1 => intro w hSw; (try dsimp only at hSw); go_simp; try with_reducible rfl
          try simp only [List.getElem_toArray, List.getElem_cons_zero, List.getElem_cons_succ, Act.put, List.setIfInBounds_toArray, List.set_cons_zero, List.set_cons_succ]
          refine wpAnyH_take (i := 2) (v := ?va2) rfl (by kernel_rfl) (by kernel_rfl) (by kernel_rfl) (fun _ _ _ h => h) (Or.inl ⟨by kernel_rfl, ?hya2⟩) (by assumption) ?resta2
          case hya2 => intro w hSw; (try dsimp only at hSw); go_simp; try with_reducible rfl
          try simp only [List.getElem_toArray, List.getElem_cons_zero, List.getElem_cons_succ, Act.put, List.setIfInBounds_toArray, List.set_cons_zero, List.set_cons_succ]
          refine wpAnyH_take (i := 3) (v := ?va3) rfl (by kernel_rfl) (by kernel_rfl) (by kernel_rfl) (fun _ _ _ h => h) (Or.inl ⟨by kernel_rfl, ?hya3⟩) (by assumption) ?resta3
          case hya3 => intro w hSw; (try dsimp only at hSw); go_simp; try with_reducible rfl
          try simp only [List.getElem_toArray, List.getElem_cons_zero, List.getElem_cons_succ, Act.put, List.setIfInBounds_toArray, List.set_cons_zero, List.set_cons_succ]
          refine wpAnyH_take (i := 4) (v := ?va4) rfl (by kernel_rfl) (by kernel_rfl) (by kernel_rfl) (fun _ _ _ h => h) (Or.inl ⟨by kernel_rfl, ?hya4⟩) (by assumption) ?resta4
          case hya4 => intro w hSw; (try dsimp only at hSw); go_simp; try with_reducible rfl
          try simp only [List.getElem_toArray, List.getElem_cons_zero, List.getElem_cons_succ, Act.put, List.setIfInBounds_toArray, List.set_cons_zero, List.set_cons_succ]
          refine wpAnyH_take (i := 5) (v := ?va5) rfl (by kernel_rfl) (by kernel_rfl) (by kernel_rfl) (fun _ _ _ h => h) (Or.inl ⟨by kernel_rfl, ?hya5⟩) (by assumption) ?resta5
          case hya5 => intro w hSw; (try dsimp only at hSw); go_simp; try with_reducible rfl
          try simp only [List.getElem_toArray, List.getElem_cons_zero, List.getElem_cons_succ, Act.put, List.setIfInBounds_toArray, List.set_cons_zero, List.set_cons_succ]
          refine wpAnyH_take (i := 6) (v := ?va6) rfl (by kernel_rfl) (by kernel_rfl) (by kernel_rfl) (fun _ _ _ h => h) (Or.inl ⟨by kernel_rfl, ?hya6⟩) (by assumption) ?resta6
          case hya6 => intro w hSw; (try dsimp only at hSw); go_simp; try with_reducible rfl
          try simp only [List.getElem_toArray, List.getElem_cons_zero, List.getElem_cons_succ, Act.put, List.setIfInBounds_toArray, List.set_cons_zero, List.set_cons_succ]
          refine wpAnyH_ready (rs := [1, 7]) (by kernel_rfl) (by simp) ?_
          refine AllReadyH.cons rfl (fun K hK => ?_) (AllReadyH.cons rfl (fun K hK => ?_) AllReadyH.nil)
          · go_simp
            refine hK.out _ _ (kA) (fun hHeld => ?_)
            clear hK K
            try simp only [List.getElem_toArray, List.getElem_cons_zero, List.getElem_cons_succ, Act.put, List.setIfInBounds_toArray, List.set_cons_zero, List.set_cons_succ]
            refine wpAnyH_ready (rs := [7]) (by kernel_rfl) (by simp) ?_
            refine AllReadyH.cons rfl (fun K hK => ?_) AllReadyH.nil
            go_simp
            refine hK.out _ _ (kB _) (fun hHeld => ?_)
            clear hK K
            try simp only [List.getElem_toArray, List.getElem_cons_zero, List.getElem_cons_succ, Act.put, List.setIfInBounds_toArray, List.set_cons_zero, List.set_cons_succ]
            refine wpAnyH_ready (rs := [8]) (by kernel_rfl) (by simp) ?_
            refine AllReadyH.cons rfl (fun K hK => ?_) AllReadyH.nil
            rw [← HWX.out]
            refine step_append_lies wx (by rfl) _ _ _ (by rfl) (w1.heap.size + 1) 38 i0 (.agg #[.string ByteArray.empty, .int .i64 0, .int .i64 0, .int .i64 0, .slice none 0 0, .slice none 0 0]) 6 88 Tryd.underlying22 hi ha0 ha1 ha2 rfl (by decide) (.slice (some ⟨gg, 0, none⟩) n1 cp) n1 _ (by rfl) HROW.out ⟨w3.heap.size, 0, none⟩ 1 1 [.string (bs n), .int .i64 va, .int .i64 vb, .int .i64 vc, .slice none 0 0, .slice none 0 0] (by rfl) (by rfl) (World.news_of_block (cs := #[.string (bs n), .int .i64 va, .int .i64 vb, .int .i64 vc, .slice none 0 0, .slice none 0 0]) (t := 38) (fr := (0, 0)) HNB.out) (by simp [Value.oneCell']) (by omega) (by unfold maxLen; omega) (by omega) (by have := HSX.out; omega) (w3.heap.size + 1) HSX.out ?_
            intro gn cn w4 hown4 hgrow4 hat4 hlt4
            have q4 := (hgrow4.block _ (by have := HSX.out; omega) NE8.out).trans HGX.out
            have cC : w4.cell? ⟨w1.heap.size + 1 + 1, 0, none⟩ = some (.slice (some ⟨gg, 0, none⟩) n1 cp) := by rw [Go.Lib.cell_of_heap q4, ← HN1.out]; rfl
            have fC : w4.frozen? ⟨w1.heap.size + 1 + 1, 0, none⟩ = false := Go.Lib.frozen_of_heap q4 0
            have cD : (w4.setCell ⟨w1.heap.size + 1 + 1, 0, none⟩ (.slice (some ⟨gn, 0, none⟩) (n1 + 1) cn)).cell? ⟨w1.heap.size + 1 + 1, 0, none⟩ = some (.slice (some ⟨gn, 0, none⟩) (n1 + 1) cn) := World.cell?_setCell_same _ _ _ cC
            have HQ4 := Lib.hid q4
            clear q4
            have kC : w4.cell? ⟨b2, o2 + 1, none⟩ = some (.string (bs n)) ∧ w4.cell? ⟨w2.heap.size, 0, none⟩ = some (.int .i64 va) ∧ w4.cell? ⟨w2.heap.size, 1, none⟩ = some (.int .i64 vb) ∧ w4.cell? ⟨w2.heap.size, 2, none⟩ = some (.int .i64 vc) := ⟨(hgrow4.cell_far ⟨b2, o2 + 1, none⟩ (by have := HSX.out; show b2 < _; omega) NEB.out).trans kX.1, (hgrow4.cell_far ⟨w2.heap.size, 0, none⟩ (by have := HSX.out; show w2.heap.size < _; omega) NEV.out).trans kX.2.1, (hgrow4.cell_far ⟨w2.heap.size, 1, none⟩ (by have := HSX.out; show w2.heap.size < _; omega) NEV.out).trans kX.2.2.1, (hgrow4.cell_far ⟨w2.heap.size, 2, none⟩ (by have := HSX.out; show w2.heap.size < _; omega) NEV.out).trans kX.2.2.2⟩
            have kE : (w4.setCell ⟨w1.heap.size + 1 + 1, 0, none⟩ (.slice (some ⟨gn, 0, none⟩) (n1 + 1) cn)).cell? ⟨b2, o2 + 1, none⟩ = some (.string (bs n)) ∧ (w4.setCell ⟨w1.heap.size + 1 + 1, 0, none⟩ (.slice (some ⟨gn, 0, none⟩) (n1 + 1) cn)).cell? ⟨w2.heap.size, 0, none⟩ = some (.int .i64 va) ∧ (w4.setCell ⟨w1.heap.size + 1 + 1, 0, none⟩ (.slice (some ⟨gn, 0, none⟩) (n1 + 1) cn)).cell? ⟨w2.heap.size, 1, none⟩ = some (.int .i64 vb) ∧ (w4.setCell ⟨w1.heap.size + 1 + 1, 0, none⟩ (.slice (some ⟨gn, 0, none⟩) (n1 + 1) cn)).cell? ⟨w2.heap.size, 2, none⟩ = some (.int .i64 vc) := ⟨(World.cell?_setCell_far w4 ⟨w1.heap.size + 1 + 1, 0, none⟩ ⟨b2, o2 + 1, none⟩ (.slice (some ⟨gn, 0, none⟩) (n1 + 1) cn) (by show w1.heap.size + 1 + 1 ≠ b2; omega)).trans kC.1, (World.cell?_setCell_far w4 ⟨w1.heap.size + 1 + 1, 0, none⟩ ⟨w2.heap.size, 0, none⟩ (.slice (some ⟨gn, 0, none⟩) (n1 + 1) cn) (by show w1.heap.size + 1 + 1 ≠ w2.heap.size; omega)).trans kC.2.1, (World.cell?_setCell_far w4 ⟨w1.heap.size + 1 + 1, 0, none⟩ ⟨w2.heap.size, 1, none⟩ (.slice (some ⟨gn, 0, none⟩) (n1 + 1) cn) (by show w1.heap.size + 1 + 1 ≠ w2.heap.size; omega)).trans kC.2.2.1, (World.cell?_setCell_far w4 ⟨w1.heap.size + 1 + 1, 0, none⟩ ⟨w2.heap.size, 2, none⟩ (.slice (some ⟨gn, 0, none⟩) (n1 + 1) cn) (by show w1.heap.size + 1 + 1 ≠ w2.heap.size; omega)).trans kC.2.2.2⟩
            have HO4 := Lib.hid hown4
            have HGR4 := Lib.hid hgrow4
            clear hown4 hgrow4 hat4
            refine hK.out _ _ (kC) (fun hHeld => ?_)
            clear hK K
            try simp only [List.getElem_toArray, List.getElem_cons_zero, List.getElem_cons_succ, Act.put, List.setIfInBounds_toArray, List.set_cons_zero, List.set_cons_succ]
            refine wpAnyH_take (i := 9) (v := ?va7) rfl (by kernel_rfl) (by kernel_rfl) (by kernel_rfl) (fun _ _ _ h => h) (Or.inl ⟨by kernel_rfl, ?hya7⟩) (by assumption) ?resta7
            case hya7 => intro w hSw; (try dsimp only at hSw); go_simp; try with_reducible rfl
            try simp only [List.getElem_toArray, List.getElem_cons_zero, List.getElem_cons_succ, Act.put, List.setIfInBounds_toArray, List.set_cons_zero, List.set_cons_succ]
            refine wpAnyH_ready (rs := [10]) (by kernel_rfl) (by simp) ?_
            refine AllReadyH.cons rfl (fun K hK => ?_) AllReadyH.nil
            go_simp
            refine hK.out _ _ (kE) (fun hHeld => ?_)
            clear hK K
            try simp only [List.getElem_toArray, List.getElem_cons_zero, List.getElem_cons_succ, Act.put, List.setIfInBounds_toArray, List.set_cons_zero, List.set_cons_succ]
            refine wpAnyH_done (by kernel_rfl) ?_ _
            clear kA kB kC kE kX c8B m0 m1 c8 y0 y1 y2
            have HNEXT : Hid (LHead r w1 (.int .i64 ((k : Int) + 1)) (.pointer (some ⟨gn, n1 * 6, none⟩)) (w4.setCell ⟨w1.heap.size + 1 + 1, 0, none⟩ (.slice (some ⟨gn, 0, none⟩) (n1 + 1) cn)) (k + 1) (pre ++ [x]) ⟨n, ⟨va, vb, vc⟩, [], []⟩ (cs ++ [(cv, ev)]) (.slice none 0 0) (.slice none 0 0) w4.heap.size gn cn) := Lib.hid (by
              have hn1 := HN1.out
              have hzd := HGR4.out.size
              have hsx := HSX.out
              have hb4 : Below w1.heap.size w1 w4 := HBX.out.grown HGR4.out (by omega) (fun g hg => by have := (HROW.out.lt g hg).1; omega)
              have hadd : NOwn w4 (w1.heap.size + 1) w4.heap.size (.slice (some ⟨gn, 0, none⟩) (n1 + 1) cn) (pre ++ [x]) (cs ++ [(cv, ev)]) ⟨n, ⟨va, vb, vc⟩, [], []⟩ (.slice none 0 0) (.slice none 0 0) :=
                NodesOwn.addNode (by decide) (by decide) HOWX.out (v' := .slice (some ⟨gn, 0, none⟩) (n1 + 1) cn) (n := n) (u := ⟨va, vb, vc⟩) (by have h := HO4.out; rw [hn1] at h ⊢; exact h) (by have h := HGR4.out; rw [hn1] at h; exact h)
              refine ⟨by go_num, by rw [List.length_append, hn1]; rfl, by have := HNR.out; omega, steps_next HST.out HL.out (by rw [HKW.out, step_node (by rw [HVER.out]), HVER.out]), by rw [List.length_append]; simp; omega, Nat.zero_le _, Nat.zero_le _, ?_, ?_, ?_, hb4.setCell (p := ⟨w1.heap.size + 1 + 1, 0, none⟩) (by show _ ≤ w1.heap.size + 1 + 1; omega) _, by simp [World.setCell], ?_⟩
              · rw [List.length_append, show pre.length + [x].length + 1 = n1 + 1 by rw [hn1]; rfl]
                exact hadd.kept (grown_set w4 (w1.heap.size + 1 + 1) 0 _) fun j hj => by
                  cases hj
                  exact ⟨_, _, _, HQ4.out, by decide, by decide, by decide⟩
              · rw [List.length_append, show pre.length + [x].length + 1 = n1 + 1 by rw [hn1]; rfl]
                exact Go.Lib.heap_setCell_same (i := 0) HQ4.out _
              · rw [Below.heap_setCell _ _ _ _ (by show w1.heap.size ≠ w1.heap.size + 1 + 1; omega), HGR4.out.block _ (by omega) (fun e => by have := (HROW.out.lt _ e.symm).1; omega)]
                exact HNX7.out
              · intro y hy
                rcases List.mem_append.1 hy with hy | hy
                · exact HZN.out y hy
                · simp only [List.mem_singleton] at hy
                  subst hy
                  exact ⟨by dsimp only; omega, Nat.zero_le _, Nat.zero_le _, fun p hp => by simp at hp, fun p hp => by simp at hp⟩)
            go_wp2
            go_roundw
            case rel => exact ⟨k + 1, pre ++ [x], ⟨n, ⟨va, vb, vc⟩, [], []⟩, cs ++ [(cv, ev)], _, _, _, gn, cn, HNEXT.out⟩
            case measure => simp [intOf]; omega
          · go_simp
            refine hK.out _ _ (kB _) (fun hHeld => ?_)
            clear hK K
            try simp only [List.getElem_toArray, List.getElem_cons_zero, List.getElem_cons_succ, Act.put, List.setIfInBounds_toArray, List.set_cons_zero, List.set_cons_succ]
            refine wpAnyH_ready (rs := [1]) (by kernel_rfl) (by simp) ?_
            refine AllReadyH.cons rfl (fun K hK => ?_) AllReadyH.nil
            go_simp
            refine hK.out _ _ (kB _) (fun hHeld => ?_)
            clear hK K
            try simp only [List.getElem_toArray, List.getElem_cons_zero, List.getElem_cons_succ, Act.put, List.setIfInBounds_toArray, List.set_cons_zero, List.set_cons_succ]
            refine wpAnyH_ready (rs := [8]) (by kernel_rfl) (by simp) ?_
            refine AllReadyH.cons rfl (fun K hK => ?_) AllReadyH.nil
            rw [← HWX.out]
            refine step_append_lies wx (by rfl) _ _ _ (by rfl) (w1.heap.size + 1) 38 i0 (.agg #[.string ByteArray.empty, .int .i64 0, .int .i64 0, .int .i64 0, .slice none 0 0, .slice none 0 0]) 6 88 Tryd.underlying22 hi ha0 ha1 ha2 rfl (by decide) (.slice (some ⟨gg, 0, none⟩) n1 cp) n1 _ (by rfl) HROW.out ⟨w3.heap.size, 0, none⟩ 1 1 [.string (bs n), .int .i64 va, .int .i64 vb, .int .i64 vc, .slice none 0 0, .slice none 0 0] (by rfl) (by rfl) (World.news_of_block (cs := #[.string (bs n), .int .i64 va, .int .i64 vb, .int .i64 vc, .slice none 0 0, .slice none 0 0]) (t := 38) (fr := (0, 0)) HNB.out) (by simp [Value.oneCell']) (by omega) (by unfold maxLen; omega) (by omega) (by have := HSX.out; omega) (w3.heap.size + 1) HSX.out ?_
            intro gn cn w4 hown4 hgrow4 hat4 hlt4
            have q4 := (hgrow4.block _ (by have := HSX.out; omega) NE8.out).trans HGX.out
            have cC : w4.cell? ⟨w1.heap.size + 1 + 1, 0, none⟩ = some (.slice (some ⟨gg, 0, none⟩) n1 cp) := by rw [Go.Lib.cell_of_heap q4, ← HN1.out]; rfl
            have fC : w4.frozen? ⟨w1.heap.size + 1 + 1, 0, none⟩ = false := Go.Lib.frozen_of_heap q4 0
            have cD : (w4.setCell ⟨w1.heap.size + 1 + 1, 0, none⟩ (.slice (some ⟨gn, 0, none⟩) (n1 + 1) cn)).cell? ⟨w1.heap.size + 1 + 1, 0, none⟩ = some (.slice (some ⟨gn, 0, none⟩) (n1 + 1) cn) := World.cell?_setCell_same _ _ _ cC
            have HQ4 := Lib.hid q4
            clear q4
            have kC : w4.cell? ⟨b2, o2 + 1, none⟩ = some (.string (bs n)) ∧ w4.cell? ⟨w2.heap.size, 0, none⟩ = some (.int .i64 va) ∧ w4.cell? ⟨w2.heap.size, 1, none⟩ = some (.int .i64 vb) ∧ w4.cell? ⟨w2.heap.size, 2, none⟩ = some (.int .i64 vc) := ⟨(hgrow4.cell_far ⟨b2, o2 + 1, none⟩ (by have := HSX.out; show b2 < _; omega) NEB.out).trans kX.1, (hgrow4.cell_far ⟨w2.heap.size, 0, none⟩ (by have := HSX.out; show w2.heap.size < _; omega) NEV.out).trans kX.2.1, (hgrow4.cell_far ⟨w2.heap.size, 1, none⟩ (by have := HSX.out; show w2.heap.size < _; omega) NEV.out).trans kX.2.2.1, (hgrow4.cell_far ⟨w2.heap.size, 2, none⟩ (by have := HSX.out; show w2.heap.size < _; omega) NEV.out).trans kX.2.2.2⟩
            have kE : (w4.setCell ⟨w1.heap.size + 1 + 1, 0, none⟩ (.slice (some ⟨gn, 0, none⟩) (n1 + 1) cn)).cell? ⟨b2, o2 + 1, none⟩ = some (.string (bs n)) ∧ (w4.setCell ⟨w1.heap.size + 1 + 1, 0, none⟩ (.slice (some ⟨gn, 0, none⟩) (n1 + 1) cn)).cell? ⟨w2.heap.size, 0, none⟩ = some (.int .i64 va) ∧ (w4.setCell ⟨w1.heap.size + 1 + 1, 0, none⟩ (.slice (some ⟨gn, 0, none⟩) (n1 + 1) cn)).cell? ⟨w2.heap.size, 1, none⟩ = some (.int .i64 vb) ∧ (w4.setCell ⟨w1.heap.size + 1 + 1, 0, none⟩ (.slice (some ⟨gn, 0, none⟩) (n1 + 1) cn)).cell? ⟨w2.heap.size, 2, none⟩ = some (.int .i64 vc) := ⟨(World.cell?_setCell_far w4 ⟨w1.heap.size + 1 + 1, 0, none⟩ ⟨b2, o2 + 1, none⟩ (.slice (some ⟨gn, 0, none⟩) (n1 + 1) cn) (by show w1.heap.size + 1 + 1 ≠ b2; omega)).trans kC.1, (World.cell?_setCell_far w4 ⟨w1.heap.size + 1 + 1, 0, none⟩ ⟨w2.heap.size, 0, none⟩ (.slice (some ⟨gn, 0, none⟩) (n1 + 1) cn) (by show w1.heap.size + 1 + 1 ≠ w2.heap.size; omega)).trans kC.2.1, (World.cell?_setCell_far w4 ⟨w1.heap.size + 1 + 1, 0, none⟩ ⟨w2.heap.size, 1, none⟩ (.slice (some ⟨gn, 0, none⟩) (n1 + 1) cn) (by show w1.heap.size + 1 + 1 ≠ w2.heap.size; omega)).trans kC.2.2.1, (World.cell?_setCell_far w4 ⟨w1.heap.size + 1 + 1, 0, none⟩ ⟨w2.heap.size, 2, none⟩ (.slice (some ⟨gn, 0, none⟩) (n1 + 1) cn) (by show w1.heap.size + 1 + 1 ≠ w2.heap.size; omega)).trans kC.2.2.2⟩
            have HO4 := Lib.hid hown4
            have HGR4 := Lib.hid hgrow4
            clear hown4 hgrow4 hat4
            refine hK.out _ _ (kC) (fun hHeld => ?_)
            clear hK K
            try simp only [List.getElem_toArray, List.getElem_cons_zero, List.getElem_cons_succ, Act.put, List.setIfInBounds_toArray, List.set_cons_zero, List.set_cons_succ]
            refine wpAnyH_take (i := 9) (v := ?va8) rfl (by kernel_rfl) (by kernel_rfl) (by kernel_rfl) (fun _ _ _ h => h) (Or.inl ⟨by kernel_rfl, ?hya8⟩) (by assumption) ?resta8
            case hya8 => intro w hSw; (try dsimp only at hSw); go_simp; try with_reducible rfl
            try simp only [List.getElem_toArray, List.getElem_cons_zero, List.getElem_cons_succ, Act.put, List.setIfInBounds_toArray, List.set_cons_zero, List.set_cons_succ]
            refine wpAnyH_ready (rs := [10]) (by kernel_rfl) (by simp) ?_
            refine AllReadyH.cons rfl (fun K hK => ?_) AllReadyH.nil
            go_simp
            refine hK.out _ _ (kE) (fun hHeld => ?_)
            clear hK K
            try simp only [List.getElem_toArray, List.getElem_cons_zero, List.getElem_cons_succ, Act.put, List.setIfInBounds_toArray, List.set_cons_zero, List.set_cons_succ]
            refine wpAnyH_done (by kernel_rfl) ?_ _
            clear kA kB kC kE kX c8B m0 m1 c8 y0 y1 y2
            have HNEXT : Hid (LHead r w1 (.int .i64 ((k : Int) + 1)) (.pointer (some ⟨gn, n1 * 6, none⟩)) (w4.setCell ⟨w1.heap.size + 1 + 1, 0, none⟩ (.slice (some ⟨gn, 0, none⟩) (n1 + 1) cn)) (k + 1) (pre ++ [x]) ⟨n, ⟨va, vb, vc⟩, [], []⟩ (cs ++ [(cv, ev)]) (.slice none 0 0) (.slice none 0 0) w4.heap.size gn cn) := Lib.hid (by
              have hn1 := HN1.out
              have hzd := HGR4.out.size
              have hsx := HSX.out
              have hb4 : Below w1.heap.size w1 w4 := HBX.out.grown HGR4.out (by omega) (fun g hg => by have := (HROW.out.lt g hg).1; omega)
              have hadd : NOwn w4 (w1.heap.size + 1) w4.heap.size (.slice (some ⟨gn, 0, none⟩) (n1 + 1) cn) (pre ++ [x]) (cs ++ [(cv, ev)]) ⟨n, ⟨va, vb, vc⟩, [], []⟩ (.slice none 0 0) (.slice none 0 0) :=
                NodesOwn.addNode (by decide) (by decide) HOWX.out (v' := .slice (some ⟨gn, 0, none⟩) (n1 + 1) cn) (n := n) (u := ⟨va, vb, vc⟩) (by have h := HO4.out; rw [hn1] at h ⊢; exact h) (by have h := HGR4.out; rw [hn1] at h; exact h)
              refine ⟨by go_num, by rw [List.length_append, hn1]; rfl, by have := HNR.out; omega, steps_next HST.out HL.out (by rw [HKW.out, step_node (by rw [HVER.out]), HVER.out]), by rw [List.length_append]; simp; omega, Nat.zero_le _, Nat.zero_le _, ?_, ?_, ?_, hb4.setCell (p := ⟨w1.heap.size + 1 + 1, 0, none⟩) (by show _ ≤ w1.heap.size + 1 + 1; omega) _, by simp [World.setCell], ?_⟩
              · rw [List.length_append, show pre.length + [x].length + 1 = n1 + 1 by rw [hn1]; rfl]
                exact hadd.kept (grown_set w4 (w1.heap.size + 1 + 1) 0 _) fun j hj => by
                  cases hj
                  exact ⟨_, _, _, HQ4.out, by decide, by decide, by decide⟩
              · rw [List.length_append, show pre.length + [x].length + 1 = n1 + 1 by rw [hn1]; rfl]
                exact Go.Lib.heap_setCell_same (i := 0) HQ4.out _
              · rw [Below.heap_setCell _ _ _ _ (by show w1.heap.size ≠ w1.heap.size + 1 + 1; omega), HGR4.out.block _ (by omega) (fun e => by have := (HROW.out.lt _ e.symm).1; omega)]
                exact HNX7.out
              · intro y hy
                rcases List.mem_append.1 hy with hy | hy
                · exact HZN.out y hy
                · simp only [List.mem_singleton] at hy
                  subst hy
                  exact ⟨by dsimp only; omega, Nat.zero_le _, Nat.zero_le _, fun p hp => by simp at hp, fun p hp => by simp at hp⟩)
            go_wp2
            go_roundw
            case rel => exact ⟨k + 1, pre ++ [x], ⟨n, ⟨va, vb, vc⟩, [], []⟩, cs ++ [(cv, ev)], _, _, _, gn, cn, HNEXT.out⟩
            case measure => simp [intOf]; omega
        · obtain ⟨ac, cc, rfl⟩ := own_form HOWN3.out.pins
          obtain ⟨ae, ec, rfl⟩ := own_form HOWN3.out.edges
          have c4 := HOWN3.out.cell.1
          have c5 := HOWN3.out.cell.2
          have hxl1 : x.ctx.length ≤ 1048577 := by omega
          have hxl2 : x.edges.length ≤ 1048577 := by omega
          by_cases hwith : kw = wWith ∧ vok = true ∧ x.edges.length = 0
          · obtain ⟨hkw, hvt, he0⟩ := hwith
            have x1 : ((bs kw).toList == [110, 111, 100, 101]) = false := by rw [lit_eq, hkw]; rfl
            have x2 : ((bs kw).toList == [119, 105, 116, 104]) = true := by rw [lit_eq, hkw]; rfl
            have hez : (((x.edges.length : Nat) : Int) == 0) = true := by rw [beq_iff_eq]; omega
            have HKW := Lib.hid hkw
            have HE0 := Lib.hid he0
            subst hvt
            clear hkw he0 hnode
            have y0 : w3.cell? ⟨w2.heap.size, 0, none⟩ = some (.int .i64 va) := by rw [Go.Lib.cell_of_heap HV3.out]; rfl
            have y1 : w3.cell? ⟨w2.heap.size, 1, none⟩ = some (.int .i64 vb) := by rw [Go.Lib.cell_of_heap HV3.out]; rfl
            have y2 : w3.cell? ⟨w2.heap.size, 2, none⟩ = some (.int .i64 vc) := by rw [Go.Lib.cell_of_heap HV3.out]; rfl
            have hgl3 : gg < w3.heap.size := (HOWN3.out.row.lt gg rfl).2
            go_wp2
            have kA : w3.cell? ⟨b2, o2 + 1, none⟩ = some (.string (bs n)) ∧ w3.cell? ⟨w2.heap.size, 0, none⟩ = some (.int .i64 va) ∧ w3.cell? ⟨w2.heap.size, 1, none⟩ = some (.int .i64 vb) ∧ w3.cell? ⟨w2.heap.size, 2, none⟩ = some (.int .i64 vc) := ⟨m1, y0, y1, y2⟩
            have kB : ∀ o, (w3.alloc o).cell? ⟨b2, o2 + 1, none⟩ = some (.string (bs n)) ∧ (w3.alloc o).cell? ⟨w2.heap.size, 0, none⟩ = some (.int .i64 va) ∧ (w3.alloc o).cell? ⟨w2.heap.size, 1, none⟩ = some (.int .i64 vb) ∧ (w3.alloc o).cell? ⟨w2.heap.size, 2, none⟩ = some (.int .i64 vc) := fun o => ⟨(by rw [World.cell?_alloc_old _ _ _ (by show b2 ≠ _; omega)]; exact m1), (by rw [World.cell?_alloc_old _ _ _ (by show w2.heap.size ≠ _; omega)]; exact y0), (by rw [World.cell?_alloc_old _ _ _ (by show w2.heap.size ≠ _; omega)]; exact y1), (by rw [World.cell?_alloc_old _ _ _ (by show w2.heap.size ≠ _; omega)]; exact y2)⟩
            have c8B : ∀ o, (w3.alloc o).cell? ⟨gg, pre.length * 6 + 4, none⟩ = some (.slice ac x.ctx.length cc) := fun o => by rw [World.cell?_alloc_old _ _ _ (by show gg ≠ _; omega)]; exact c4
            obtain ⟨wx, hwx⟩ : ∃ y, y = (w3.alloc (.cells #[.string (bs n), .int .i64 va, .int .i64 vb, .int .i64 vc] 42)).drew := ⟨_, rfl⟩
            have HWX := Lib.hid hwx
            have HOWX : Hid (NOwn wx (w1.heap.size + 1) Bw (.slice (some ⟨gg, 0, none⟩) (pre.length + 1) cp) pre cs x (.slice ac x.ctx.length cc) (.slice ae x.edges.length ec)) := Lib.hid (by rw [hwx]; exact (HOWN3.out.alloc _).drew)
            have HBX : Hid (Below w1.heap.size w1 wx) := Lib.hid (by rw [hwx]; exact (hbr3.alloc (by omega) _).drew)
            have HGX : Hid (wx.heap[w1.heap.size + 1 + 1]? = some (.cells #[.slice (some ⟨gg, 0, none⟩) (pre.length + 1) cp] 24 (0, 0))) := Lib.hid (by rw [hwx]; exact (Below.heap_alloc w3 _ _ (by omega)).trans HG3.out)
            have HNX7 : Hid (wx.heap[w1.heap.size]? = some (.cells #[.slice none 0 0] 24 (0, 0))) := Lib.hid (by rw [hwx]; exact (Below.heap_alloc w3 _ _ (by omega)).trans HNO3.out)
            have HVX : Hid (wx.heap[w2.heap.size]? = some (.cells #[.int .i64 va, .int .i64 vb, .int .i64 vc] 34 (0, 0))) := Lib.hid (by rw [hwx]; exact (Below.heap_alloc w3 _ _ (heap_lt HV3.out)).trans HV3.out)
            have HNB : Hid (wx.heap[w3.heap.size]? = some (.cells #[.string (bs n), .int .i64 va, .int .i64 vb, .int .i64 vc] 42 (0, 0))) := Lib.hid (by rw [hwx]; exact heap_alloc_new w3 _)
            have HSX : Hid (wx.heap.size = w3.heap.size + 1) := Lib.hid (by rw [hwx]; exact World.size_alloc _ _)
            have kX : wx.cell? ⟨b2, o2 + 1, none⟩ = some (.string (bs n)) ∧ wx.cell? ⟨w2.heap.size, 0, none⟩ = some (.int .i64 va) ∧ wx.cell? ⟨w2.heap.size, 1, none⟩ = some (.int .i64 vb) ∧ wx.cell? ⟨w2.heap.size, 2, none⟩ = some (.int .i64 vc) := by rw [hwx]; exact kB _
            have HROW : Hid (wx.ownsRow Bw 42 4 (.slice ac x.ctx.length cc) x.ctx.length ((x.ctx.map pinCells).flatten)) := Lib.hid (HOWX.out.pins)
            have NE8 : Hid (some (w1.heap.size + 1 + 1) ≠ (Value.slice ac x.ctx.length cc).ownBlock) := Lib.hid (own_far' HROW.out HGX.out (by decide))
            have NEV : Hid (some w2.heap.size ≠ (Value.slice ac x.ctx.length cc).ownBlock) := Lib.hid (own_far' HROW.out HVX.out (by decide))
            have NEB : Hid (some b2 ≠ (Value.slice ac x.ctx.length cc).ownBlock) := Lib.hid (fun e => by have := (HROW.out.lt b2 e.symm).1; have := HOWX.out.bw; omega)
            have NEG : Hid (some (w1.heap.size + 1 + 1) ≠ (Value.slice (some ⟨gg, 0, none⟩) (pre.length + 1) cp).ownBlock) := Lib.hid (own_far' HOWX.out.row HGX.out (by decide))
            have NGV : Hid (some w2.heap.size ≠ (Value.slice (some ⟨gg, 0, none⟩) (pre.length + 1) cp).ownBlock) := Lib.hid (own_far' HOWX.out.row HVX.out (by decide))
            have hgg : w1.heap.size + 1 ≤ gg := (HOWX.out.row.lt gg rfl).1
            clear hwx
            refine wp_region_held_drew (S := fun w' => w'.cell? ⟨b2, o2 + 1, none⟩ = some (.string (bs n)) ∧ w'.cell? ⟨w2.heap.size, 0, none⟩ = some (.int .i64 va) ∧ w'.cell? ⟨w2.heap.size, 1, none⟩ = some (.int .i64 vb) ∧ w'.cell? ⟨w2.heap.size, 2, none⟩ = some (.int .i64 vc)) (by kernel_rfl) kA (fun hHeld => ?_)
            refine wpAnyH_take (i := 0) (v := ?va9) rfl (by kernel_rfl) (by kernel_rfl) (by kernel_rfl) (fun _ _ _ h => h) (Or.inl ⟨by kernel_rfl, ?hya9⟩) (by assumption) ?resta9
            case hya9 => intro w hSw; (try dsimp only at hSw); go_simp; try with_reducible rfl
            try simp only [List.getElem_toArray, List.getElem_cons_zero, List.getElem_cons_succ, Act.put, List.setIfInBounds_toArray, List.set_cons_zero, List.set_cons_succ]
            refine wpAnyH_take (i := 1) (v := ?va10) rfl (by kernel_rfl) (by kernel_rfl) (by kernel_rfl) (fun _ _ _ h => h) (Or.inl ⟨by kernel_rfl, ?hya10⟩) (by assumption) ?resta10
            case hya10 => intro w hSw; (try dsimp only at hSw); go_simp; try with_reducible rfl
            try simp only [List.getElem_toArray, List.getElem_cons_zero, List.getElem_cons_succ, Act.put, List.setIfInBounds_toArray, List.set_cons_zero, List.set_cons_succ]
            refine wpAnyH_take (i := 2) (v := ?va11) rfl (by kernel_rfl) (by kernel_rfl) (by kernel_rfl) (fun _ _ _ h => h) (Or.inl ⟨by kernel_rfl, ?hya11⟩) (by assumption) ?resta11
            case hya11 => intro w hSw; (try dsimp only at hSw); go_simp; try with_reducible rfl
            try simp only [List.getElem_toArray, List.getElem_cons_zero, List.getElem_cons_succ, Act.put, List.setIfInBounds_toArray, List.set_cons_zero, List.set_cons_succ]
            refine wpAnyH_take (i := 3) (v := ?va12) rfl (by kernel_rfl) (by kernel_rfl) (by kernel_rfl) (fun _ _ _ h => h) (Or.inl ⟨by kernel_rfl, ?hya12⟩) (by assumption) ?resta12
            case hya12 => intro w hSw; (try dsimp only at hSw); go_simp; try with_reducible rfl
            try simp only [List.getElem_toArray, List.getElem_cons_zero, List.getElem_cons_succ, Act.put, List.setIfInBounds_toArray, List.set_cons_zero, List.set_cons_succ]
            refine wpAnyH_take (i := 5) (v := ?va13) rfl (by kernel_rfl) (by kernel_rfl) (by kernel_rfl) (fun _ _ _ h => h) (Or.inl ⟨by kernel_rfl, ?hya13⟩) (by assumption) ?resta13
            case hya13 => intro w hSw; (try dsimp only at hSw); go_simp; try with_reducible rfl
            try simp only [List.getElem_toArray, List.getElem_cons_zero, List.getElem_cons_succ, Act.put, List.setIfInBounds_toArray, List.set_cons_zero, List.set_cons_succ]
            refine wpAnyH_take (i := 6) (v := ?va14) rfl (by kernel_rfl) (by kernel_rfl) (by kernel_rfl) (fun _ _ _ h => h) (Or.inl ⟨by kernel_rfl, ?hya14⟩) (by assumption) ?resta14
            case hya14 => intro w hSw; (try dsimp only at hSw); go_simp; try with_reducible rfl
            try simp only [List.getElem_toArray, List.getElem_cons_zero, List.getElem_cons_succ, Act.put, List.setIfInBounds_toArray, List.set_cons_zero, List.set_cons_succ]
            refine wpAnyH_take (i := 7) (v := ?va15) rfl (by kernel_rfl) (by kernel_rfl) (by kernel_rfl) (fun _ _ _ h => h) (Or.inl ⟨by kernel_rfl, ?hya15⟩) (by assumption) ?resta15
            case hya15 => intro w hSw; (try dsimp only at hSw); go_simp; try with_reducible rfl
            try simp only [List.getElem_toArray, List.getElem_cons_zero, List.getElem_cons_succ, Act.put, List.setIfInBounds_toArray, List.set_cons_zero, List.set_cons_succ]
            refine wpAnyH_take (i := 8) (v := ?va16) rfl (by kernel_rfl) (by kernel_rfl) (by kernel_rfl) (fun _ _ _ h => h) (Or.inl ⟨by kernel_rfl, ?hya16⟩) (by assumption) ?resta16
            case hya16 => intro w hSw; (try dsimp only at hSw); go_simp; try with_reducible rfl
            try simp only [List.getElem_toArray, List.getElem_cons_zero, List.getElem_cons_succ, Act.put, List.setIfInBounds_toArray, List.set_cons_zero, List.set_cons_succ]
            refine wpAnyH_take (i := 9) (v := ?va17) rfl (by kernel_rfl) (by kernel_rfl) (by kernel_rfl) (fun _ _ _ h => h) (Or.inl ⟨by kernel_rfl, ?hya17⟩) (by assumption) ?resta17
            case hya17 => intro w hSw; (try dsimp only at hSw); go_simp; try with_reducible rfl
            try simp only [List.getElem_toArray, List.getElem_cons_zero, List.getElem_cons_succ, Act.put, List.setIfInBounds_toArray, List.set_cons_zero, List.set_cons_succ]
            refine wpAnyH_ready (rs := [4, 10]) (by kernel_rfl) (by simp) ?_
            refine AllReadyH.cons rfl (fun K hK => ?_) (AllReadyH.cons rfl (fun K hK => ?_) AllReadyH.nil)
            · go_simp
              refine hK.out _ _ (kA) (fun hHeld => ?_)
              clear hK K
              try simp only [List.getElem_toArray, List.getElem_cons_zero, List.getElem_cons_succ, Act.put, List.setIfInBounds_toArray, List.set_cons_zero, List.set_cons_succ]
              refine wpAnyH_ready (rs := [10]) (by kernel_rfl) (by simp) ?_
              refine AllReadyH.cons rfl (fun K hK => ?_) AllReadyH.nil
              go_simp
              refine hK.out _ _ (kB _) (fun hHeld => ?_)
              clear hK K
              try simp only [List.getElem_toArray, List.getElem_cons_zero, List.getElem_cons_succ, Act.put, List.setIfInBounds_toArray, List.set_cons_zero, List.set_cons_succ]
              refine wpAnyH_ready (rs := [11]) (by kernel_rfl) (by simp) ?_
              refine AllReadyH.cons rfl (fun K hK => ?_) AllReadyH.nil
              rw [← HWX.out]
              refine step_append_lies wx (by rfl) _ _ _ (by rfl) Bw 42 i1 (.agg #[.string ByteArray.empty, .int .i64 0, .int .i64 0, .int .i64 0]) 4 40 Tryd.underlying35 hi1 hy0 hy1 hy2 rfl (by decide) (.slice ac x.ctx.length cc) x.ctx.length _ (by rfl) HROW.out ⟨w3.heap.size, 0, none⟩ 1 1 [.string (bs n), .int .i64 va, .int .i64 vb, .int .i64 vc] (by rfl) (by rfl) (World.news_of_block (cs := #[.string (bs n), .int .i64 va, .int .i64 vb, .int .i64 vc]) (t := 42) (fr := (0, 0)) HNB.out) (by simp [Value.oneCell']) (by omega) (by unfold maxLen; omega) (by omega) (by have := HSX.out; omega) (w3.heap.size + 1) HSX.out ?_
              intro gn cn w4 hown4 hgrow4 hat4 hlt4
              have hfree := NodesOwn.ctx_free (by decide) HOWX.out hgrow4
              have cC := hfree.1
              have fC := hfree.2
              clear hfree
              have kC : w4.cell? ⟨b2, o2 + 1, none⟩ = some (.string (bs n)) ∧ w4.cell? ⟨w2.heap.size, 0, none⟩ = some (.int .i64 va) ∧ w4.cell? ⟨w2.heap.size, 1, none⟩ = some (.int .i64 vb) ∧ w4.cell? ⟨w2.heap.size, 2, none⟩ = some (.int .i64 vc) := ⟨(hgrow4.cell_far ⟨b2, o2 + 1, none⟩ (by have := HSX.out; show b2 < _; omega) NEB.out).trans kX.1, (hgrow4.cell_far ⟨w2.heap.size, 0, none⟩ (by have := HSX.out; show w2.heap.size < _; omega) NEV.out).trans kX.2.1, (hgrow4.cell_far ⟨w2.heap.size, 1, none⟩ (by have := HSX.out; show w2.heap.size < _; omega) NEV.out).trans kX.2.2.1, (hgrow4.cell_far ⟨w2.heap.size, 2, none⟩ (by have := HSX.out; show w2.heap.size < _; omega) NEV.out).trans kX.2.2.2⟩
              have kE : (w4.setCell ⟨gg, pre.length * 6 + 4, none⟩ (.slice (some ⟨gn, 0, none⟩) (x.ctx.length + 1) cn)).cell? ⟨b2, o2 + 1, none⟩ = some (.string (bs n)) ∧ (w4.setCell ⟨gg, pre.length * 6 + 4, none⟩ (.slice (some ⟨gn, 0, none⟩) (x.ctx.length + 1) cn)).cell? ⟨w2.heap.size, 0, none⟩ = some (.int .i64 va) ∧ (w4.setCell ⟨gg, pre.length * 6 + 4, none⟩ (.slice (some ⟨gn, 0, none⟩) (x.ctx.length + 1) cn)).cell? ⟨w2.heap.size, 1, none⟩ = some (.int .i64 vb) ∧ (w4.setCell ⟨gg, pre.length * 6 + 4, none⟩ (.slice (some ⟨gn, 0, none⟩) (x.ctx.length + 1) cn)).cell? ⟨w2.heap.size, 2, none⟩ = some (.int .i64 vc) := ⟨(World.cell?_setCell_far w4 ⟨gg, pre.length * 6 + 4, none⟩ ⟨b2, o2 + 1, none⟩ (.slice (some ⟨gn, 0, none⟩) (x.ctx.length + 1) cn) (by show gg ≠ b2; omega)).trans kC.1, (World.cell?_setCell_far w4 ⟨gg, pre.length * 6 + 4, none⟩ ⟨w2.heap.size, 0, none⟩ (.slice (some ⟨gn, 0, none⟩) (x.ctx.length + 1) cn) (by show gg ≠ w2.heap.size; exact fun e => NGV.out (by rw [← e]; rfl))).trans kC.2.1, (World.cell?_setCell_far w4 ⟨gg, pre.length * 6 + 4, none⟩ ⟨w2.heap.size, 1, none⟩ (.slice (some ⟨gn, 0, none⟩) (x.ctx.length + 1) cn) (by show gg ≠ w2.heap.size; exact fun e => NGV.out (by rw [← e]; rfl))).trans kC.2.2.1, (World.cell?_setCell_far w4 ⟨gg, pre.length * 6 + 4, none⟩ ⟨w2.heap.size, 2, none⟩ (.slice (some ⟨gn, 0, none⟩) (x.ctx.length + 1) cn) (by show gg ≠ w2.heap.size; exact fun e => NGV.out (by rw [← e]; rfl))).trans kC.2.2.2⟩
              have HO4 := Lib.hid hown4
              have HGR4 := Lib.hid hgrow4
              clear hown4 hgrow4 hat4
              refine hK.out _ _ (kC) (fun hHeld => ?_)
              clear hK K
              try simp only [List.getElem_toArray, List.getElem_cons_zero, List.getElem_cons_succ, Act.put, List.setIfInBounds_toArray, List.set_cons_zero, List.set_cons_succ]
              refine wpAnyH_take (i := 12) (v := ?va18) rfl (by kernel_rfl) (by kernel_rfl) (by kernel_rfl) (fun _ _ _ h => h) (Or.inl ⟨by kernel_rfl, ?hya18⟩) (by assumption) ?resta18
              case hya18 => intro w hSw; (try dsimp only at hSw); go_simp; try with_reducible rfl
              try simp only [List.getElem_toArray, List.getElem_cons_zero, List.getElem_cons_succ, Act.put, List.setIfInBounds_toArray, List.set_cons_zero, List.set_cons_succ]
              refine wpAnyH_take (i := 13) (v := ?va19) rfl (by kernel_rfl) (by kernel_rfl) (by kernel_rfl) (fun _ _ _ h => h) (Or.inl ⟨by kernel_rfl, ?hya19⟩) (by assumption) ?resta19
              case hya19 => intro w hSw; (try dsimp only at hSw); go_simp; try with_reducible rfl
              try simp only [List.getElem_toArray, List.getElem_cons_zero, List.getElem_cons_succ, Act.put, List.setIfInBounds_toArray, List.set_cons_zero, List.set_cons_succ]
              refine wpAnyH_ready (rs := [14]) (by kernel_rfl) (by simp) ?_
              refine AllReadyH.cons rfl (fun K hK => ?_) AllReadyH.nil
              go_simp
              refine hK.out _ _ (kE) (fun hHeld => ?_)
              clear hK K
              try simp only [List.getElem_toArray, List.getElem_cons_zero, List.getElem_cons_succ, Act.put, List.setIfInBounds_toArray, List.set_cons_zero, List.set_cons_succ]
              refine wpAnyH_done (by kernel_rfl) ?_ _
              clear kA kB kC kE kX c8B m0 m1 c4 c5 y0 y1 y2
              have HNEXT : Hid (LHead r w1 (.int .i64 ((k : Int) + 1)) (.pointer (some ⟨gg, pre.length * 6, none⟩)) (w4.setCell ⟨gg, pre.length * 6 + 4, none⟩ (.slice (some ⟨gn, 0, none⟩) (x.ctx.length + 1) cn)) (k + 1) pre (Lock.addPin ⟨n, ⟨va, vb, vc⟩⟩ x) cs (.slice (some ⟨gn, 0, none⟩) (x.ctx.length + 1) cn) (.slice ae x.edges.length ec) Bw gg cp) := Lib.hid (by
                have hzd := HGR4.out.size
                have hsx := HSX.out
                have hB1 := HOWX.out.bw
                have hb4 : Below w1.heap.size w1 w4 := HBX.out.grown HGR4.out (by omega) (fun g hg => by have := (HROW.out.lt g hg).1; omega)
                refine ⟨by go_num, rfl, by have := HNR.out; omega, steps_next HST.out HL.out (by rw [HKW.out, step_with (by rw [HVER.out]) HE0.out, HVER.out]), by omega, by show (x.ctx ++ [_]).length ≤ _; rw [List.length_append, List.length_singleton]; omega, by show x.edges.length ≤ _; omega, ?_, ?_, ?_, hb4.setCell (p := ⟨gg, pre.length * 6 + 4, none⟩) (by show _ ≤ gg; omega) _, by rw [show (w4.setCell ⟨gg, pre.length * 6 + 4, none⟩ (.slice (some ⟨gn, 0, none⟩) (x.ctx.length + 1) cn)).heap.size = w4.heap.size by simp [World.setCell]]; omega, ?_⟩
                · exact NodesOwn.addPin (by decide) (by decide) (by decide) HOWX.out (p := ⟨n, ⟨va, vb, vc⟩⟩) HO4.out HGR4.out
                · rw [Below.heap_setCell _ _ _ _ (by show w1.heap.size + 1 + 1 ≠ gg; exact fun e => NEG.out (by rw [e]; rfl)), HGR4.out.block _ (by omega) NE8.out]
                  exact HGX.out
                · rw [Below.heap_setCell _ _ _ _ (by show w1.heap.size ≠ gg; omega), HGR4.out.block _ (by omega) (fun e => by have := (HROW.out.lt _ e.symm).1; omega)]
                  exact HNX7.out
                · intro y hy
                  rcases List.mem_append.1 hy with hy | hy
                  · exact HZN.out y (List.mem_append_left _ hy)
                  · simp only [List.mem_singleton] at hy
                    subst hy
                    have hx := HZN.out x (List.mem_append_right _ List.mem_cons_self)
                    exact ⟨hx.1, by show (x.ctx ++ [_]).length ≤ _; rw [List.length_append, List.length_singleton]; omega, hx.2.2.1, fun p hp => by
                        rcases List.mem_append.1 hp with hp | hp
                        · exact hx.2.2.2.1 p hp
                        · simp only [List.mem_singleton] at hp; subst hp; show n.length ≤ _; omega, hx.2.2.2.2⟩)
              go_wp2
              go_roundw
              case rel => exact ⟨k + 1, pre, Lock.addPin ⟨n, ⟨va, vb, vc⟩⟩ x, cs, _, .slice ae x.edges.length ec, Bw, gg, cp, HNEXT.out⟩
              case measure => simp [intOf]; omega
            · go_simp
              refine hK.out _ _ (kB _) (fun hHeld => ?_)
              clear hK K
              try simp only [List.getElem_toArray, List.getElem_cons_zero, List.getElem_cons_succ, Act.put, List.setIfInBounds_toArray, List.set_cons_zero, List.set_cons_succ]
              refine wpAnyH_ready (rs := [4]) (by kernel_rfl) (by simp) ?_
              refine AllReadyH.cons rfl (fun K hK => ?_) AllReadyH.nil
              go_simp
              refine hK.out _ _ (kB _) (fun hHeld => ?_)
              clear hK K
              try simp only [List.getElem_toArray, List.getElem_cons_zero, List.getElem_cons_succ, Act.put, List.setIfInBounds_toArray, List.set_cons_zero, List.set_cons_succ]
              refine wpAnyH_ready (rs := [11]) (by kernel_rfl) (by simp) ?_
              refine AllReadyH.cons rfl (fun K hK => ?_) AllReadyH.nil
              rw [← HWX.out]
              refine step_append_lies wx (by rfl) _ _ _ (by rfl) Bw 42 i1 (.agg #[.string ByteArray.empty, .int .i64 0, .int .i64 0, .int .i64 0]) 4 40 Tryd.underlying35 hi1 hy0 hy1 hy2 rfl (by decide) (.slice ac x.ctx.length cc) x.ctx.length _ (by rfl) HROW.out ⟨w3.heap.size, 0, none⟩ 1 1 [.string (bs n), .int .i64 va, .int .i64 vb, .int .i64 vc] (by rfl) (by rfl) (World.news_of_block (cs := #[.string (bs n), .int .i64 va, .int .i64 vb, .int .i64 vc]) (t := 42) (fr := (0, 0)) HNB.out) (by simp [Value.oneCell']) (by omega) (by unfold maxLen; omega) (by omega) (by have := HSX.out; omega) (w3.heap.size + 1) HSX.out ?_
              intro gn cn w4 hown4 hgrow4 hat4 hlt4
              have hfree := NodesOwn.ctx_free (by decide) HOWX.out hgrow4
              have cC := hfree.1
              have fC := hfree.2
              clear hfree
              have kC : w4.cell? ⟨b2, o2 + 1, none⟩ = some (.string (bs n)) ∧ w4.cell? ⟨w2.heap.size, 0, none⟩ = some (.int .i64 va) ∧ w4.cell? ⟨w2.heap.size, 1, none⟩ = some (.int .i64 vb) ∧ w4.cell? ⟨w2.heap.size, 2, none⟩ = some (.int .i64 vc) := ⟨(hgrow4.cell_far ⟨b2, o2 + 1, none⟩ (by have := HSX.out; show b2 < _; omega) NEB.out).trans kX.1, (hgrow4.cell_far ⟨w2.heap.size, 0, none⟩ (by have := HSX.out; show w2.heap.size < _; omega) NEV.out).trans kX.2.1, (hgrow4.cell_far ⟨w2.heap.size, 1, none⟩ (by have := HSX.out; show w2.heap.size < _; omega) NEV.out).trans kX.2.2.1, (hgrow4.cell_far ⟨w2.heap.size, 2, none⟩ (by have := HSX.out; show w2.heap.size < _; omega) NEV.out).trans kX.2.2.2⟩
              have kE : (w4.setCell ⟨gg, pre.length * 6 + 4, none⟩ (.slice (some ⟨gn, 0, none⟩) (x.ctx.length + 1) cn)).cell? ⟨b2, o2 + 1, none⟩ = some (.string (bs n)) ∧ (w4.setCell ⟨gg, pre.length * 6 + 4, none⟩ (.slice (some ⟨gn, 0, none⟩) (x.ctx.length + 1) cn)).cell? ⟨w2.heap.size, 0, none⟩ = some (.int .i64 va) ∧ (w4.setCell ⟨gg, pre.length * 6 + 4, none⟩ (.slice (some ⟨gn, 0, none⟩) (x.ctx.length + 1) cn)).cell? ⟨w2.heap.size, 1, none⟩ = some (.int .i64 vb) ∧ (w4.setCell ⟨gg, pre.length * 6 + 4, none⟩ (.slice (some ⟨gn, 0, none⟩) (x.ctx.length + 1) cn)).cell? ⟨w2.heap.size, 2, none⟩ = some (.int .i64 vc) := ⟨(World.cell?_setCell_far w4 ⟨gg, pre.length * 6 + 4, none⟩ ⟨b2, o2 + 1, none⟩ (.slice (some ⟨gn, 0, none⟩) (x.ctx.length + 1) cn) (by show gg ≠ b2; omega)).trans kC.1, (World.cell?_setCell_far w4 ⟨gg, pre.length * 6 + 4, none⟩ ⟨w2.heap.size, 0, none⟩ (.slice (some ⟨gn, 0, none⟩) (x.ctx.length + 1) cn) (by show gg ≠ w2.heap.size; exact fun e => NGV.out (by rw [← e]; rfl))).trans kC.2.1, (World.cell?_setCell_far w4 ⟨gg, pre.length * 6 + 4, none⟩ ⟨w2.heap.size, 1, none⟩ (.slice (some ⟨gn, 0, none⟩) (x.ctx.length + 1) cn) (by show gg ≠ w2.heap.size; exact fun e => NGV.out (by rw [← e]; rfl))).trans kC.2.2.1, (World.cell?_setCell_far w4 ⟨gg, pre.length * 6 + 4, none⟩ ⟨w2.heap.size, 2, none⟩ (.slice (some ⟨gn, 0, none⟩) (x.ctx.length + 1) cn) (by show gg ≠ w2.heap.size; exact fun e => NGV.out (by rw [← e]; rfl))).trans kC.2.2.2⟩
              have HO4 := Lib.hid hown4
              have HGR4 := Lib.hid hgrow4
              clear hown4 hgrow4 hat4
              refine hK.out _ _ (kC) (fun hHeld => ?_)
              clear hK K
              try simp only [List.getElem_toArray, List.getElem_cons_zero, List.getElem_cons_succ, Act.put, List.setIfInBounds_toArray, List.set_cons_zero, List.set_cons_succ]
              refine wpAnyH_take (i := 12) (v := ?va20) rfl (by kernel_rfl) (by kernel_rfl) (by kernel_rfl) (fun _ _ _ h => h) (Or.inl ⟨by kernel_rfl, ?hya20⟩) (by assumption) ?resta20
              case hya20 => intro w hSw; (try dsimp only at hSw); go_simp; try with_reducible rfl
              try simp only [List.getElem_toArray, List.getElem_cons_zero, List.getElem_cons_succ, Act.put, List.setIfInBounds_toArray, List.set_cons_zero, List.set_cons_succ]
              refine wpAnyH_take (i := 13) (v := ?va21) rfl (by kernel_rfl) (by kernel_rfl) (by kernel_rfl) (fun _ _ _ h => h) (Or.inl ⟨by kernel_rfl, ?hya21⟩) (by assumption) ?resta21
              case hya21 => intro w hSw; (try dsimp only at hSw); go_simp; try with_reducible rfl
              try simp only [List.getElem_toArray, List.getElem_cons_zero, List.getElem_cons_succ, Act.put, List.setIfInBounds_toArray, List.set_cons_zero, List.set_cons_succ]
              refine wpAnyH_ready (rs := [14]) (by kernel_rfl) (by simp) ?_
              refine AllReadyH.cons rfl (fun K hK => ?_) AllReadyH.nil
              go_simp
              refine hK.out _ _ (kE) (fun hHeld => ?_)
              clear hK K
              try simp only [List.getElem_toArray, List.getElem_cons_zero, List.getElem_cons_succ, Act.put, List.setIfInBounds_toArray, List.set_cons_zero, List.set_cons_succ]
              refine wpAnyH_done (by kernel_rfl) ?_ _
              clear kA kB kC kE kX c8B m0 m1 c4 c5 y0 y1 y2
              have HNEXT : Hid (LHead r w1 (.int .i64 ((k : Int) + 1)) (.pointer (some ⟨gg, pre.length * 6, none⟩)) (w4.setCell ⟨gg, pre.length * 6 + 4, none⟩ (.slice (some ⟨gn, 0, none⟩) (x.ctx.length + 1) cn)) (k + 1) pre (Lock.addPin ⟨n, ⟨va, vb, vc⟩⟩ x) cs (.slice (some ⟨gn, 0, none⟩) (x.ctx.length + 1) cn) (.slice ae x.edges.length ec) Bw gg cp) := Lib.hid (by
                have hzd := HGR4.out.size
                have hsx := HSX.out
                have hB1 := HOWX.out.bw
                have hb4 : Below w1.heap.size w1 w4 := HBX.out.grown HGR4.out (by omega) (fun g hg => by have := (HROW.out.lt g hg).1; omega)
                refine ⟨by go_num, rfl, by have := HNR.out; omega, steps_next HST.out HL.out (by rw [HKW.out, step_with (by rw [HVER.out]) HE0.out, HVER.out]), by omega, by show (x.ctx ++ [_]).length ≤ _; rw [List.length_append, List.length_singleton]; omega, by show x.edges.length ≤ _; omega, ?_, ?_, ?_, hb4.setCell (p := ⟨gg, pre.length * 6 + 4, none⟩) (by show _ ≤ gg; omega) _, by rw [show (w4.setCell ⟨gg, pre.length * 6 + 4, none⟩ (.slice (some ⟨gn, 0, none⟩) (x.ctx.length + 1) cn)).heap.size = w4.heap.size by simp [World.setCell]]; omega, ?_⟩
                · exact NodesOwn.addPin (by decide) (by decide) (by decide) HOWX.out (p := ⟨n, ⟨va, vb, vc⟩⟩) HO4.out HGR4.out
                · rw [Below.heap_setCell _ _ _ _ (by show w1.heap.size + 1 + 1 ≠ gg; exact fun e => NEG.out (by rw [e]; rfl)), HGR4.out.block _ (by omega) NE8.out]
                  exact HGX.out
                · rw [Below.heap_setCell _ _ _ _ (by show w1.heap.size ≠ gg; omega), HGR4.out.block _ (by omega) (fun e => by have := (HROW.out.lt _ e.symm).1; omega)]
                  exact HNX7.out
                · intro y hy
                  rcases List.mem_append.1 hy with hy | hy
                  · exact HZN.out y (List.mem_append_left _ hy)
                  · simp only [List.mem_singleton] at hy
                    subst hy
                    have hx := HZN.out x (List.mem_append_right _ List.mem_cons_self)
                    exact ⟨hx.1, by show (x.ctx ++ [_]).length ≤ _; rw [List.length_append, List.length_singleton]; omega, hx.2.2.1, fun p hp => by
                        rcases List.mem_append.1 hp with hp | hp
                        · exact hx.2.2.2.1 p hp
                        · simp only [List.mem_singleton] at hp; subst hp; show n.length ≤ _; omega, hx.2.2.2.2⟩)
              go_wp2
              go_roundw
              case rel => exact ⟨k + 1, pre, Lock.addPin ⟨n, ⟨va, vb, vc⟩⟩ x, cs, _, .slice ae x.edges.length ec, Bw, gg, cp, HNEXT.out⟩
              case measure => simp [intOf]; omega
          · by_cases hto : kw = wTo ∧ nok = true
            · obtain ⟨hkw, hvt⟩ := hto
              have x1 : ((bs kw).toList == [110, 111, 100, 101]) = false := by rw [lit_eq, hkw]; rfl
              have x2 : ((bs kw).toList == [119, 105, 116, 104]) = false := by rw [lit_eq, hkw]; rfl
              have x3 : ((bs kw).toList == [116, 111]) = true := by rw [lit_eq, hkw]; rfl
              have HKW := Lib.hid hkw
              subst hvt
              clear hkw hnode hwith
              have hgl3 : gg < w3.heap.size := (HOWN3.out.row.lt gg rfl).2
              go_wp2
              have kA : w3.cell? ⟨b2, o2 + 1, none⟩ = some (.string (bs n)) := m1
              have kB : ∀ o, (w3.alloc o).cell? ⟨b2, o2 + 1, none⟩ = some (.string (bs n)) := fun o => (by rw [World.cell?_alloc_old _ _ _ (by show b2 ≠ _; omega)]; exact m1)
              have c8B : ∀ o, (w3.alloc o).cell? ⟨gg, pre.length * 6 + 5, none⟩ = some (.slice ae x.edges.length ec) := fun o => by rw [World.cell?_alloc_old _ _ _ (by show gg ≠ _; omega)]; exact c5
              obtain ⟨wx, hwx⟩ : ∃ y, y = (w3.alloc (.cells #[.string (bs n), .int .i64 nn] 40)).drew := ⟨_, rfl⟩
              have HWX := Lib.hid hwx
              have HOWX : Hid (NOwn wx (w1.heap.size + 1) Bw (.slice (some ⟨gg, 0, none⟩) (pre.length + 1) cp) pre cs x (.slice ac x.ctx.length cc) (.slice ae x.edges.length ec)) := Lib.hid (by rw [hwx]; exact (HOWN3.out.alloc _).drew)
              have HBX : Hid (Below w1.heap.size w1 wx) := Lib.hid (by rw [hwx]; exact (hbr3.alloc (by omega) _).drew)
              have HGX : Hid (wx.heap[w1.heap.size + 1 + 1]? = some (.cells #[.slice (some ⟨gg, 0, none⟩) (pre.length + 1) cp] 24 (0, 0))) := Lib.hid (by rw [hwx]; exact (Below.heap_alloc w3 _ _ (by omega)).trans HG3.out)
              have HNX7 : Hid (wx.heap[w1.heap.size]? = some (.cells #[.slice none 0 0] 24 (0, 0))) := Lib.hid (by rw [hwx]; exact (Below.heap_alloc w3 _ _ (by omega)).trans HNO3.out)
              have HVX : Hid (wx.heap[w2.heap.size]? = some (.cells #[.int .i64 va, .int .i64 vb, .int .i64 vc] 34 (0, 0))) := Lib.hid (by rw [hwx]; exact (Below.heap_alloc w3 _ _ (heap_lt HV3.out)).trans HV3.out)
              have HNB : Hid (wx.heap[w3.heap.size]? = some (.cells #[.string (bs n), .int .i64 nn] 40 (0, 0))) := Lib.hid (by rw [hwx]; exact heap_alloc_new w3 _)
              have HSX : Hid (wx.heap.size = w3.heap.size + 1) := Lib.hid (by rw [hwx]; exact World.size_alloc _ _)
              have kX : wx.cell? ⟨b2, o2 + 1, none⟩ = some (.string (bs n)) := by rw [hwx]; exact kB _
              have HROW : Hid (wx.ownsRow Bw 40 2 (.slice ae x.edges.length ec) x.edges.length ((x.edges.map edgeCells).flatten)) := Lib.hid (HOWX.out.edges)
              have NE8 : Hid (some (w1.heap.size + 1 + 1) ≠ (Value.slice ae x.edges.length ec).ownBlock) := Lib.hid (own_far' HROW.out HGX.out (by decide))
              have NEV : Hid (some w2.heap.size ≠ (Value.slice ae x.edges.length ec).ownBlock) := Lib.hid (own_far' HROW.out HVX.out (by decide))
              have NEB : Hid (some b2 ≠ (Value.slice ae x.edges.length ec).ownBlock) := Lib.hid (fun e => by have := (HROW.out.lt b2 e.symm).1; have := HOWX.out.bw; omega)
              have NEG : Hid (some (w1.heap.size + 1 + 1) ≠ (Value.slice (some ⟨gg, 0, none⟩) (pre.length + 1) cp).ownBlock) := Lib.hid (own_far' HOWX.out.row HGX.out (by decide))
              have NGV : Hid (some w2.heap.size ≠ (Value.slice (some ⟨gg, 0, none⟩) (pre.length + 1) cp).ownBlock) := Lib.hid (own_far' HOWX.out.row HVX.out (by decide))
              have hgg : w1.heap.size + 1 ≤ gg := (HOWX.out.row.lt gg rfl).1
              clear hwx
              refine wp_region_held_drew (S := fun w' => w'.cell? ⟨b2, o2 + 1, none⟩ = some (.string (bs n))) (by kernel_rfl) kA (fun hHeld => ?_)
              refine wpAnyH_take (i := 0) (v := ?va22) rfl (by kernel_rfl) (by kernel_rfl) (by kernel_rfl) (fun _ _ _ h => h) (Or.inl ⟨by kernel_rfl, ?hya22⟩) (by assumption) ?resta22
              case hya22 => intro w hSw; (try dsimp only at hSw); go_simp; try with_reducible rfl
              try simp only [List.getElem_toArray, List.getElem_cons_zero, List.getElem_cons_succ, Act.put, List.setIfInBounds_toArray, List.set_cons_zero, List.set_cons_succ]
              refine wpAnyH_take (i := 1) (v := ?va23) rfl (by kernel_rfl) (by kernel_rfl) (by kernel_rfl) (fun _ _ _ h => h) (Or.inl ⟨by kernel_rfl, ?hya23⟩) (by assumption) ?resta23
              case hya23 => intro w hSw; (try dsimp only at hSw); go_simp; try with_reducible rfl
              try simp only [List.getElem_toArray, List.getElem_cons_zero, List.getElem_cons_succ, Act.put, List.setIfInBounds_toArray, List.set_cons_zero, List.set_cons_succ]
              refine wpAnyH_take (i := 2) (v := ?va24) rfl (by kernel_rfl) (by kernel_rfl) (by kernel_rfl) (fun _ _ _ h => h) (Or.inl ⟨by kernel_rfl, ?hya24⟩) (by assumption) ?resta24
              case hya24 => intro w hSw; (try dsimp only at hSw); go_simp; try with_reducible rfl
              try simp only [List.getElem_toArray, List.getElem_cons_zero, List.getElem_cons_succ, Act.put, List.setIfInBounds_toArray, List.set_cons_zero, List.set_cons_succ]
              refine wpAnyH_take (i := 3) (v := ?va25) rfl (by kernel_rfl) (by kernel_rfl) (by kernel_rfl) (fun _ _ _ h => h) (Or.inl ⟨by kernel_rfl, ?hya25⟩) (by assumption) ?resta25
              case hya25 => intro w hSw; (try dsimp only at hSw); go_simp; try with_reducible rfl
              try simp only [List.getElem_toArray, List.getElem_cons_zero, List.getElem_cons_succ, Act.put, List.setIfInBounds_toArray, List.set_cons_zero, List.set_cons_succ]
              refine wpAnyH_take (i := 5) (v := ?va26) rfl (by kernel_rfl) (by kernel_rfl) (by kernel_rfl) (fun _ _ _ h => h) (Or.inl ⟨by kernel_rfl, ?hya26⟩) (by assumption) ?resta26
              case hya26 => intro w hSw; (try dsimp only at hSw); go_simp; try with_reducible rfl
              try simp only [List.getElem_toArray, List.getElem_cons_zero, List.getElem_cons_succ, Act.put, List.setIfInBounds_toArray, List.set_cons_zero, List.set_cons_succ]
              refine wpAnyH_take (i := 6) (v := ?va27) rfl (by kernel_rfl) (by kernel_rfl) (by kernel_rfl) (fun _ _ _ h => h) (Or.inl ⟨by kernel_rfl, ?hya27⟩) (by assumption) ?resta27
              case hya27 => intro w hSw; (try dsimp only at hSw); go_simp; try with_reducible rfl
              try simp only [List.getElem_toArray, List.getElem_cons_zero, List.getElem_cons_succ, Act.put, List.setIfInBounds_toArray, List.set_cons_zero, List.set_cons_succ]
              refine wpAnyH_take (i := 7) (v := ?va28) rfl (by kernel_rfl) (by kernel_rfl) (by kernel_rfl) (fun _ _ _ h => h) (Or.inl ⟨by kernel_rfl, ?hya28⟩) (by assumption) ?resta28
              case hya28 => intro w hSw; (try dsimp only at hSw); go_simp; try with_reducible rfl
              try simp only [List.getElem_toArray, List.getElem_cons_zero, List.getElem_cons_succ, Act.put, List.setIfInBounds_toArray, List.set_cons_zero, List.set_cons_succ]
              refine wpAnyH_take (i := 8) (v := ?va29) rfl (by kernel_rfl) (by kernel_rfl) (by kernel_rfl) (fun _ _ _ h => h) (Or.inl ⟨by kernel_rfl, ?hya29⟩) (by assumption) ?resta29
              case hya29 => intro w hSw; (try dsimp only at hSw); go_simp; try with_reducible rfl
              try simp only [List.getElem_toArray, List.getElem_cons_zero, List.getElem_cons_succ, Act.put, List.setIfInBounds_toArray, List.set_cons_zero, List.set_cons_succ]
              refine wpAnyH_take (i := 9) (v := ?va30) rfl (by kernel_rfl) (by kernel_rfl) (by kernel_rfl) (fun _ _ _ h => h) (Or.inl ⟨by kernel_rfl, ?hya30⟩) (by assumption) ?resta30
              case hya30 => intro w hSw; (try dsimp only at hSw); go_simp; try with_reducible rfl
              try simp only [List.getElem_toArray, List.getElem_cons_zero, List.getElem_cons_succ, Act.put, List.setIfInBounds_toArray, List.set_cons_zero, List.set_cons_succ]
              refine wpAnyH_ready (rs := [4, 10]) (by kernel_rfl) (by simp) ?_
              refine AllReadyH.cons rfl (fun K hK => ?_) (AllReadyH.cons rfl (fun K hK => ?_) AllReadyH.nil)
              · go_simp
                refine hK.out _ _ (kA) (fun hHeld => ?_)
                clear hK K
                try simp only [List.getElem_toArray, List.getElem_cons_zero, List.getElem_cons_succ, Act.put, List.setIfInBounds_toArray, List.set_cons_zero, List.set_cons_succ]
                refine wpAnyH_ready (rs := [10]) (by kernel_rfl) (by simp) ?_
                refine AllReadyH.cons rfl (fun K hK => ?_) AllReadyH.nil
                go_simp
                refine hK.out _ _ (kB _) (fun hHeld => ?_)
                clear hK K
                try simp only [List.getElem_toArray, List.getElem_cons_zero, List.getElem_cons_succ, Act.put, List.setIfInBounds_toArray, List.set_cons_zero, List.set_cons_succ]
                refine wpAnyH_ready (rs := [11]) (by kernel_rfl) (by simp) ?_
                refine AllReadyH.cons rfl (fun K hK => ?_) AllReadyH.nil
                rw [← HWX.out]
                refine step_append_lies wx (by rfl) _ _ _ (by rfl) Bw 40 i2 (.agg #[.string ByteArray.empty, .int .i64 0]) 2 24 Tryd.underlying36 hi2 hx0 hx1 hx2 rfl (by decide) (.slice ae x.edges.length ec) x.edges.length _ (by rfl) HROW.out ⟨w3.heap.size, 0, none⟩ 1 1 [.string (bs n), .int .i64 nn] (by rfl) (by rfl) (World.news_of_block (cs := #[.string (bs n), .int .i64 nn]) (t := 40) (fr := (0, 0)) HNB.out) (by simp [Value.oneCell']) (by omega) (by unfold maxLen; omega) (by omega) (by have := HSX.out; omega) (w3.heap.size + 1) HSX.out ?_
                intro gn cn w4 hown4 hgrow4 hat4 hlt4
                have hfree := NodesOwn.edges_free (by decide) HOWX.out hgrow4
                have cC := hfree.1
                have fC := hfree.2
                clear hfree
                have kC : w4.cell? ⟨b2, o2 + 1, none⟩ = some (.string (bs n)) := (hgrow4.cell_far ⟨b2, o2 + 1, none⟩ (by have := HSX.out; show b2 < _; omega) NEB.out).trans kX
                have kE : (w4.setCell ⟨gg, pre.length * 6 + 5, none⟩ (.slice (some ⟨gn, 0, none⟩) (x.edges.length + 1) cn)).cell? ⟨b2, o2 + 1, none⟩ = some (.string (bs n)) := (World.cell?_setCell_far w4 ⟨gg, pre.length * 6 + 5, none⟩ ⟨b2, o2 + 1, none⟩ (.slice (some ⟨gn, 0, none⟩) (x.edges.length + 1) cn) (by show gg ≠ b2; omega)).trans kC
                have HO4 := Lib.hid hown4
                have HGR4 := Lib.hid hgrow4
                clear hown4 hgrow4 hat4
                refine hK.out _ _ (kC) (fun hHeld => ?_)
                clear hK K
                try simp only [List.getElem_toArray, List.getElem_cons_zero, List.getElem_cons_succ, Act.put, List.setIfInBounds_toArray, List.set_cons_zero, List.set_cons_succ]
                refine wpAnyH_take (i := 12) (v := ?va31) rfl (by kernel_rfl) (by kernel_rfl) (by kernel_rfl) (fun _ _ _ h => h) (Or.inl ⟨by kernel_rfl, ?hya31⟩) (by assumption) ?resta31
                case hya31 => intro w hSw; (try dsimp only at hSw); go_simp; try with_reducible rfl
                try simp only [List.getElem_toArray, List.getElem_cons_zero, List.getElem_cons_succ, Act.put, List.setIfInBounds_toArray, List.set_cons_zero, List.set_cons_succ]
                refine wpAnyH_take (i := 13) (v := ?va32) rfl (by kernel_rfl) (by kernel_rfl) (by kernel_rfl) (fun _ _ _ h => h) (Or.inl ⟨by kernel_rfl, ?hya32⟩) (by assumption) ?resta32
                case hya32 => intro w hSw; (try dsimp only at hSw); go_simp; try with_reducible rfl
                try simp only [List.getElem_toArray, List.getElem_cons_zero, List.getElem_cons_succ, Act.put, List.setIfInBounds_toArray, List.set_cons_zero, List.set_cons_succ]
                refine wpAnyH_ready (rs := [14]) (by kernel_rfl) (by simp) ?_
                refine AllReadyH.cons rfl (fun K hK => ?_) AllReadyH.nil
                go_simp
                refine hK.out _ _ (kE) (fun hHeld => ?_)
                clear hK K
                try simp only [List.getElem_toArray, List.getElem_cons_zero, List.getElem_cons_succ, Act.put, List.setIfInBounds_toArray, List.set_cons_zero, List.set_cons_succ]
                refine wpAnyH_done (by kernel_rfl) ?_ _
                clear kA kB kC kE kX c8B m0 m1 c4 c5
                have HNEXT : Hid (LHead r w1 (.int .i64 ((k : Int) + 1)) (.pointer (some ⟨gg, pre.length * 6, none⟩)) (w4.setCell ⟨gg, pre.length * 6 + 5, none⟩ (.slice (some ⟨gn, 0, none⟩) (x.edges.length + 1) cn)) (k + 1) pre (Lock.addEdge ⟨n, nn⟩ x) cs (.slice ac x.ctx.length cc) (.slice (some ⟨gn, 0, none⟩) (x.edges.length + 1) cn) Bw gg cp) := Lib.hid (by
                  have hzd := HGR4.out.size
                  have hsx := HSX.out
                  have hB1 := HOWX.out.bw
                  have hb4 : Below w1.heap.size w1 w4 := HBX.out.grown HGR4.out (by omega) (fun g hg => by have := (HROW.out.lt g hg).1; omega)
                  refine ⟨by go_num, rfl, by have := HNR.out; omega, steps_next HST.out HL.out (by rw [HKW.out, step_to (by rw [HNUM.out]), HNUM.out]), by omega, by show x.ctx.length ≤ _; omega, by show (x.edges ++ [_]).length ≤ _; rw [List.length_append, List.length_singleton]; omega, ?_, ?_, ?_, hb4.setCell (p := ⟨gg, pre.length * 6 + 5, none⟩) (by show _ ≤ gg; omega) _, by rw [show (w4.setCell ⟨gg, pre.length * 6 + 5, none⟩ (.slice (some ⟨gn, 0, none⟩) (x.edges.length + 1) cn)).heap.size = w4.heap.size by simp [World.setCell]]; omega, ?_⟩
                  · exact NodesOwn.addEdge (by decide) (by decide) (by decide) HOWX.out (p := ⟨n, nn⟩) HO4.out HGR4.out
                  · rw [Below.heap_setCell _ _ _ _ (by show w1.heap.size + 1 + 1 ≠ gg; exact fun e => NEG.out (by rw [e]; rfl)), HGR4.out.block _ (by omega) NE8.out]
                    exact HGX.out
                  · rw [Below.heap_setCell _ _ _ _ (by show w1.heap.size ≠ gg; omega), HGR4.out.block _ (by omega) (fun e => by have := (HROW.out.lt _ e.symm).1; omega)]
                    exact HNX7.out
                  · intro y hy
                    rcases List.mem_append.1 hy with hy | hy
                    · exact HZN.out y (List.mem_append_left _ hy)
                    · simp only [List.mem_singleton] at hy
                      subst hy
                      have hx := HZN.out x (List.mem_append_right _ List.mem_cons_self)
                      exact ⟨hx.1, hx.2.1, by show (x.edges ++ [_]).length ≤ _; rw [List.length_append, List.length_singleton]; omega, hx.2.2.2.1, fun p hp => by
                          rcases List.mem_append.1 hp with hp | hp
                          · exact hx.2.2.2.2 p hp
                          · simp only [List.mem_singleton] at hp; subst hp; show n.length ≤ _; omega⟩)
                go_wp2
                go_roundw
                case rel => exact ⟨k + 1, pre, Lock.addEdge ⟨n, nn⟩ x, cs, .slice ac x.ctx.length cc, _, Bw, gg, cp, HNEXT.out⟩
                case measure => simp [intOf]; omega
              · go_simp
                refine hK.out _ _ (kB _) (fun hHeld => ?_)
                clear hK K
                try simp only [List.getElem_toArray, List.getElem_cons_zero, List.getElem_cons_succ, Act.put, List.setIfInBounds_toArray, List.set_cons_zero, List.set_cons_succ]
                refine wpAnyH_ready (rs := [4]) (by kernel_rfl) (by simp) ?_
                refine AllReadyH.cons rfl (fun K hK => ?_) AllReadyH.nil
                go_simp
                refine hK.out _ _ (kB _) (fun hHeld => ?_)
                clear hK K
                try simp only [List.getElem_toArray, List.getElem_cons_zero, List.getElem_cons_succ, Act.put, List.setIfInBounds_toArray, List.set_cons_zero, List.set_cons_succ]
                refine wpAnyH_ready (rs := [11]) (by kernel_rfl) (by simp) ?_
                refine AllReadyH.cons rfl (fun K hK => ?_) AllReadyH.nil
                rw [← HWX.out]
                refine step_append_lies wx (by rfl) _ _ _ (by rfl) Bw 40 i2 (.agg #[.string ByteArray.empty, .int .i64 0]) 2 24 Tryd.underlying36 hi2 hx0 hx1 hx2 rfl (by decide) (.slice ae x.edges.length ec) x.edges.length _ (by rfl) HROW.out ⟨w3.heap.size, 0, none⟩ 1 1 [.string (bs n), .int .i64 nn] (by rfl) (by rfl) (World.news_of_block (cs := #[.string (bs n), .int .i64 nn]) (t := 40) (fr := (0, 0)) HNB.out) (by simp [Value.oneCell']) (by omega) (by unfold maxLen; omega) (by omega) (by have := HSX.out; omega) (w3.heap.size + 1) HSX.out ?_
                intro gn cn w4 hown4 hgrow4 hat4 hlt4
                have hfree := NodesOwn.edges_free (by decide) HOWX.out hgrow4
                have cC := hfree.1
                have fC := hfree.2
                clear hfree
                have kC : w4.cell? ⟨b2, o2 + 1, none⟩ = some (.string (bs n)) := (hgrow4.cell_far ⟨b2, o2 + 1, none⟩ (by have := HSX.out; show b2 < _; omega) NEB.out).trans kX
                have kE : (w4.setCell ⟨gg, pre.length * 6 + 5, none⟩ (.slice (some ⟨gn, 0, none⟩) (x.edges.length + 1) cn)).cell? ⟨b2, o2 + 1, none⟩ = some (.string (bs n)) := (World.cell?_setCell_far w4 ⟨gg, pre.length * 6 + 5, none⟩ ⟨b2, o2 + 1, none⟩ (.slice (some ⟨gn, 0, none⟩) (x.edges.length + 1) cn) (by show gg ≠ b2; omega)).trans kC
                have HO4 := Lib.hid hown4
                have HGR4 := Lib.hid hgrow4
                clear hown4 hgrow4 hat4
                refine hK.out _ _ (kC) (fun hHeld => ?_)
                clear hK K
                try simp only [List.getElem_toArray, List.getElem_cons_zero, List.getElem_cons_succ, Act.put, List.setIfInBounds_toArray, List.set_cons_zero, List.set_cons_succ]
                refine wpAnyH_take (i := 12) (v := ?va33) rfl (by kernel_rfl) (by kernel_rfl) (by kernel_rfl) (fun _ _ _ h => h) (Or.inl ⟨by kernel_rfl, ?hya33⟩) (by assumption) ?resta33
                case hya33 => intro w hSw; (try dsimp only at hSw); go_simp; try with_reducible rfl
                try simp only [List.getElem_toArray, List.getElem_cons_zero, List.getElem_cons_succ, Act.put, List.setIfInBounds_toArray, List.set_cons_zero, List.set_cons_succ]
                refine wpAnyH_take (i := 13) (v := ?va34) rfl (by kernel_rfl) (by kernel_rfl) (by kernel_rfl) (fun _ _ _ h => h) (Or.inl ⟨by kernel_rfl, ?hya34⟩) (by assumption) ?resta34
                case hya34 => intro w hSw; (try dsimp only at hSw); go_simp; try with_reducible rfl
                try simp only [List.getElem_toArray, List.getElem_cons_zero, List.getElem_cons_succ, Act.put, List.setIfInBounds_toArray, List.set_cons_zero, List.set_cons_succ]
                refine wpAnyH_ready (rs := [14]) (by kernel_rfl) (by simp) ?_
                refine AllReadyH.cons rfl (fun K hK => ?_) AllReadyH.nil
                go_simp
                refine hK.out _ _ (kE) (fun hHeld => ?_)
                clear hK K
                try simp only [List.getElem_toArray, List.getElem_cons_zero, List.getElem_cons_succ, Act.put, List.setIfInBounds_toArray, List.set_cons_zero, List.set_cons_succ]
                refine wpAnyH_done (by kernel_rfl) ?_ _
                clear kA kB kC kE kX c8B m0 m1 c4 c5
                have HNEXT : Hid (LHead r w1 (.int .i64 ((k : Int) + 1)) (.pointer (some ⟨gg, pre.length * 6, none⟩)) (w4.setCell ⟨gg, pre.length * 6 + 5, none⟩ (.slice (some ⟨gn, 0, none⟩) (x.edges.length + 1) cn)) (k + 1) pre (Lock.addEdge ⟨n, nn⟩ x) cs (.slice ac x.ctx.length cc) (.slice (some ⟨gn, 0, none⟩) (x.edges.length + 1) cn) Bw gg cp) := Lib.hid (by
                  have hzd := HGR4.out.size
                  have hsx := HSX.out
                  have hB1 := HOWX.out.bw
                  have hb4 : Below w1.heap.size w1 w4 := HBX.out.grown HGR4.out (by omega) (fun g hg => by have := (HROW.out.lt g hg).1; omega)
                  refine ⟨by go_num, rfl, by have := HNR.out; omega, steps_next HST.out HL.out (by rw [HKW.out, step_to (by rw [HNUM.out]), HNUM.out]), by omega, by show x.ctx.length ≤ _; omega, by show (x.edges ++ [_]).length ≤ _; rw [List.length_append, List.length_singleton]; omega, ?_, ?_, ?_, hb4.setCell (p := ⟨gg, pre.length * 6 + 5, none⟩) (by show _ ≤ gg; omega) _, by rw [show (w4.setCell ⟨gg, pre.length * 6 + 5, none⟩ (.slice (some ⟨gn, 0, none⟩) (x.edges.length + 1) cn)).heap.size = w4.heap.size by simp [World.setCell]]; omega, ?_⟩
                  · exact NodesOwn.addEdge (by decide) (by decide) (by decide) HOWX.out (p := ⟨n, nn⟩) HO4.out HGR4.out
                  · rw [Below.heap_setCell _ _ _ _ (by show w1.heap.size + 1 + 1 ≠ gg; exact fun e => NEG.out (by rw [e]; rfl)), HGR4.out.block _ (by omega) NE8.out]
                    exact HGX.out
                  · rw [Below.heap_setCell _ _ _ _ (by show w1.heap.size ≠ gg; omega), HGR4.out.block _ (by omega) (fun e => by have := (HROW.out.lt _ e.symm).1; omega)]
                    exact HNX7.out
                  · intro y hy
                    rcases List.mem_append.1 hy with hy | hy
                    · exact HZN.out y (List.mem_append_left _ hy)
                    · simp only [List.mem_singleton] at hy
                      subst hy
                      have hx := HZN.out x (List.mem_append_right _ List.mem_cons_self)
                      exact ⟨hx.1, hx.2.1, by show (x.edges ++ [_]).length ≤ _; rw [List.length_append, List.length_singleton]; omega, hx.2.2.2.1, fun p hp => by
                          rcases List.mem_append.1 hp with hp | hp
                          · exact hx.2.2.2.2 p hp
                          · simp only [List.mem_singleton] at hp; subst hp; show n.length ≤ _; omega⟩)
                go_wp2
                go_roundw
                case rel => exact ⟨k + 1, pre, Lock.addEdge ⟨n, nn⟩ x, cs, .slice ac x.ctx.length cc, _, Bw, gg, cp, HNEXT.out⟩
                case measure => simp [intOf]; omega
            · have HF : Hid (Lock.parse s.data.toList = (22, [])) := Lib.hid (by
                rw [HP.out]
                exact rest2_none (steps_stop HST.out HL.out (step_bad (by rw [HVER.out]; exact hnode) (by rw [HVER.out]; exact hwith) (by rw [HNUM.out]; exact hto))))
              by_cases hk1 : kw = wNode
              · have hkw := hk1
                have x1 : ((bs kw).toList == [110, 111, 100, 101]) = true := by rw [lit_eq, hkw]; rfl
                have x2 : ((bs kw).toList == [119, 105, 116, 104]) = false := by rw [lit_eq, hkw]; rfl
                have x3 : ((bs kw).toList == [116, 111]) = false := by rw [lit_eq, hkw]; rfl
                have hvf : vok = false := Bool.eq_false_iff.2 fun e => hnode ⟨hkw, e⟩
                subst hvf
                clear hkw hk1 hnode hwith hto
                have n7 : w3.cell? ⟨w1.heap.size, 0, none⟩ = some (.slice none 0 0) := by rw [Go.Lib.cell_of_heap HNO3.out]; rfl
                have hrz : w3.heap[w.heap.size]? = some (.cells #[.slice none 0 0] 24 (0, 0)) := heap_below hbr3 (heap_lt HR1.out) HR1.out
                have c2 : w3.cell? ⟨w.heap.size, 0, none⟩ = some (.slice none 0 0) := by rw [Go.Lib.cell_of_heap hrz]; rfl
                have f2 : w3.frozen? ⟨w.heap.size, 0, none⟩ = false := Go.Lib.frozen_of_heap hrz 0
                have c3 : (w3.setCell ⟨w.heap.size, 0, none⟩ (.slice none 0 0)).cell? ⟨w.heap.size, 0, none⟩ = some (.slice none 0 0) := World.cell?_setCell_same _ _ _ c2
                clear hrz
                go_wp2
                refine bodyPost_ret (v := .tuple #[.agg #[.slice none 0 0], .int .i64 22]) (by simp [results, Tryd.results11, go_sem, c3]) rfl ?_
                exact GParsePost.out HF.out HW1.out hbr3 HR1.out (Or.inl ⟨rfl, rfl⟩)
              · by_cases hk2 : kw = wWith
                · have hkw := hk2
                  have x1 : ((bs kw).toList == [110, 111, 100, 101]) = false := by rw [lit_eq, hkw]; rfl
                  have x2 : ((bs kw).toList == [119, 105, 116, 104]) = true := by rw [lit_eq, hkw]; rfl
                  have x3 : ((bs kw).toList == [116, 111]) = false := by rw [lit_eq, hkw]; rfl
                  by_cases hv : vok = true
                  · subst hv
                    have hez : (((x.edges.length : Nat) : Int) == 0) = false := by rw [beq_eq_false_iff_ne]; intro e; exact hwith ⟨hkw, rfl, by omega⟩
                    clear hkw hk1 hk2 hnode hwith hto
                    have n7 : w3.cell? ⟨w1.heap.size, 0, none⟩ = some (.slice none 0 0) := by rw [Go.Lib.cell_of_heap HNO3.out]; rfl
                    have hrz : w3.heap[w.heap.size]? = some (.cells #[.slice none 0 0] 24 (0, 0)) := heap_below hbr3 (heap_lt HR1.out) HR1.out
                    have c2 : w3.cell? ⟨w.heap.size, 0, none⟩ = some (.slice none 0 0) := by rw [Go.Lib.cell_of_heap hrz]; rfl
                    have f2 : w3.frozen? ⟨w.heap.size, 0, none⟩ = false := Go.Lib.frozen_of_heap hrz 0
                    have c3 : (w3.setCell ⟨w.heap.size, 0, none⟩ (.slice none 0 0)).cell? ⟨w.heap.size, 0, none⟩ = some (.slice none 0 0) := World.cell?_setCell_same _ _ _ c2
                    clear hrz
                    go_wp2
                    refine bodyPost_ret (v := .tuple #[.agg #[.slice none 0 0], .int .i64 22]) (by simp [results, Tryd.results11, go_sem, c3]) rfl ?_
                    exact GParsePost.out HF.out HW1.out hbr3 HR1.out (Or.inl ⟨rfl, rfl⟩)
                  · have hvf : vok = false := Bool.eq_false_iff.2 hv
                    subst hvf
                    clear hkw hk1 hk2 hnode hwith hto hv
                    have n7 : w3.cell? ⟨w1.heap.size, 0, none⟩ = some (.slice none 0 0) := by rw [Go.Lib.cell_of_heap HNO3.out]; rfl
                    have hrz : w3.heap[w.heap.size]? = some (.cells #[.slice none 0 0] 24 (0, 0)) := heap_below hbr3 (heap_lt HR1.out) HR1.out
                    have c2 : w3.cell? ⟨w.heap.size, 0, none⟩ = some (.slice none 0 0) := by rw [Go.Lib.cell_of_heap hrz]; rfl
                    have f2 : w3.frozen? ⟨w.heap.size, 0, none⟩ = false := Go.Lib.frozen_of_heap hrz 0
                    have c3 : (w3.setCell ⟨w.heap.size, 0, none⟩ (.slice none 0 0)).cell? ⟨w.heap.size, 0, none⟩ = some (.slice none 0 0) := World.cell?_setCell_same _ _ _ c2
                    clear hrz
                    go_wp2
                    refine bodyPost_ret (v := .tuple #[.agg #[.slice none 0 0], .int .i64 22]) (by simp [results, Tryd.results11, go_sem, c3]) rfl ?_
                    exact GParsePost.out HF.out HW1.out hbr3 HR1.out (Or.inl ⟨rfl, rfl⟩)
                · by_cases hk3 : kw = wTo
                  · have hkw := hk3
                    have x1 : ((bs kw).toList == [110, 111, 100, 101]) = false := by rw [lit_eq, hkw]; rfl
                    have x2 : ((bs kw).toList == [119, 105, 116, 104]) = false := by rw [lit_eq, hkw]; rfl
                    have x3 : ((bs kw).toList == [116, 111]) = true := by rw [lit_eq, hkw]; rfl
                    have hvf : nok = false := Bool.eq_false_iff.2 fun e => hto ⟨hkw, e⟩
                    subst hvf
                    clear hkw hk1 hk2 hk3 hnode hwith hto
                    have n7 : w3.cell? ⟨w1.heap.size, 0, none⟩ = some (.slice none 0 0) := by rw [Go.Lib.cell_of_heap HNO3.out]; rfl
                    have hrz : w3.heap[w.heap.size]? = some (.cells #[.slice none 0 0] 24 (0, 0)) := heap_below hbr3 (heap_lt HR1.out) HR1.out
                    have c2 : w3.cell? ⟨w.heap.size, 0, none⟩ = some (.slice none 0 0) := by rw [Go.Lib.cell_of_heap hrz]; rfl
                    have f2 : w3.frozen? ⟨w.heap.size, 0, none⟩ = false := Go.Lib.frozen_of_heap hrz 0
                    have c3 : (w3.setCell ⟨w.heap.size, 0, none⟩ (.slice none 0 0)).cell? ⟨w.heap.size, 0, none⟩ = some (.slice none 0 0) := World.cell?_setCell_same _ _ _ c2
                    clear hrz
                    go_wp2
                    refine bodyPost_ret (v := .tuple #[.agg #[.slice none 0 0], .int .i64 22]) (by simp [results, Tryd.results11, go_sem, c3]) rfl ?_
                    exact GParsePost.out HF.out HW1.out hbr3 HR1.out (Or.inl ⟨rfl, rfl⟩)
                  · have x1 : ((bs kw).toList == [110, 111, 100, 101]) = false := by rw [lit_eq]; exact decide_eq_false hk1
                    have x2 : ((bs kw).toList == [119, 105, 116, 104]) = false := by rw [lit_eq]; exact decide_eq_false hk2
                    have x3 : ((bs kw).toList == [116, 111]) = false := by rw [lit_eq]; exact decide_eq_false hk3
                    clear hk1 hk2 hk3 hnode hwith hto
                    have n7 : w3.cell? ⟨w1.heap.size, 0, none⟩ = some (.slice none 0 0) := by rw [Go.Lib.cell_of_heap HNO3.out]; rfl
                    have hrz : w3.heap[w.heap.size]? = some (.cells #[.slice none 0 0] 24 (0, 0)) := heap_below hbr3 (heap_lt HR1.out) HR1.out
                    have c2 : w3.cell? ⟨w.heap.size, 0, none⟩ = some (.slice none 0 0) := by rw [Go.Lib.cell_of_heap hrz]; rfl
                    have f2 : w3.frozen? ⟨w.heap.size, 0, none⟩ = false := Go.Lib.frozen_of_heap hrz 0
                    have c3 : (w3.setCell ⟨w.heap.size, 0, none⟩ (.slice none 0 0)).cell? ⟨w.heap.size, 0, none⟩ = some (.slice none 0 0) := World.cell?_setCell_same _ _ _ c2
                    clear hrz
                    go_wp2
                    refine bodyPost_ret (v := .tuple #[.agg #[.slice none 0 0], .int .i64 22]) (by simp [results, Tryd.results11, go_sem, c3]) rfl ?_
                    exact GParsePost.out HF.out HW1.out hbr3 HR1.out (Or.inl ⟨rfl, rfl⟩)
      · have hq3 : ¬ ((l.length : Nat) : Int) = 3 := by omega
        have HF : Hid (Lock.parse s.data.toList = (22, [])) := Lib.hid (by rw [HP.out]; exact rest2_none (steps_stop HST.out HL.out (step_few h3)))
        clear h3
        have n7 : wo.cell? ⟨w1.heap.size, 0, none⟩ = some (.slice none 0 0) := by rw [Go.Lib.cell_of_heap HNO.out]; rfl
        have hrz : wo.heap[w.heap.size]? = some (.cells #[.slice none 0 0] 24 (0, 0)) := heap_below hBr (heap_lt HR1.out) HR1.out
        have c2 : wo.cell? ⟨w.heap.size, 0, none⟩ = some (.slice none 0 0) := by rw [Go.Lib.cell_of_heap hrz]; rfl
        have f2 : wo.frozen? ⟨w.heap.size, 0, none⟩ = false := Go.Lib.frozen_of_heap hrz 0
        have c3 : (wo.setCell ⟨w.heap.size, 0, none⟩ (.slice none 0 0)).cell? ⟨w.heap.size, 0, none⟩ = some (.slice none 0 0) := World.cell?_setCell_same _ _ _ c2
        clear hrz
        go_wp2
        refine bodyPost_ret (v := .tuple #[.agg #[.slice none 0 0], .int .i64 22]) (by simp [results, Tryd.results11, go_sem, c3]) rfl ?_
        exact GParsePost.out HF.out HW1.out hBr HR1.out (Or.inl ⟨rfl, rfl⟩)
    · have hk2 : k = r.length := by have := HNR.out; omega
      have hst2 := HST.out
      rw [hk2, List.take_of_length_le (Nat.le_refl _)] at hst2
      have HST2 := Lib.hid hst2
      have hgl : (pre ++ [x]).length ≤ 4611686018427387904 := by rw [List.length_append]; simp; omega
      have HMAY : Hid (Calls Tryd.prog 8 #[.agg #[.slice (some ⟨gg, 0, none⟩) (pre.length + 1) cp]] wo fun e w' => e = .returned (.bool (may (pre ++ [x]))) ∧ Below wo.heap.size wo w') := Lib.hid (May_any wo _ (pre ++ [x]) HOWN.out.at HZN.out hgl)
      have c8 : wo.cell? ⟨w1.heap.size + 1 + 1, 0, none⟩ = some (.slice (some ⟨gg, 0, none⟩) (pre.length + 1) cp) := by rw [Go.Lib.cell_of_heap HG.out]; rfl
      clear hst2 hk2
      go_wp2_with fail
      refine HMAY.out.mono ?_
      rintro e w4 ⟨rfl, hb4⟩
      have HB4 : Hid (Below w1.heap.size w1 w4) := Lib.hid (hBr.trans (hb4.mono hzo))
      have hG4 := heap_below hb4 (heap_lt HG.out) HG.out
      have HN4 := Lib.hid (heap_below hb4 (heap_lt HNO.out) HNO.out)
      have HOWN4 := Lib.hid (HOWN.out.below hb4)
      have c9 : w4.cell? ⟨w1.heap.size + 1 + 1, 0, none⟩ = some (.slice (some ⟨gg, 0, none⟩) (pre.length + 1) cp) := by rw [Go.Lib.cell_of_heap hG4]; rfl
      clear hb4 hG4
      cases hm : may (pre ++ [x])
      · have HF : Hid (Lock.parse s.data.toList = (22, [])) := Lib.hid (by rw [HP.out]; exact rest2_no HST2.out hm)
        clear hm
        have n7 : w4.cell? ⟨w1.heap.size, 0, none⟩ = some (.slice none 0 0) := by rw [Go.Lib.cell_of_heap HN4.out]; rfl
        have hrz : w4.heap[w.heap.size]? = some (.cells #[.slice none 0 0] 24 (0, 0)) := heap_below HB4.out (heap_lt HR1.out) HR1.out
        have c2 : w4.cell? ⟨w.heap.size, 0, none⟩ = some (.slice none 0 0) := by rw [Go.Lib.cell_of_heap hrz]; rfl
        have f2 : w4.frozen? ⟨w.heap.size, 0, none⟩ = false := Go.Lib.frozen_of_heap hrz 0
        have c3 : (w4.setCell ⟨w.heap.size, 0, none⟩ (.slice none 0 0)).cell? ⟨w.heap.size, 0, none⟩ = some (.slice none 0 0) := World.cell?_setCell_same _ _ _ c2
        clear hrz
        go_wp2
        refine bodyPost_ret (v := .tuple #[.agg #[.slice none 0 0], .int .i64 22]) (by simp [results, Tryd.results11, go_sem, c3]) rfl ?_
        exact GParsePost.out HF.out HW1.out HB4.out HR1.out (Or.inl ⟨rfl, rfl⟩)
      · have HF : Hid (Lock.parse s.data.toList = (0, pre ++ [x])) := Lib.hid (by rw [HP.out]; exact rest2_yes HST2.out hm)
        have hrz : w4.heap[w.heap.size]? = some (.cells #[.slice none 0 0] 24 (0, 0)) := heap_below HB4.out (heap_lt HR1.out) HR1.out
        have c2 : w4.cell? ⟨w.heap.size, 0, none⟩ = some (.slice none 0 0) := by rw [Go.Lib.cell_of_heap hrz]; rfl
        have f2 : w4.frozen? ⟨w.heap.size, 0, none⟩ = false := Go.Lib.frozen_of_heap hrz 0
        have c3 : (w4.setCell ⟨w.heap.size, 0, none⟩ (.slice (some ⟨gg, 0, none⟩) (pre.length + 1) cp)).cell? ⟨w.heap.size, 0, none⟩ = some (.slice (some ⟨gg, 0, none⟩) (pre.length + 1) cp) := World.cell?_setCell_same _ _ _ c2
        clear hrz hm
        go_wp2
        refine bodyPost_ret (v := .tuple #[.agg #[.slice (some ⟨gg, 0, none⟩) (pre.length + 1) cp], .int .i64 0]) (by simp [results, Tryd.results11, go_sem, c3]) rfl ?_
        exact GParsePost.out HF.out HW1.out HB4.out HR1.out (Or.inr ⟨Bw, pre, cs, x, cv, ev, rfl, HOWN4.out⟩)
end Go.Proofs.YtjiifieafnjpgaaDoor
