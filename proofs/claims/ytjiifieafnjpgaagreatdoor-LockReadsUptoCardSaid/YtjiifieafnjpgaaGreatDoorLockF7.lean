/- The document's Parse: the walk. -/
import Derived.Test.YtjiifieafnjpgaaGreatDoorLockT
import Derived.Test.YtjiifieafnjpgaaGreatDoorLockF5
import Derived.Test.YtjiifieafnjpgaaGreatDoorLockW7I
namespace Go.Proofs.YtjiifieafnjpgaaGreatDoor
open Go.RowKit
set_option linter.unusedSimpArgs false
set_option linter.unusedVariables false
open Lock
theorem grown_alloc {w w4 : World} {o : Obj} {row : Option Nat} (h : (w.alloc o).grownBy w4 row) : w.grownBy w4 row :=
  ⟨h.os, h.tape, h.output, by have := h.size; rw [World.size_alloc] at this; omega, fun k hk hne => (h.block k (by rw [World.size_alloc]; omega) hne).trans (Below.heap_alloc w o k hk)⟩
/-- The result's cell is written at the end. -/
theorem RParsePost.out {T : List UInt8} {w w1 wr : World} {v : Value} {g : G} {c : Int} (hp : Lock.rparse T = (c, g)) (hw1 : Below w.heap.size w w1) (hb : Below w1.heap.size w1 wr) (hr : w1.heap[w.heap.size]? = some (.cells #[.slice none 0 0] 24 (0, 0)))
    (hg : NodesAt wr wr.heap.size v g) (hown : ∃ b k, RS wr b k v g) : RParsePost T w (.returned (.tuple #[.agg #[v], .int .i64 c])) (wr.setCell ⟨w.heap.size, 0, none⟩ v) := by
  have hlt := heap_lt hr
  refine ⟨v, by rw [hp], ?_, (hw1.trans (hb.mono hw1.size)).setCell (p := ⟨w.heap.size, 0, none⟩) (Nat.le_refl _) _⟩
  rw [hp]
  obtain ⟨b, k, hown⟩ := hown
  rcases hown with ⟨e1, e2⟩ | ⟨Bw, pre, cs, x, cv, ev, e1, h, _⟩
  · subst e1 e2
    exact NodesAt.nil _ _
  · rw [e1]
    exact (h.kept (grown_set wr w.heap.size 0 v) fun k hk => by
      cases hk
      exact ⟨_, _, _, heap_below hb hlt hr, by decide, by decide, by decide⟩).at
set_option maxHeartbeats 16000000 in
set_option maxRecDepth 100000 in
theorem rparse_bad (s : ByteArray) (hs : s.size ≤ 2097152) (w : World) (hbad : 1048576 < s.size ∨ ∃ n, Scan.spec s.data.toList = .inl n) :
    Calls Tryz.prog 5 #[.string s] w (RParsePost s.data.toList w) := by
  by_cases hbig : 1048576 < s.size
  · have HA : Hid (Scan.ans s 1048576 = (25, 0, [])) := Lib.hid (by unfold Scan.ans; rw [if_pos (by omega)])
    have HP : Hid (Lock.rparse s.data.toList = (25, [])) := Lib.hid (by unfold Lock.rparse; rw [if_pos (by rw [bal_length]; exact hbig)])
    clear hbad hbig
    go_enter Tryz.func5, Tryz.ntmps5
    go_wp2_with fail
    refine (rlines_ans s _ (by omega) _).mono ?_
    rintro e w1 ⟨va, hsa, rfl, hla, hb1⟩
    rw [HA.out] at hla ⊢
    have HW1 : Hid (Below w.heap.size w w1) := Lib.hid (Below.trans (by go_grown) (hb1.mono (by simp)))
    have HR1 : Hid (w1.heap[w.heap.size]? = some (.cells #[.slice none 0 0] 24 (0, 0))) := Lib.hid (by rw [hb1.block _ (by simp)]; exact heap_alloc_new w _)
    have hzw : w.heap.size < w1.heap.size := by have := hb1.size; simp at this; omega
    clear hb1
    clear hla
    have c2 : w1.cell? ⟨w.heap.size, 0, none⟩ = some (.slice none 0 0) := by rw [Go.Lib.cell_of_heap HR1.out]; rfl
    have f2 : w1.frozen? ⟨w.heap.size, 0, none⟩ = false := Go.Lib.frozen_of_heap HR1.out 0
    have c3 : (w1.setCell ⟨w.heap.size, 0, none⟩ (.slice none 0 0)).cell? ⟨w.heap.size, 0, none⟩ = some (.slice none 0 0) := World.cell?_setCell_same _ _ _ c2
    go_wp2
    refine bodyPost_ret (v := .tuple #[.agg #[.slice none 0 0], .int .i64 25]) (by simp [results, Tryz.results5, go_sem, c3]) rfl ?_
    exact RParsePost.bad HP.out (HW1.out.setCell (p := ⟨w.heap.size, 0, none⟩) (Nat.le_refl _) _)
  · obtain ⟨n, hsp⟩ : ∃ n, Scan.spec s.data.toList = .inl n := by
      rcases hbad with h | h
      · exact absurd h hbig
      · exact h
    have HA : Hid (Scan.ans s 1048576 = (22, (n : Int), [])) := Lib.hid (by unfold Scan.ans; rw [if_neg (by omega), hsp])
    have HP : Hid (Lock.rparse s.data.toList = (22, [])) := Lib.hid (by unfold Lock.rparse; rw [if_neg (by rw [bal_length]; exact hbig), hsp])
    clear hbad hbig hsp
    go_enter Tryz.func5, Tryz.ntmps5
    go_wp2_with fail
    refine (rlines_ans s _ (by omega) _).mono ?_
    rintro e w1 ⟨va, hsa, rfl, hla, hb1⟩
    rw [HA.out] at hla ⊢
    have HW1 : Hid (Below w.heap.size w w1) := Lib.hid (Below.trans (by go_grown) (hb1.mono (by simp)))
    have HR1 : Hid (w1.heap[w.heap.size]? = some (.cells #[.slice none 0 0] 24 (0, 0))) := Lib.hid (by rw [hb1.block _ (by simp)]; exact heap_alloc_new w _)
    have hzw : w.heap.size < w1.heap.size := by have := hb1.size; simp at this; omega
    clear hb1
    clear hla
    have c2 : w1.cell? ⟨w.heap.size, 0, none⟩ = some (.slice none 0 0) := by rw [Go.Lib.cell_of_heap HR1.out]; rfl
    have f2 : w1.frozen? ⟨w.heap.size, 0, none⟩ = false := Go.Lib.frozen_of_heap HR1.out 0
    have c3 : (w1.setCell ⟨w.heap.size, 0, none⟩ (.slice none 0 0)).cell? ⟨w.heap.size, 0, none⟩ = some (.slice none 0 0) := World.cell?_setCell_same _ _ _ c2
    go_wp2
    refine bodyPost_ret (v := .tuple #[.agg #[.slice none 0 0], .int .i64 22]) (by simp [results, Tryz.results5, go_sem, c3]) rfl ?_
    exact RParsePost.bad HP.out (HW1.out.setCell (p := ⟨w.heap.size, 0, none⟩) (Nat.le_refl _) _)
set_option maxHeartbeats 16000000 in
set_option maxRecDepth 100000 in
theorem rparse_graph (s : ByteArray) (hs : s.size ≤ 2097152) (w : World) (hE : Env w) :
    Calls Tryz.prog 5 #[.string s] w (RParsePost s.data.toList w) := by
  by_cases hbad : 1048576 < s.size ∨ ∃ n, Scan.spec s.data.toList = .inl n
  · exact rparse_bad s hs w hbad
  have hbig : ¬ 1048576 < s.size := fun h => hbad (Or.inl h)
  obtain ⟨ls, hsp⟩ : ∃ ls, Scan.spec s.data.toList = .inr ls := by
    cases h : Scan.spec s.data.toList with
    | inl n => exact absurd (Or.inr ⟨n, h⟩) hbad
    | inr ls => exact ⟨ls, rfl⟩
  clear hbad
  obtain ⟨i0, hi, ha0, ha1, ha2⟩ := info_parts infoNode
  obtain ⟨i1, hi1, hy0, hy1, hy2⟩ := info_parts infoPin
  obtain ⟨i2, hi2, hx0, hx1, hx2⟩ := info_parts infoEdge
  have HA := Lib.hid (ans_some hbig hsp)
  have HP := Lib.hid (rparse_some hbig hsp)
  have hz := Scan.ans_sizes s 1048576
  rw [HA.out] at hz
  have HZ := Lib.hid hz.2
  have hlen : ls.length ≤ 1048577 := by have : ls.length ≤ s.size + 1 := hz.1; omega
  have hss : s.size ≤ 1048576 := by omega
  have HWL : Hid (∀ (k : Nat) (l : List (List UInt8)), ls[k]? = some l → ∀ p ∈ l, p.length ≤ 1048576) := Lib.hid (fun k l hl p hp => by
    have h1 := (Scan.spec_form hsp).1
    have h2 := Scan.unlines_line hl
    have h3 := (Scan.glue_words l).2 p hp
    have h4 := congrArg List.length h1
    rw [bal_length] at h4
    omega)
  obtain ⟨N, hN⟩ : ∃ N, N = ls.length := ⟨_, rfl⟩
  rw [← hN] at hlen
  have HN := Lib.hid hN
  have HENV := Lib.hid hE
  clear hz hsp hbig hN hE
  go_enter Tryz.func5, Tryz.ntmps5
  go_wp2_with fail
  refine (rlines_ans s _ (by omega) _).mono ?_
  rintro e w1 ⟨va, hsa, rfl, hla, hb1⟩
  rw [HA.out] at hla ⊢
  have HW1 : Hid (Below w.heap.size w w1) := Lib.hid (Below.trans (by go_grown) (hb1.mono (by simp)))
  have HR1 : Hid (w1.heap[w.heap.size]? = some (.cells #[.slice none 0 0] 24 (0, 0))) := Lib.hid (by rw [hb1.block _ (by simp)]; exact heap_alloc_new w _)
  have hzw : w.heap.size < w1.heap.size := by have := hb1.size; simp at this; omega
  clear hb1
  have hrow := hla.row
  rw [← HN.out] at hrow
  have hvs := Lines.grid_rows hla
  obtain ⟨av, cap, rfl⟩ := own_form hrow
  have HROWL := Lib.hid hrow
  obtain ⟨vs, hvsd⟩ : ∃ vs, vs = List.zipWith (fun h (l : List (List UInt8)) => rv h l.length) hsa ls := ⟨_, rfl⟩
  rw [← hvsd] at hvs HROWL
  have HVS := Lib.hid hvs
  clear hla hvs hrow hvsd
  go_wp2
  go_loopw [8, 7] (fun p q wr => ∃ (k : Nat) (g : G), p = .int .i64 k ∧ 1 ≤ k ∧ (k ≤ N ∨ k = 1) ∧ rsteps [] ((ls.take k).drop 1) = some g ∧ g.length ≤ k ∧ (∀ y ∈ g, NdSize y) ∧ RS wr w1.heap.size k q g ∧ Below w1.heap.size w1 wr) (fun p _ _ => N - (intOf p).toNat)
  case atStart => exact ⟨1, [], rfl, Nat.le_refl _, Or.inr rfl, by
    have : (ls.take 1).drop 1 = [] := by rw [List.drop_eq_nil_iff, List.length_take]; omega
    rw [this]; rfl, by simp, fun y hy => by simp at hy, Or.inl ⟨rfl, rfl⟩, Below.refl _ _⟩
  case round =>
    obtain ⟨k, g, rfl, hk1, hkN', hst, hgl, hzn, hrs, hBr⟩ := hrel
    obtain ⟨wo, rfl⟩ : ∃ x, x = wr := ⟨wr, rfl⟩
    have HST := Lib.hid hst
    have HZN := Lib.hid hzn
    have HRS := Lib.hid hrs
    have hzo := hBr.size
    have hkb : k ≤ 1048577 := by omega
    clear hst hzn hrs
    by_cases hkN : k < N
    · obtain ⟨l, hl⟩ : ∃ l, ls[k]? = some l := ⟨_, List.getElem?_eq_getElem (by have := HN.out; omega)⟩
      obtain ⟨u, hu⟩ : ∃ u, vs[k]? = some u := ⟨_, List.getElem?_eq_getElem (by have := HVS.out.1; have := HN.out; omega)⟩
      obtain ⟨gl, capl, hve, hgl1, hgl2⟩ := own_some HROWL.out (by omega)
      cases hve
      have hru := HVS.out.2 k u l hu hl
      have hlz := HZ.out l (List.mem_of_getElem? hl)
      have e1 : wo.cell? ⟨gl, k, none⟩ = some u := by
        rw [hBr.cell (p := ⟨gl, k, none⟩) (by show gl < _; omega), HROWL.out.cellAt k (by have := HROWL.out.1; omega)]; exact hu
      obtain ⟨b2, o2, c9, hue, hcc2, hb2, hcc⟩ := hru.at (by simpa using hlz.2)
      rw [List.length_map] at hue
      subst hue
      have hcw : ∀ j x, l[j]? = some x → wo.cell? ⟨b2, o2 + j, none⟩ = some (.string (bs x)) := fun j x hx => by
        rw [hBr.cell (p := ⟨b2, o2 + j, none⟩) (by show b2 < _; omega)]
        exact hcc j (sv x) (by rw [List.getElem?_map, hx]; rfl)
      have hwl := HWL.out k l hl
      have HCW := Lib.hid hcw
      have HL := Lib.hid hl
      have HWLL := Lib.hid hwl
      have hll : l.length ≤ 1048577 := by omega
      have hl1 : 1 ≤ l.length := hlz.2
      have hkn : ((k : Int) < (N : Int)) := by omega
      have hgw : gl < wo.heap.size := by omega
      have hb2w : b2 < wo.heap.size := by omega
      clear hcc hcw hl hu hru hlz hwl hcc2
      obtain ⟨M, hM⟩ : ∃ M, M = l.length := ⟨_, rfl⟩
      rw [← hM] at e1 hll hl1
      have HM := Lib.hid hM
      have hl0 : 0 < l.length := by omega
      clear hM
      obtain ⟨kw, r, rfl⟩ : ∃ a b, l = a :: b := by
        match l, hl0 with
        | a :: b, _ => exact ⟨a, b, rfl⟩
      clear hl0
      have d0 : wo.cell? ⟨b2, o2, none⟩ = some (.string (bs kw)) := HCW.out 0 kw rfl
      obtain ⟨xs, hrow, hadd⟩ := HRS.out.row
      obtain ⟨aq, cq, rfl⟩ := own_form hrow
      have HROW := Lib.hid hrow
      have HADD := Lib.hid hadd
      clear hrow hadd
      by_cases hroot : kw = wRoot
      · have x1 : ((bs kw).toList == [114, 111, 111, 116]) = true := by rw [lit_eq, hroot]; rfl
        have HROOT := Lib.hid hroot
        clear hroot
        go_wp2_with (at_builtin; refine wpList_append_lies _ rfl _ _ _ rfl w1.heap.size 40 i0 (.agg #[.string ByteArray.empty, .int .i64 0, .int .i64 0, .int .i64 0, .slice none 0 0, .slice none 0 0]) 6 88 Tryz.underlying22 hi ha0 ha1 ha2 rfl (by decide) (.slice aq g.length cq) g.length _ rfl (HROW.out.alloc _) ⟨wo.heap.size, 0, none⟩ 1 1 [.string ⟨#[]⟩, .int .i64 0, .int .i64 0, .int .i64 0, .slice none 0 0, .slice none 0 0] rfl rfl (World.news_of_block (cs := #[.string ⟨#[]⟩, .int .i64 0, .int .i64 0, .int .i64 0, .slice none 0 0, .slice none 0 0]) (t := 40) (fr := (0, 0)) (heap_alloc_new wo _)) (by simp [Value.oneCell']) (by omega) (by unfold maxLen; omega) (by omega) (by simp; omega) (wo.heap.size + 1) (by simp) ?_; intro gn cn w4 hown4 hgrow4 hat4 hlt4; have HO4 := Lib.hid hown4; have HGR4 := Lib.hid hgrow4; clear hown4 hgrow4 hat4)
        have hb4 : Below w1.heap.size w1 w4 := (hBr.alloc hzo _).grown HGR4.out (by rw [World.size_alloc]; omega) (fun g hg => (HROW.out.lt g hg).1)
        have HRS4 : Hid (RS w4 w1.heap.size (k + 1) (.slice (some ⟨gn, 0, none⟩) (g.length + 1) cn) (g ++ [nd0])) := Lib.hid (by
          exact HADD.out w4 _ [] v0 (k + 1) (grown_alloc HGR4.out) HO4.out)
        go_roundw
        case rel => exact ⟨k + 1, g ++ [nd0], by go_num, by omega, Or.inl (by omega), rsteps_next hk1 HST.out HL.out (rstep_root rfl HROOT.out), by rw [List.length_append]; simp; omega, fun y hy => by
          rcases List.mem_append.1 hy with hy | hy
          · exact HZN.out y hy
          · simp only [List.mem_singleton] at hy
            subst hy
            exact ⟨by decide, by decide, by decide, fun p hp => by simp [nd0] at hp, fun p hp => by simp [nd0] at hp⟩, HRS4.out, hb4⟩
        case measure => simp [intOf]; omega
      · have x1 : ((bs kw).toList == [114, 111, 111, 116]) = false := by rw [lit_eq]; exact decide_eq_false hroot
        by_cases h3 : M = 3
        · subst h3
          obtain ⟨n, t, rfl⟩ : ∃ a b, r = [a, b] := by
            have := HM.out
            match r, this with
            | [a, b], _ => exact ⟨a, b, rfl⟩
          have d2 : wo.cell? ⟨b2, o2 + 2, none⟩ = some (.string (bs t)) := HCW.out 2 t rfl
          obtain ⟨⟨va, vb, vc⟩, vok, hver⟩ : ∃ v ok, Lock.verOf t = (v, ok) := ⟨_, _, rfl⟩
          obtain ⟨nn, nok, hnum⟩ : ∃ m ok, Num.numAns t 128 = (m, ok) := ⟨_, _, rfl⟩
          have hnl : n.length ≤ 1048576 := HWLL.out n (by simp)
          have htl : t.length ≤ 1048576 := HWLL.out t (by simp)
          have HVP : Hid (∀ W, Calls Tryz.prog 13 #[.string (bs t)] W fun e w' => e = .returned (.tuple #[.agg #[.int .i64 va, .int .i64 vb, .int .i64 vc], .bool vok]) ∧ Below W.heap.size W w') := Lib.hid (fun W => by
            have h := VL.rparse_any (bs t) (by show t.toArray.size ≤ _; rw [List.size_toArray]; exact htl) W
            rw [bs_list, rans_verOf, hver] at h
            exact h)
          have HNU : Hid (∀ W, Calls Tryz.prog 14 #[.string (bs t), .int .i64 128] W fun e w' => e = .returned (.tuple #[.int .i64 nn, .bool nok]) ∧ w' = W) := Lib.hid (fun W => by
            have h := rnumber_any (bs t) 128 (by show t.toArray.size ≤ _; rw [List.size_toArray]; omega) W
            unfold numRes at h
            rw [bs_list, hnum] at h
            exact h)
          have HVER := Lib.hid hver
          have HNUM := Lib.hid hnum
          obtain ⟨ng, hng⟩ : ∃ y, y = g.length := ⟨_, rfl⟩
          have HNG := Lib.hid hng
          rw [← hng] at HROW hgl ⊢
          clear hver hnum hng
          go_wp2_with fail
          refine (HVP.out _).mono ?_
          rintro e w2 ⟨rfl, hv2⟩
          obtain ⟨w3, hw3⟩ : ∃ y, y = w2.alloc (.cells #[.int .i64 va, .int .i64 vb, .int .i64 vc] 36) := ⟨_, rfl⟩
          have hb3 : Below wo.heap.size wo w3 := by rw [hw3]; exact hv2.alloc hv2.size _
          have hz3 : w2.heap.size < w3.heap.size := by rw [hw3, World.size_alloc]; omega
          have HV3 : Hid (w3.heap[w2.heap.size]? = some (.cells #[.int .i64 va, .int .i64 vb, .int .i64 vc] 36 (0, 0))) := Lib.hid (by rw [hw3]; exact heap_alloc_new w2 _)
          have HW3 := Lib.hid hw3
          have hz2 := hv2.size
          have d2' : w2.cell? ⟨b2, o2 + 2, none⟩ = some (.string (bs t)) := by rw [hv2.cell (p := ⟨b2, o2 + 2, none⟩) (by show b2 < _; omega)]; exact d2
          have hb2w2 : b2 < w2.heap.size := by omega
          clear hw3
          go_wp2_with fail
          rw [← HW3.out]
          refine (HNU.out _).mono ?_
          rintro e w3' ⟨rfl, rfl⟩
          have hbr3 : Below w1.heap.size w1 w3' := hBr.trans (hb3.mono hzo)
          have hbwo3 := hb3.size
          have m0 : w3'.cell? ⟨b2, o2, none⟩ = some (.string (bs kw)) := by rw [hb3.cell (p := ⟨b2, o2, none⟩) (by show b2 < _; omega)]; exact HCW.out 0 kw rfl
          have m1 : w3'.cell? ⟨b2, o2 + 1, none⟩ = some (.string (bs n)) := by rw [hb3.cell (p := ⟨b2, o2 + 1, none⟩) (by show b2 < _; omega)]; exact HCW.out 1 n rfl
          obtain ⟨w3, hw3⟩ : ∃ y, y = w3' := ⟨_, rfl⟩
          rw [← hw3] at hb3 hz3 HV3 hbr3 hbwo3 m0 m1 ⊢
          have HRS3 := Lib.hid (HRS.out.below hb3)
          have y0 : w3.cell? ⟨w2.heap.size, 0, none⟩ = some (.int .i64 va) := by rw [Go.Lib.cell_of_heap HV3.out]; rfl
          have y1 : w3.cell? ⟨w2.heap.size, 1, none⟩ = some (.int .i64 vb) := by rw [Go.Lib.cell_of_heap HV3.out]; rfl
          have y2 : w3.cell? ⟨w2.heap.size, 2, none⟩ = some (.int .i64 vc) := by rw [Go.Lib.cell_of_heap HV3.out]; rfl
          clear d0 d2 d2' hv2 hw3 e1
          by_cases hnode : kw = wNode
          · have x2 : ((bs kw).toList == [110, 111, 100, 101]) = true := by rw [lit_eq, hnode]; rfl
            have HKW := Lib.hid hnode
            obtain ⟨xs3, hrow3, hadd3⟩ := HRS3.out.row
            rw [← HNG.out] at hrow3 hadd3
            have HADD3 := Lib.hid hadd3
            have HROW3 := Lib.hid hrow3
            clear hnode hrow3 hadd3 hroot
            have kA : w3.cell? ⟨b2, o2 + 1, none⟩ = some (.string (bs n)) ∧ w3.cell? ⟨w2.heap.size, 0, none⟩ = some (.int .i64 va) ∧ w3.cell? ⟨w2.heap.size, 1, none⟩ = some (.int .i64 vb) ∧ w3.cell? ⟨w2.heap.size, 2, none⟩ = some (.int .i64 vc) := ⟨m1, y0, y1, y2⟩
            have kB : ∀ o, (w3.alloc o).cell? ⟨b2, o2 + 1, none⟩ = some (.string (bs n)) ∧ (w3.alloc o).cell? ⟨w2.heap.size, 0, none⟩ = some (.int .i64 va) ∧ (w3.alloc o).cell? ⟨w2.heap.size, 1, none⟩ = some (.int .i64 vb) ∧ (w3.alloc o).cell? ⟨w2.heap.size, 2, none⟩ = some (.int .i64 vc) := fun o => ⟨(by rw [World.cell?_alloc_old _ _ _ (by show b2 ≠ _; omega)]; exact m1), (by rw [World.cell?_alloc_old _ _ _ (by show w2.heap.size ≠ _; omega)]; exact y0), (by rw [World.cell?_alloc_old _ _ _ (by show w2.heap.size ≠ _; omega)]; exact y1), (by rw [World.cell?_alloc_old _ _ _ (by show w2.heap.size ≠ _; omega)]; exact y2)⟩
            have NEV : Hid (some w2.heap.size ≠ (Value.slice aq ng cq).ownBlock) := Lib.hid (own_far' HROW3.out HV3.out (by decide))
            have NEB : Hid (some b2 ≠ (Value.slice aq ng cq).ownBlock) := Lib.hid (fun e => by have := (HROW3.out.lt b2 e.symm).1; omega)
            go_wp2
            refine wp_region_held_drew (S := fun w' => w'.cell? ⟨b2, o2 + 1, none⟩ = some (.string (bs n)) ∧ w'.cell? ⟨w2.heap.size, 0, none⟩ = some (.int .i64 va) ∧ w'.cell? ⟨w2.heap.size, 1, none⟩ = some (.int .i64 vb) ∧ w'.cell? ⟨w2.heap.size, 2, none⟩ = some (.int .i64 vc)) (by kernel_rfl) kA (fun hHeld => ?_)
            refine wpAnyH_take (i := 0) (v := ?va31) rfl (by kernel_rfl) (by kernel_rfl) (by kernel_rfl) (fun _ _ _ h => h) (Or.inl ⟨by kernel_rfl, ?hya31⟩) (by assumption) ?resta31
            case hya31 => intro w hSw; (try dsimp only at hSw); go_simp; try with_reducible rfl
            try simp only [List.getElem_toArray, List.getElem_cons_zero, List.getElem_cons_succ, Act.put, List.setIfInBounds_toArray, List.set_cons_zero, List.set_cons_succ]
            refine wpAnyH_take (i := 1) (v := ?va32) rfl (by kernel_rfl) (by kernel_rfl) (by kernel_rfl) (fun _ _ _ h => h) (Or.inl ⟨by kernel_rfl, ?hya32⟩) (by assumption) ?resta32
            case hya32 => intro w hSw; (try dsimp only at hSw); go_simp; try with_reducible rfl
            try simp only [List.getElem_toArray, List.getElem_cons_zero, List.getElem_cons_succ, Act.put, List.setIfInBounds_toArray, List.set_cons_zero, List.set_cons_succ]
            refine wpAnyH_take (i := 2) (v := ?va33) rfl (by kernel_rfl) (by kernel_rfl) (by kernel_rfl) (fun _ _ _ h => h) (Or.inl ⟨by kernel_rfl, ?hya33⟩) (by assumption) ?resta33
            case hya33 => intro w hSw; (try dsimp only at hSw); go_simp; try with_reducible rfl
            try simp only [List.getElem_toArray, List.getElem_cons_zero, List.getElem_cons_succ, Act.put, List.setIfInBounds_toArray, List.set_cons_zero, List.set_cons_succ]
            refine wpAnyH_take (i := 3) (v := ?va34) rfl (by kernel_rfl) (by kernel_rfl) (by kernel_rfl) (fun _ _ _ h => h) (Or.inl ⟨by kernel_rfl, ?hya34⟩) (by assumption) ?resta34
            case hya34 => intro w hSw; (try dsimp only at hSw); go_simp; try with_reducible rfl
            try simp only [List.getElem_toArray, List.getElem_cons_zero, List.getElem_cons_succ, Act.put, List.setIfInBounds_toArray, List.set_cons_zero, List.set_cons_succ]
            refine wpAnyH_take (i := 4) (v := ?va35) rfl (by kernel_rfl) (by kernel_rfl) (by kernel_rfl) (fun _ _ _ h => h) (Or.inl ⟨by kernel_rfl, ?hya35⟩) (by assumption) ?resta35
            case hya35 => intro w hSw; (try dsimp only at hSw); go_simp; try with_reducible rfl
            try simp only [List.getElem_toArray, List.getElem_cons_zero, List.getElem_cons_succ, Act.put, List.setIfInBounds_toArray, List.set_cons_zero, List.set_cons_succ]
            refine wpAnyH_take (i := 5) (v := ?va36) rfl (by kernel_rfl) (by kernel_rfl) (by kernel_rfl) (fun _ _ _ h => h) (Or.inl ⟨by kernel_rfl, ?hya36⟩) (by assumption) ?resta36
            case hya36 => intro w hSw; (try dsimp only at hSw); go_simp; try with_reducible rfl
            try simp only [List.getElem_toArray, List.getElem_cons_zero, List.getElem_cons_succ, Act.put, List.setIfInBounds_toArray, List.set_cons_zero, List.set_cons_succ]
            refine wpAnyH_ready (rs := [6]) (by kernel_rfl) (by simp) ?_
            refine AllReadyH.cons rfl (fun K hK => ?_) AllReadyH.nil
            go_simp
            refine hK.out _ _ (kB _) (fun hHeld => ?_)
            clear hK K
            try simp only [List.getElem_toArray, List.getElem_cons_zero, List.getElem_cons_succ, Act.put, List.setIfInBounds_toArray, List.set_cons_zero, List.set_cons_succ]
            refine wpAnyH_ready (rs := [7]) (by kernel_rfl) (by simp) ?_
            refine AllReadyH.cons rfl (fun K hK => ?_) AllReadyH.nil
            refine step_append_lies _ (by rfl) _ _ _ (by rfl) w1.heap.size 40 i0 (.agg #[.string ByteArray.empty, .int .i64 0, .int .i64 0, .int .i64 0, .slice none 0 0, .slice none 0 0]) 6 88 Tryz.underlying22 hi ha0 ha1 ha2 rfl (by decide) (.slice aq ng cq) ng _ (by rfl) ((HROW3.out.alloc _).drew) ⟨w3.heap.size, 0, none⟩ 1 1 [.string (bs n), .int .i64 va, .int .i64 vb, .int .i64 vc, .slice none 0 0, .slice none 0 0] (by rfl) (by rfl) (World.news_of_block (cs := #[.string (bs n), .int .i64 va, .int .i64 vb, .int .i64 vc, .slice none 0 0, .slice none 0 0]) (t := 40) (fr := (0, 0)) (heap_alloc_new w3 _)) (by simp [Value.oneCell']) (by omega) (by unfold maxLen; omega) (by omega) (by simp; omega) (w3.heap.size + 1) (by simp) ?_
            intro gn cn w4 hown4 hgrow4 hat4 hlt4
            have kC : w4.cell? ⟨b2, o2 + 1, none⟩ = some (.string (bs n)) ∧ w4.cell? ⟨w2.heap.size, 0, none⟩ = some (.int .i64 va) ∧ w4.cell? ⟨w2.heap.size, 1, none⟩ = some (.int .i64 vb) ∧ w4.cell? ⟨w2.heap.size, 2, none⟩ = some (.int .i64 vc) := ⟨(hgrow4.cell_far ⟨b2, o2 + 1, none⟩ (by show b2 < _; simp; omega) NEB.out).trans (kB _).1, (hgrow4.cell_far ⟨w2.heap.size, 0, none⟩ (by show w2.heap.size < _; simp; omega) NEV.out).trans (kB _).2.1, (hgrow4.cell_far ⟨w2.heap.size, 1, none⟩ (by show w2.heap.size < _; simp; omega) NEV.out).trans (kB _).2.2.1, (hgrow4.cell_far ⟨w2.heap.size, 2, none⟩ (by show w2.heap.size < _; simp; omega) NEV.out).trans (kB _).2.2.2⟩
            have HO4 := Lib.hid hown4
            have HGR4 : Hid (w3.grownBy w4 (Value.slice aq ng cq).ownBlock) := Lib.hid (grown_alloc (o := .cells #[.string (bs n), .int .i64 va, .int .i64 vb, .int .i64 vc, .slice none 0 0, .slice none 0 0] 40) ⟨hgrow4.os, hgrow4.tape, hgrow4.output, hgrow4.size, hgrow4.block⟩)
            clear hown4 hgrow4 hat4
            refine hK.out _ _ (kC) (fun hHeld => ?_)
            clear hK K
            try simp only [List.getElem_toArray, List.getElem_cons_zero, List.getElem_cons_succ, Act.put, List.setIfInBounds_toArray, List.set_cons_zero, List.set_cons_succ]
            refine wpAnyH_take (i := 8) (v := ?va37) rfl (by kernel_rfl) (by kernel_rfl) (by kernel_rfl) (fun _ _ _ h => h) (Or.inl ⟨by kernel_rfl, ?hya37⟩) (by assumption) ?resta37
            case hya37 => intro w hSw; (try dsimp only at hSw); go_simp; try with_reducible rfl
            try simp only [List.getElem_toArray, List.getElem_cons_zero, List.getElem_cons_succ, Act.put, List.setIfInBounds_toArray, List.set_cons_zero, List.set_cons_succ]
            refine wpAnyH_done (by kernel_rfl) ?_ _
            clear kA kB kC m0 m1 y0 y1 y2
            have hb4 : Below w1.heap.size w1 w4 := hbr3.grown HGR4.out (by omega) (fun g hg => (HROW3.out.lt g hg).1)
            have HRS4 : Hid (RS w4 w1.heap.size (k + 1) (.slice (some ⟨gn, 0, none⟩) (ng + 1) cn) (g ++ [⟨n, ⟨va, vb, vc⟩, [], []⟩])) := Lib.hid (HADD3.out w4 _ n ⟨va, vb, vc⟩ (k + 1) HGR4.out HO4.out)
            go_wp2
            go_roundw
            case rel => exact ⟨k + 1, g ++ [⟨n, ⟨va, vb, vc⟩, [], []⟩], by go_num, by omega, Or.inl (by omega), rsteps_next hk1 HST.out HL.out (by rw [HKW.out, rstep_node, HVER.out]), by rw [List.length_append, ← HNG.out]; simp; omega, fun y hy => by
              rcases List.mem_append.1 hy with hy | hy
              · exact HZN.out y hy
              · simp only [List.mem_singleton] at hy
                subst hy
                exact ⟨by dsimp only; omega, Nat.zero_le _, Nat.zero_le _, fun p hp => by simp at hp, fun p hp => by simp at hp⟩, HRS4.out, hb4⟩
            case measure => simp [intOf]; omega
          · have x2 : ((bs kw).toList == [110, 111, 100, 101]) = false := by rw [lit_eq]; exact decide_eq_false hnode
            rcases HRS3.out with ⟨hg0, hv0⟩ | ⟨Bw, pre, cs, x, cv, ev, hgp, hown, hBw, hxc, hxe⟩
            · have hng0 : ng = 0 := by rw [HNG.out, hg0]; rfl
              have HNXT : Hid (rsteps [] ((ls.take (k + 1)).drop 1) = some g) := Lib.hid (rsteps_next hk1 HST.out HL.out (by rw [hg0]; exact rstep_none hroot hnode))
              have HRS4 : Hid (RS w3 w1.heap.size (k + 1) (.slice aq ng cq) g) := Lib.hid (by have h := HRS3.out.mono (Nat.le_succ k); rw [← HNG.out] at h; exact h)
              have HGL : Hid (g.length ≤ k + 1) := Lib.hid (by rw [← HNG.out]; omega)
              subst hng0
              clear hg0 hv0 hroot hnode
              go_wp2
              go_roundw
              case rel => exact ⟨k + 1, g, by go_num, by omega, Or.inl (by omega), HNXT.out, HGL.out, HZN.out, HRS4.out, hbr3⟩
              case measure => simp [intOf]; omega
            · obtain ⟨gg, cp, hve, hgg1, hgg2, _⟩ := hown.form
              injection hve with hv1 hv2 hv3
              have hngp : ng = pre.length + 1 := by rw [HNG.out]; exact hv2
              subst hv1 hv3
              rw [hv2] at hown
              clear hv2
              subst hngp
              obtain ⟨ac, cc, rfl⟩ := own_form hown.pins
              obtain ⟨ae, ec, rfl⟩ := own_form hown.edges
              have HOWN3 := Lib.hid hown
              have c4 := hown.cell.1
              have c5 := hown.cell.2
              have hxl1 : x.ctx.length ≤ 1048577 := by omega
              have hxl2 : x.edges.length ≤ 1048577 := by omega
              have HGP := Lib.hid hgp
              clear hown hgp
              by_cases hwith : kw = wWith
              · have x3 : ((bs kw).toList == [119, 105, 116, 104]) = true := by rw [lit_eq, hwith]; rfl
                have HSTEP : Hid (rstep g [kw, n, t] = some (pre ++ [Lock.addPin ⟨n, ⟨va, vb, vc⟩⟩ x])) := Lib.hid (by rw [HGP.out, hwith, rstep_with, HVER.out])
                clear hwith hroot hnode
                have hpi : ((pre.length : Nat) : Int) < (pre.length : Int) + 1 := by omega
                go_wp2
                have kA : w3.cell? ⟨b2, o2 + 1, none⟩ = some (.string (bs n)) ∧ w3.cell? ⟨w2.heap.size, 0, none⟩ = some (.int .i64 va) ∧ w3.cell? ⟨w2.heap.size, 1, none⟩ = some (.int .i64 vb) ∧ w3.cell? ⟨w2.heap.size, 2, none⟩ = some (.int .i64 vc) := ⟨m1, y0, y1, y2⟩
                have kB : ∀ o, (w3.alloc o).cell? ⟨b2, o2 + 1, none⟩ = some (.string (bs n)) ∧ (w3.alloc o).cell? ⟨w2.heap.size, 0, none⟩ = some (.int .i64 va) ∧ (w3.alloc o).cell? ⟨w2.heap.size, 1, none⟩ = some (.int .i64 vb) ∧ (w3.alloc o).cell? ⟨w2.heap.size, 2, none⟩ = some (.int .i64 vc) := fun o => ⟨(by rw [World.cell?_alloc_old _ _ _ (by show b2 ≠ _; omega)]; exact m1), (by rw [World.cell?_alloc_old _ _ _ (by show w2.heap.size ≠ _; omega)]; exact y0), (by rw [World.cell?_alloc_old _ _ _ (by show w2.heap.size ≠ _; omega)]; exact y1), (by rw [World.cell?_alloc_old _ _ _ (by show w2.heap.size ≠ _; omega)]; exact y2)⟩
                have c8B : ∀ o, (w3.alloc o).cell? ⟨gg, pre.length * 6 + 4, none⟩ = some (.slice ac x.ctx.length cc) := fun o => by rw [World.cell?_alloc_old _ _ _ (by show gg ≠ _; omega)]; exact c4
                have HOWX : Hid (NOwn (w3.alloc (.cells #[.string (bs n), .int .i64 va, .int .i64 vb, .int .i64 vc] 47)).drew w1.heap.size Bw (.slice (some ⟨gg, 0, none⟩) (pre.length + 1) cq) pre cs x (.slice ac x.ctx.length cc) (.slice ae x.edges.length ec)) := Lib.hid ((HOWN3.out.alloc _).drew)
                have HROWX : Hid ((w3.alloc (.cells #[.string (bs n), .int .i64 va, .int .i64 vb, .int .i64 vc] 47)).drew.ownsRow Bw 47 4 (.slice ac x.ctx.length cc) x.ctx.length ((x.ctx.map pinCells).flatten)) := Lib.hid HOWX.out.pins
                have NEV : Hid (some w2.heap.size ≠ (Value.slice ac x.ctx.length cc).ownBlock) := Lib.hid (own_far' HOWN3.out.pins HV3.out (by decide))
                have NEB : Hid (some b2 ≠ (Value.slice ac x.ctx.length cc).ownBlock) := Lib.hid (fun e => by have := (HROWX.out.lt b2 e.symm).1; have := HOWX.out.bw; omega)
                have NGV : Hid (some w2.heap.size ≠ (Value.slice (some ⟨gg, 0, none⟩) (pre.length + 1) cq).ownBlock) := Lib.hid (own_far' HOWN3.out.row HV3.out (by decide))
                refine wp_region_held_drew (S := fun w' => w'.cell? ⟨b2, o2 + 1, none⟩ = some (.string (bs n)) ∧ w'.cell? ⟨w2.heap.size, 0, none⟩ = some (.int .i64 va) ∧ w'.cell? ⟨w2.heap.size, 1, none⟩ = some (.int .i64 vb) ∧ w'.cell? ⟨w2.heap.size, 2, none⟩ = some (.int .i64 vc)) (by kernel_rfl) kA (fun hHeld => ?_)
                refine wpAnyH_take (i := 0) (v := ?va1) rfl (by kernel_rfl) (by kernel_rfl) (by kernel_rfl) (fun _ _ _ h => h) (Or.inl ⟨by kernel_rfl, ?hya1⟩) (by assumption) ?resta1
                case hya1 => intro w hSw; (try dsimp only at hSw); go_simp; try with_reducible rfl
                try simp only [List.getElem_toArray, List.getElem_cons_zero, List.getElem_cons_succ, Act.put, List.setIfInBounds_toArray, List.set_cons_zero, List.set_cons_succ]
                refine wpAnyH_take (i := 1) (v := ?va2) rfl (by kernel_rfl) (by kernel_rfl) (by kernel_rfl) (fun _ _ _ h => h) (Or.inl ⟨by kernel_rfl, ?hya2⟩) (by assumption) ?resta2
                case hya2 => intro w hSw; (try dsimp only at hSw); go_simp; try with_reducible rfl
                try simp only [List.getElem_toArray, List.getElem_cons_zero, List.getElem_cons_succ, Act.put, List.setIfInBounds_toArray, List.set_cons_zero, List.set_cons_succ]
                refine wpAnyH_take (i := 2) (v := ?va3) rfl (by kernel_rfl) (by kernel_rfl) (by kernel_rfl) (fun _ _ _ h => h) (Or.inl ⟨by kernel_rfl, ?hya3⟩) (by assumption) ?resta3
                case hya3 => intro w hSw; (try dsimp only at hSw); go_simp; try with_reducible rfl
                try simp only [List.getElem_toArray, List.getElem_cons_zero, List.getElem_cons_succ, Act.put, List.setIfInBounds_toArray, List.set_cons_zero, List.set_cons_succ]
                refine wpAnyH_take (i := 3) (v := ?va4) rfl (by kernel_rfl) (by kernel_rfl) (by kernel_rfl) (fun _ _ _ h => h) (Or.inl ⟨by kernel_rfl, ?hya4⟩) (by assumption) ?resta4
                case hya4 => intro w hSw; (try dsimp only at hSw); go_simp; try with_reducible rfl
                try simp only [List.getElem_toArray, List.getElem_cons_zero, List.getElem_cons_succ, Act.put, List.setIfInBounds_toArray, List.set_cons_zero, List.set_cons_succ]
                refine wpAnyH_take (i := 4) (v := ?va5) rfl (by kernel_rfl) (by kernel_rfl) (by kernel_rfl) (fun _ _ _ h => h) (Or.inl ⟨by kernel_rfl, ?hya5⟩) (by assumption) ?resta5
                case hya5 => intro w hSw; (try dsimp only at hSw); go_simp; try with_reducible rfl
                try simp only [List.getElem_toArray, List.getElem_cons_zero, List.getElem_cons_succ, Act.put, List.setIfInBounds_toArray, List.set_cons_zero, List.set_cons_succ]
                refine wpAnyH_take (i := 5) (v := ?va6) rfl (by kernel_rfl) (by kernel_rfl) (by kernel_rfl) (fun _ _ _ h => h) (Or.inl ⟨by kernel_rfl, ?hya6⟩) (by assumption) ?resta6
                case hya6 => intro w hSw; (try dsimp only at hSw); go_simp; try with_reducible rfl
                try simp only [List.getElem_toArray, List.getElem_cons_zero, List.getElem_cons_succ, Act.put, List.setIfInBounds_toArray, List.set_cons_zero, List.set_cons_succ]
                refine wpAnyH_take (i := 7) (v := ?va7) rfl (by kernel_rfl) (by kernel_rfl) (by kernel_rfl) (fun _ _ _ h => h) (Or.inl ⟨by kernel_rfl, ?hya7⟩) (by assumption) ?resta7
                case hya7 => intro w hSw; (try dsimp only at hSw); go_simp; try with_reducible rfl
                try simp only [List.getElem_toArray, List.getElem_cons_zero, List.getElem_cons_succ, Act.put, List.setIfInBounds_toArray, List.set_cons_zero, List.set_cons_succ]
                refine wpAnyH_take (i := 8) (v := ?va8) rfl (by kernel_rfl) (by kernel_rfl) (by kernel_rfl) (fun _ _ _ h => h) (Or.inl ⟨by kernel_rfl, ?hya8⟩) (by assumption) ?resta8
                case hya8 => intro w hSw; (try dsimp only at hSw); go_simp; try with_reducible rfl
                try simp only [List.getElem_toArray, List.getElem_cons_zero, List.getElem_cons_succ, Act.put, List.setIfInBounds_toArray, List.set_cons_zero, List.set_cons_succ]
                refine wpAnyH_take (i := 9) (v := ?va9) rfl (by kernel_rfl) (by kernel_rfl) (by kernel_rfl) (fun _ _ _ h => h) (Or.inl ⟨by kernel_rfl, ?hya9⟩) (by assumption) ?resta9
                case hya9 => intro w hSw; (try dsimp only at hSw); go_simp; try with_reducible rfl
                try simp only [List.getElem_toArray, List.getElem_cons_zero, List.getElem_cons_succ, Act.put, List.setIfInBounds_toArray, List.set_cons_zero, List.set_cons_succ]
                refine wpAnyH_take (i := 10) (v := ?va10) rfl (by kernel_rfl) (by kernel_rfl) (by kernel_rfl) (fun _ _ _ h => h) (Or.inl ⟨by kernel_rfl, ?hya10⟩) (by assumption) ?resta10
                case hya10 => intro w hSw; (try dsimp only at hSw); go_simp; try with_reducible rfl
                try simp only [List.getElem_toArray, List.getElem_cons_zero, List.getElem_cons_succ, Act.put, List.setIfInBounds_toArray, List.set_cons_zero, List.set_cons_succ]
                refine wpAnyH_take (i := 11) (v := ?va11) rfl (by kernel_rfl) (by kernel_rfl) (by kernel_rfl) (fun _ _ _ h => h) (Or.inl ⟨by kernel_rfl, ?hya11⟩) (by assumption) ?resta11
                case hya11 => intro w hSw; (try dsimp only at hSw); go_simp; try with_reducible rfl
                try simp only [List.getElem_toArray, List.getElem_cons_zero, List.getElem_cons_succ, Act.put, List.setIfInBounds_toArray, List.set_cons_zero, List.set_cons_succ]
                refine wpAnyH_ready (rs := [6, 12]) (by kernel_rfl) (by simp) ?_
                refine AllReadyH.cons rfl (fun K hK => ?_) (AllReadyH.cons rfl (fun K hK => ?_) AllReadyH.nil)
                · go_simp
                  refine hK.out _ _ (kA) (fun hHeld => ?_)
                  clear hK K
                  try simp only [List.getElem_toArray, List.getElem_cons_zero, List.getElem_cons_succ, Act.put, List.setIfInBounds_toArray, List.set_cons_zero, List.set_cons_succ]
                  refine wpAnyH_ready (rs := [12]) (by kernel_rfl) (by simp) ?_
                  refine AllReadyH.cons rfl (fun K hK => ?_) AllReadyH.nil
                  go_simp
                  refine hK.out _ _ (kB _) (fun hHeld => ?_)
                  clear hK K
                  try simp only [List.getElem_toArray, List.getElem_cons_zero, List.getElem_cons_succ, Act.put, List.setIfInBounds_toArray, List.set_cons_zero, List.set_cons_succ]
                  refine wpAnyH_ready (rs := [13]) (by kernel_rfl) (by simp) ?_
                  refine AllReadyH.cons rfl (fun K hK => ?_) AllReadyH.nil
                  refine step_append_lies _ (by rfl) _ _ _ (by rfl) Bw 47 i1 (.agg #[.string ByteArray.empty, .int .i64 0, .int .i64 0, .int .i64 0]) 4 40 Tryz.underlying37 hi1 hy0 hy1 hy2 rfl (by decide) (.slice ac x.ctx.length cc) x.ctx.length _ (by rfl) HROWX.out ⟨w3.heap.size, 0, none⟩ 1 1 [.string (bs n), .int .i64 va, .int .i64 vb, .int .i64 vc] (by rfl) (by rfl) (World.news_of_block (cs := #[.string (bs n), .int .i64 va, .int .i64 vb, .int .i64 vc]) (t := 47) (fr := (0, 0)) (heap_alloc_new w3 _)) (by simp [Value.oneCell']) (by omega) (by unfold maxLen; omega) (by omega) (by simp; omega) (w3.heap.size + 1) (by simp) ?_
                  intro gn cn w4 hown4 hgrow4 hat4 hlt4
                  have hfree := NodesOwn.ctx_free (by decide) HOWX.out hgrow4
                  have cC := hfree.1
                  have fC := hfree.2
                  have kC : w4.cell? ⟨b2, o2 + 1, none⟩ = some (.string (bs n)) ∧ w4.cell? ⟨w2.heap.size, 0, none⟩ = some (.int .i64 va) ∧ w4.cell? ⟨w2.heap.size, 1, none⟩ = some (.int .i64 vb) ∧ w4.cell? ⟨w2.heap.size, 2, none⟩ = some (.int .i64 vc) := ⟨(hgrow4.cell_far ⟨b2, o2 + 1, none⟩ (by show b2 < _; simp; omega) NEB.out).trans (kB _).1, (hgrow4.cell_far ⟨w2.heap.size, 0, none⟩ (by show w2.heap.size < _; simp; omega) NEV.out).trans (kB _).2.1, (hgrow4.cell_far ⟨w2.heap.size, 1, none⟩ (by show w2.heap.size < _; simp; omega) NEV.out).trans (kB _).2.2.1, (hgrow4.cell_far ⟨w2.heap.size, 2, none⟩ (by show w2.heap.size < _; simp; omega) NEV.out).trans (kB _).2.2.2⟩
                  have kE : (w4.setCell ⟨gg, pre.length * 6 + 4, none⟩ (.slice (some ⟨gn, 0, none⟩) (x.ctx.length + 1) cn)).cell? ⟨b2, o2 + 1, none⟩ = some (.string (bs n)) ∧ (w4.setCell ⟨gg, pre.length * 6 + 4, none⟩ (.slice (some ⟨gn, 0, none⟩) (x.ctx.length + 1) cn)).cell? ⟨w2.heap.size, 0, none⟩ = some (.int .i64 va) ∧ (w4.setCell ⟨gg, pre.length * 6 + 4, none⟩ (.slice (some ⟨gn, 0, none⟩) (x.ctx.length + 1) cn)).cell? ⟨w2.heap.size, 1, none⟩ = some (.int .i64 vb) ∧ (w4.setCell ⟨gg, pre.length * 6 + 4, none⟩ (.slice (some ⟨gn, 0, none⟩) (x.ctx.length + 1) cn)).cell? ⟨w2.heap.size, 2, none⟩ = some (.int .i64 vc) := ⟨(World.cell?_setCell_far w4 ⟨gg, pre.length * 6 + 4, none⟩ ⟨b2, o2 + 1, none⟩ (.slice (some ⟨gn, 0, none⟩) (x.ctx.length + 1) cn) (by show gg ≠ b2; omega)).trans kC.1, (World.cell?_setCell_far w4 ⟨gg, pre.length * 6 + 4, none⟩ ⟨w2.heap.size, 0, none⟩ (.slice (some ⟨gn, 0, none⟩) (x.ctx.length + 1) cn) (by show gg ≠ w2.heap.size; exact fun e => NGV.out (by rw [← e]; rfl))).trans kC.2.1, (World.cell?_setCell_far w4 ⟨gg, pre.length * 6 + 4, none⟩ ⟨w2.heap.size, 1, none⟩ (.slice (some ⟨gn, 0, none⟩) (x.ctx.length + 1) cn) (by show gg ≠ w2.heap.size; exact fun e => NGV.out (by rw [← e]; rfl))).trans kC.2.2.1, (World.cell?_setCell_far w4 ⟨gg, pre.length * 6 + 4, none⟩ ⟨w2.heap.size, 2, none⟩ (.slice (some ⟨gn, 0, none⟩) (x.ctx.length + 1) cn) (by show gg ≠ w2.heap.size; exact fun e => NGV.out (by rw [← e]; rfl))).trans kC.2.2.2⟩
                  have HO4 := Lib.hid hown4
                  have HGR4 := Lib.hid hgrow4
                  clear hown4 hgrow4 hat4 hfree
                  refine hK.out _ _ (kC) (fun hHeld => ?_)
                  clear hK K
                  try simp only [List.getElem_toArray, List.getElem_cons_zero, List.getElem_cons_succ, Act.put, List.setIfInBounds_toArray, List.set_cons_zero, List.set_cons_succ]
                  refine wpAnyH_take (i := 14) (v := ?va12) rfl (by kernel_rfl) (by kernel_rfl) (by kernel_rfl) (fun _ _ _ h => h) (Or.inl ⟨by kernel_rfl, ?hya12⟩) (by assumption) ?resta12
                  case hya12 => intro w hSw; (try dsimp only at hSw); go_simp; try with_reducible rfl
                  try simp only [List.getElem_toArray, List.getElem_cons_zero, List.getElem_cons_succ, Act.put, List.setIfInBounds_toArray, List.set_cons_zero, List.set_cons_succ]
                  refine wpAnyH_take (i := 15) (v := ?va13) rfl (by kernel_rfl) (by kernel_rfl) (by kernel_rfl) (fun _ _ _ h => h) (Or.inl ⟨by kernel_rfl, ?hya13⟩) (by assumption) ?resta13
                  case hya13 => intro w hSw; (try dsimp only at hSw); go_simp; try with_reducible rfl
                  try simp only [List.getElem_toArray, List.getElem_cons_zero, List.getElem_cons_succ, Act.put, List.setIfInBounds_toArray, List.set_cons_zero, List.set_cons_succ]
                  refine wpAnyH_ready (rs := [16]) (by kernel_rfl) (by simp) ?_
                  refine AllReadyH.cons rfl (fun K hK => ?_) AllReadyH.nil
                  go_simp
                  refine hK.out _ _ (kE) (fun hHeld => ?_)
                  clear hK K
                  try simp only [List.getElem_toArray, List.getElem_cons_zero, List.getElem_cons_succ, Act.put, List.setIfInBounds_toArray, List.set_cons_zero, List.set_cons_succ]
                  refine wpAnyH_done (by kernel_rfl) ?_ _
                  clear kA kB kC kE c8B m0 m1 c4 c5 y0 y1 y2
                  have hsx : w3.heap.size + 1 ≤ w4.heap.size := by have := HGR4.out.size; simp at this; omega
                  have hb4 : Below w1.heap.size w1 w4 := ((hbr3.alloc (by omega) _).drew).grown HGR4.out (by simp; omega) (fun g hg => by have := (HROWX.out.lt g hg).1; have := HOWX.out.bw; omega)
                  have HRS4 : Hid (RS (w4.setCell ⟨gg, pre.length * 6 + 4, none⟩ (.slice (some ⟨gn, 0, none⟩) (x.ctx.length + 1) cn)) w1.heap.size (k + 1) (.slice (some ⟨gg, 0, none⟩) (pre.length + 1) cq) (pre ++ [Lock.addPin ⟨n, ⟨va, vb, vc⟩⟩ x])) := Lib.hid (Or.inr ⟨Bw, pre, cs, _, _, _, rfl, NodesOwn.addPin (by decide) (by decide) (by decide) HOWX.out (p := ⟨n, ⟨va, vb, vc⟩⟩) HO4.out HGR4.out, by rw [show (w4.setCell ⟨gg, pre.length * 6 + 4, none⟩ (.slice (some ⟨gn, 0, none⟩) (x.ctx.length + 1) cn)).heap.size = w4.heap.size by simp [World.setCell]]; omega, by show (x.ctx ++ [_]).length ≤ _; rw [List.length_append, List.length_singleton]; omega, by show x.edges.length ≤ _; omega⟩)
                  have HZ4 : Hid (∀ y ∈ pre ++ [Lock.addPin ⟨n, ⟨va, vb, vc⟩⟩ x], NdSize y) := Lib.hid (fun y hy => by
                    rcases List.mem_append.1 hy with hy | hy
                    · exact HZN.out y (by rw [HGP.out]; exact List.mem_append_left _ hy)
                    · simp only [List.mem_singleton] at hy
                      subst hy
                      have hx := HZN.out x (by rw [HGP.out]; exact List.mem_append_right _ List.mem_cons_self)
                      exact ⟨hx.1, by show (x.ctx ++ [_]).length ≤ _; rw [List.length_append, List.length_singleton]; omega, hx.2.2.1, fun p hp => by
                          rcases List.mem_append.1 hp with hp | hp
                          · exact hx.2.2.2.1 p hp
                          · simp only [List.mem_singleton] at hp; subst hp; show n.length ≤ _; omega, hx.2.2.2.2⟩)
                  go_wp2
                  go_roundw
                  case rel => exact ⟨k + 1, pre ++ [Lock.addPin ⟨n, ⟨va, vb, vc⟩⟩ x], by go_num, by omega, Or.inl (by omega), rsteps_next hk1 HST.out HL.out HSTEP.out, by rw [List.length_append]; simp; omega, HZ4.out, HRS4.out, hb4.setCell (p := ⟨gg, pre.length * 6 + 4, none⟩) (by show _ ≤ gg; omega) _⟩
                  case measure => simp [intOf]; omega
                · go_simp
                  refine hK.out _ _ (kB _) (fun hHeld => ?_)
                  clear hK K
                  try simp only [List.getElem_toArray, List.getElem_cons_zero, List.getElem_cons_succ, Act.put, List.setIfInBounds_toArray, List.set_cons_zero, List.set_cons_succ]
                  refine wpAnyH_ready (rs := [6]) (by kernel_rfl) (by simp) ?_
                  refine AllReadyH.cons rfl (fun K hK => ?_) AllReadyH.nil
                  go_simp
                  refine hK.out _ _ (kB _) (fun hHeld => ?_)
                  clear hK K
                  try simp only [List.getElem_toArray, List.getElem_cons_zero, List.getElem_cons_succ, Act.put, List.setIfInBounds_toArray, List.set_cons_zero, List.set_cons_succ]
                  refine wpAnyH_ready (rs := [13]) (by kernel_rfl) (by simp) ?_
                  refine AllReadyH.cons rfl (fun K hK => ?_) AllReadyH.nil
                  refine step_append_lies _ (by rfl) _ _ _ (by rfl) Bw 47 i1 (.agg #[.string ByteArray.empty, .int .i64 0, .int .i64 0, .int .i64 0]) 4 40 Tryz.underlying37 hi1 hy0 hy1 hy2 rfl (by decide) (.slice ac x.ctx.length cc) x.ctx.length _ (by rfl) HROWX.out ⟨w3.heap.size, 0, none⟩ 1 1 [.string (bs n), .int .i64 va, .int .i64 vb, .int .i64 vc] (by rfl) (by rfl) (World.news_of_block (cs := #[.string (bs n), .int .i64 va, .int .i64 vb, .int .i64 vc]) (t := 47) (fr := (0, 0)) (heap_alloc_new w3 _)) (by simp [Value.oneCell']) (by omega) (by unfold maxLen; omega) (by omega) (by simp; omega) (w3.heap.size + 1) (by simp) ?_
                  intro gn cn w4 hown4 hgrow4 hat4 hlt4
                  have hfree := NodesOwn.ctx_free (by decide) HOWX.out hgrow4
                  have cC := hfree.1
                  have fC := hfree.2
                  have kC : w4.cell? ⟨b2, o2 + 1, none⟩ = some (.string (bs n)) ∧ w4.cell? ⟨w2.heap.size, 0, none⟩ = some (.int .i64 va) ∧ w4.cell? ⟨w2.heap.size, 1, none⟩ = some (.int .i64 vb) ∧ w4.cell? ⟨w2.heap.size, 2, none⟩ = some (.int .i64 vc) := ⟨(hgrow4.cell_far ⟨b2, o2 + 1, none⟩ (by show b2 < _; simp; omega) NEB.out).trans (kB _).1, (hgrow4.cell_far ⟨w2.heap.size, 0, none⟩ (by show w2.heap.size < _; simp; omega) NEV.out).trans (kB _).2.1, (hgrow4.cell_far ⟨w2.heap.size, 1, none⟩ (by show w2.heap.size < _; simp; omega) NEV.out).trans (kB _).2.2.1, (hgrow4.cell_far ⟨w2.heap.size, 2, none⟩ (by show w2.heap.size < _; simp; omega) NEV.out).trans (kB _).2.2.2⟩
                  have kE : (w4.setCell ⟨gg, pre.length * 6 + 4, none⟩ (.slice (some ⟨gn, 0, none⟩) (x.ctx.length + 1) cn)).cell? ⟨b2, o2 + 1, none⟩ = some (.string (bs n)) ∧ (w4.setCell ⟨gg, pre.length * 6 + 4, none⟩ (.slice (some ⟨gn, 0, none⟩) (x.ctx.length + 1) cn)).cell? ⟨w2.heap.size, 0, none⟩ = some (.int .i64 va) ∧ (w4.setCell ⟨gg, pre.length * 6 + 4, none⟩ (.slice (some ⟨gn, 0, none⟩) (x.ctx.length + 1) cn)).cell? ⟨w2.heap.size, 1, none⟩ = some (.int .i64 vb) ∧ (w4.setCell ⟨gg, pre.length * 6 + 4, none⟩ (.slice (some ⟨gn, 0, none⟩) (x.ctx.length + 1) cn)).cell? ⟨w2.heap.size, 2, none⟩ = some (.int .i64 vc) := ⟨(World.cell?_setCell_far w4 ⟨gg, pre.length * 6 + 4, none⟩ ⟨b2, o2 + 1, none⟩ (.slice (some ⟨gn, 0, none⟩) (x.ctx.length + 1) cn) (by show gg ≠ b2; omega)).trans kC.1, (World.cell?_setCell_far w4 ⟨gg, pre.length * 6 + 4, none⟩ ⟨w2.heap.size, 0, none⟩ (.slice (some ⟨gn, 0, none⟩) (x.ctx.length + 1) cn) (by show gg ≠ w2.heap.size; exact fun e => NGV.out (by rw [← e]; rfl))).trans kC.2.1, (World.cell?_setCell_far w4 ⟨gg, pre.length * 6 + 4, none⟩ ⟨w2.heap.size, 1, none⟩ (.slice (some ⟨gn, 0, none⟩) (x.ctx.length + 1) cn) (by show gg ≠ w2.heap.size; exact fun e => NGV.out (by rw [← e]; rfl))).trans kC.2.2.1, (World.cell?_setCell_far w4 ⟨gg, pre.length * 6 + 4, none⟩ ⟨w2.heap.size, 2, none⟩ (.slice (some ⟨gn, 0, none⟩) (x.ctx.length + 1) cn) (by show gg ≠ w2.heap.size; exact fun e => NGV.out (by rw [← e]; rfl))).trans kC.2.2.2⟩
                  have HO4 := Lib.hid hown4
                  have HGR4 := Lib.hid hgrow4
                  clear hown4 hgrow4 hat4 hfree
                  refine hK.out _ _ (kC) (fun hHeld => ?_)
                  clear hK K
                  try simp only [List.getElem_toArray, List.getElem_cons_zero, List.getElem_cons_succ, Act.put, List.setIfInBounds_toArray, List.set_cons_zero, List.set_cons_succ]
                  refine wpAnyH_take (i := 14) (v := ?va14) rfl (by kernel_rfl) (by kernel_rfl) (by kernel_rfl) (fun _ _ _ h => h) (Or.inl ⟨by kernel_rfl, ?hya14⟩) (by assumption) ?resta14
                  case hya14 => intro w hSw; (try dsimp only at hSw); go_simp; try with_reducible rfl
                  try simp only [List.getElem_toArray, List.getElem_cons_zero, List.getElem_cons_succ, Act.put, List.setIfInBounds_toArray, List.set_cons_zero, List.set_cons_succ]
                  refine wpAnyH_take (i := 15) (v := ?va15) rfl (by kernel_rfl) (by kernel_rfl) (by kernel_rfl) (fun _ _ _ h => h) (Or.inl ⟨by kernel_rfl, ?hya15⟩) (by assumption) ?resta15
                  case hya15 => intro w hSw; (try dsimp only at hSw); go_simp; try with_reducible rfl
                  try simp only [List.getElem_toArray, List.getElem_cons_zero, List.getElem_cons_succ, Act.put, List.setIfInBounds_toArray, List.set_cons_zero, List.set_cons_succ]
                  refine wpAnyH_ready (rs := [16]) (by kernel_rfl) (by simp) ?_
                  refine AllReadyH.cons rfl (fun K hK => ?_) AllReadyH.nil
                  go_simp
                  refine hK.out _ _ (kE) (fun hHeld => ?_)
                  clear hK K
                  try simp only [List.getElem_toArray, List.getElem_cons_zero, List.getElem_cons_succ, Act.put, List.setIfInBounds_toArray, List.set_cons_zero, List.set_cons_succ]
                  refine wpAnyH_done (by kernel_rfl) ?_ _
                  clear kA kB kC kE c8B m0 m1 c4 c5 y0 y1 y2
                  have hsx : w3.heap.size + 1 ≤ w4.heap.size := by have := HGR4.out.size; simp at this; omega
                  have hb4 : Below w1.heap.size w1 w4 := ((hbr3.alloc (by omega) _).drew).grown HGR4.out (by simp; omega) (fun g hg => by have := (HROWX.out.lt g hg).1; have := HOWX.out.bw; omega)
                  have HRS4 : Hid (RS (w4.setCell ⟨gg, pre.length * 6 + 4, none⟩ (.slice (some ⟨gn, 0, none⟩) (x.ctx.length + 1) cn)) w1.heap.size (k + 1) (.slice (some ⟨gg, 0, none⟩) (pre.length + 1) cq) (pre ++ [Lock.addPin ⟨n, ⟨va, vb, vc⟩⟩ x])) := Lib.hid (Or.inr ⟨Bw, pre, cs, _, _, _, rfl, NodesOwn.addPin (by decide) (by decide) (by decide) HOWX.out (p := ⟨n, ⟨va, vb, vc⟩⟩) HO4.out HGR4.out, by rw [show (w4.setCell ⟨gg, pre.length * 6 + 4, none⟩ (.slice (some ⟨gn, 0, none⟩) (x.ctx.length + 1) cn)).heap.size = w4.heap.size by simp [World.setCell]]; omega, by show (x.ctx ++ [_]).length ≤ _; rw [List.length_append, List.length_singleton]; omega, by show x.edges.length ≤ _; omega⟩)
                  have HZ4 : Hid (∀ y ∈ pre ++ [Lock.addPin ⟨n, ⟨va, vb, vc⟩⟩ x], NdSize y) := Lib.hid (fun y hy => by
                    rcases List.mem_append.1 hy with hy | hy
                    · exact HZN.out y (by rw [HGP.out]; exact List.mem_append_left _ hy)
                    · simp only [List.mem_singleton] at hy
                      subst hy
                      have hx := HZN.out x (by rw [HGP.out]; exact List.mem_append_right _ List.mem_cons_self)
                      exact ⟨hx.1, by show (x.ctx ++ [_]).length ≤ _; rw [List.length_append, List.length_singleton]; omega, hx.2.2.1, fun p hp => by
                          rcases List.mem_append.1 hp with hp | hp
                          · exact hx.2.2.2.1 p hp
                          · simp only [List.mem_singleton] at hp; subst hp; show n.length ≤ _; omega, hx.2.2.2.2⟩)
                  go_wp2
                  go_roundw
                  case rel => exact ⟨k + 1, pre ++ [Lock.addPin ⟨n, ⟨va, vb, vc⟩⟩ x], by go_num, by omega, Or.inl (by omega), rsteps_next hk1 HST.out HL.out HSTEP.out, by rw [List.length_append]; simp; omega, HZ4.out, HRS4.out, hb4.setCell (p := ⟨gg, pre.length * 6 + 4, none⟩) (by show _ ≤ gg; omega) _⟩
                  case measure => simp [intOf]; omega
              · have x3 : ((bs kw).toList == [119, 105, 116, 104]) = false := by rw [lit_eq]; exact decide_eq_false hwith
                have HSTEP : Hid (rstep g [kw, n, t] = some (pre ++ [Lock.addEdge ⟨n, nn⟩ x])) := Lib.hid (by rw [HGP.out, rstep_to hroot hnode hwith, HNUM.out])
                clear hwith hroot hnode
                have hpi : ((pre.length : Nat) : Int) < (pre.length : Int) + 1 := by omega
                go_wp2
                have kA : w3.cell? ⟨b2, o2 + 1, none⟩ = some (.string (bs n)) := m1
                have kB : ∀ o, (w3.alloc o).cell? ⟨b2, o2 + 1, none⟩ = some (.string (bs n)) := fun o => (by rw [World.cell?_alloc_old _ _ _ (by show b2 ≠ _; omega)]; exact m1)
                have c8B : ∀ o, (w3.alloc o).cell? ⟨gg, pre.length * 6 + 5, none⟩ = some (.slice ae x.edges.length ec) := fun o => by rw [World.cell?_alloc_old _ _ _ (by show gg ≠ _; omega)]; exact c5
                have HOWX : Hid (NOwn (w3.alloc (.cells #[.string (bs n), .int .i64 nn] 49)).drew w1.heap.size Bw (.slice (some ⟨gg, 0, none⟩) (pre.length + 1) cq) pre cs x (.slice ac x.ctx.length cc) (.slice ae x.edges.length ec)) := Lib.hid ((HOWN3.out.alloc _).drew)
                have HROWX : Hid ((w3.alloc (.cells #[.string (bs n), .int .i64 nn] 49)).drew.ownsRow Bw 49 2 (.slice ae x.edges.length ec) x.edges.length ((x.edges.map edgeCells).flatten)) := Lib.hid HOWX.out.edges
                have NEV : Hid (some w2.heap.size ≠ (Value.slice ae x.edges.length ec).ownBlock) := Lib.hid (own_far' HOWN3.out.edges HV3.out (by decide))
                have NEB : Hid (some b2 ≠ (Value.slice ae x.edges.length ec).ownBlock) := Lib.hid (fun e => by have := (HROWX.out.lt b2 e.symm).1; have := HOWX.out.bw; omega)
                have NGV : Hid (some w2.heap.size ≠ (Value.slice (some ⟨gg, 0, none⟩) (pre.length + 1) cq).ownBlock) := Lib.hid (own_far' HOWN3.out.row HV3.out (by decide))
                refine wp_region_held_drew (S := fun w' => w'.cell? ⟨b2, o2 + 1, none⟩ = some (.string (bs n))) (by kernel_rfl) kA (fun hHeld => ?_)
                refine wpAnyH_take (i := 0) (v := ?va16) rfl (by kernel_rfl) (by kernel_rfl) (by kernel_rfl) (fun _ _ _ h => h) (Or.inl ⟨by kernel_rfl, ?hya16⟩) (by assumption) ?resta16
                case hya16 => intro w hSw; (try dsimp only at hSw); go_simp; try with_reducible rfl
                try simp only [List.getElem_toArray, List.getElem_cons_zero, List.getElem_cons_succ, Act.put, List.setIfInBounds_toArray, List.set_cons_zero, List.set_cons_succ]
                refine wpAnyH_take (i := 1) (v := ?va17) rfl (by kernel_rfl) (by kernel_rfl) (by kernel_rfl) (fun _ _ _ h => h) (Or.inl ⟨by kernel_rfl, ?hya17⟩) (by assumption) ?resta17
                case hya17 => intro w hSw; (try dsimp only at hSw); go_simp; try with_reducible rfl
                try simp only [List.getElem_toArray, List.getElem_cons_zero, List.getElem_cons_succ, Act.put, List.setIfInBounds_toArray, List.set_cons_zero, List.set_cons_succ]
                refine wpAnyH_take (i := 2) (v := ?va18) rfl (by kernel_rfl) (by kernel_rfl) (by kernel_rfl) (fun _ _ _ h => h) (Or.inl ⟨by kernel_rfl, ?hya18⟩) (by assumption) ?resta18
                case hya18 => intro w hSw; (try dsimp only at hSw); go_simp; try with_reducible rfl
                try simp only [List.getElem_toArray, List.getElem_cons_zero, List.getElem_cons_succ, Act.put, List.setIfInBounds_toArray, List.set_cons_zero, List.set_cons_succ]
                refine wpAnyH_take (i := 3) (v := ?va19) rfl (by kernel_rfl) (by kernel_rfl) (by kernel_rfl) (fun _ _ _ h => h) (Or.inl ⟨by kernel_rfl, ?hya19⟩) (by assumption) ?resta19
                case hya19 => intro w hSw; (try dsimp only at hSw); go_simp; try with_reducible rfl
                try simp only [List.getElem_toArray, List.getElem_cons_zero, List.getElem_cons_succ, Act.put, List.setIfInBounds_toArray, List.set_cons_zero, List.set_cons_succ]
                refine wpAnyH_take (i := 4) (v := ?va20) rfl (by kernel_rfl) (by kernel_rfl) (by kernel_rfl) (fun _ _ _ h => h) (Or.inl ⟨by kernel_rfl, ?hya20⟩) (by assumption) ?resta20
                case hya20 => intro w hSw; (try dsimp only at hSw); go_simp; try with_reducible rfl
                try simp only [List.getElem_toArray, List.getElem_cons_zero, List.getElem_cons_succ, Act.put, List.setIfInBounds_toArray, List.set_cons_zero, List.set_cons_succ]
                refine wpAnyH_take (i := 5) (v := ?va21) rfl (by kernel_rfl) (by kernel_rfl) (by kernel_rfl) (fun _ _ _ h => h) (Or.inl ⟨by kernel_rfl, ?hya21⟩) (by assumption) ?resta21
                case hya21 => intro w hSw; (try dsimp only at hSw); go_simp; try with_reducible rfl
                try simp only [List.getElem_toArray, List.getElem_cons_zero, List.getElem_cons_succ, Act.put, List.setIfInBounds_toArray, List.set_cons_zero, List.set_cons_succ]
                refine wpAnyH_take (i := 7) (v := ?va22) rfl (by kernel_rfl) (by kernel_rfl) (by kernel_rfl) (fun _ _ _ h => h) (Or.inl ⟨by kernel_rfl, ?hya22⟩) (by assumption) ?resta22
                case hya22 => intro w hSw; (try dsimp only at hSw); go_simp; try with_reducible rfl
                try simp only [List.getElem_toArray, List.getElem_cons_zero, List.getElem_cons_succ, Act.put, List.setIfInBounds_toArray, List.set_cons_zero, List.set_cons_succ]
                refine wpAnyH_take (i := 8) (v := ?va23) rfl (by kernel_rfl) (by kernel_rfl) (by kernel_rfl) (fun _ _ _ h => h) (Or.inl ⟨by kernel_rfl, ?hya23⟩) (by assumption) ?resta23
                case hya23 => intro w hSw; (try dsimp only at hSw); go_simp; try with_reducible rfl
                try simp only [List.getElem_toArray, List.getElem_cons_zero, List.getElem_cons_succ, Act.put, List.setIfInBounds_toArray, List.set_cons_zero, List.set_cons_succ]
                refine wpAnyH_take (i := 9) (v := ?va24) rfl (by kernel_rfl) (by kernel_rfl) (by kernel_rfl) (fun _ _ _ h => h) (Or.inl ⟨by kernel_rfl, ?hya24⟩) (by assumption) ?resta24
                case hya24 => intro w hSw; (try dsimp only at hSw); go_simp; try with_reducible rfl
                try simp only [List.getElem_toArray, List.getElem_cons_zero, List.getElem_cons_succ, Act.put, List.setIfInBounds_toArray, List.set_cons_zero, List.set_cons_succ]
                refine wpAnyH_take (i := 10) (v := ?va25) rfl (by kernel_rfl) (by kernel_rfl) (by kernel_rfl) (fun _ _ _ h => h) (Or.inl ⟨by kernel_rfl, ?hya25⟩) (by assumption) ?resta25
                case hya25 => intro w hSw; (try dsimp only at hSw); go_simp; try with_reducible rfl
                try simp only [List.getElem_toArray, List.getElem_cons_zero, List.getElem_cons_succ, Act.put, List.setIfInBounds_toArray, List.set_cons_zero, List.set_cons_succ]
                refine wpAnyH_take (i := 11) (v := ?va26) rfl (by kernel_rfl) (by kernel_rfl) (by kernel_rfl) (fun _ _ _ h => h) (Or.inl ⟨by kernel_rfl, ?hya26⟩) (by assumption) ?resta26
                case hya26 => intro w hSw; (try dsimp only at hSw); go_simp; try with_reducible rfl
                try simp only [List.getElem_toArray, List.getElem_cons_zero, List.getElem_cons_succ, Act.put, List.setIfInBounds_toArray, List.set_cons_zero, List.set_cons_succ]
                refine wpAnyH_ready (rs := [6, 12]) (by kernel_rfl) (by simp) ?_
                refine AllReadyH.cons rfl (fun K hK => ?_) (AllReadyH.cons rfl (fun K hK => ?_) AllReadyH.nil)
                · go_simp
                  refine hK.out _ _ (kA) (fun hHeld => ?_)
                  clear hK K
                  try simp only [List.getElem_toArray, List.getElem_cons_zero, List.getElem_cons_succ, Act.put, List.setIfInBounds_toArray, List.set_cons_zero, List.set_cons_succ]
                  refine wpAnyH_ready (rs := [12]) (by kernel_rfl) (by simp) ?_
                  refine AllReadyH.cons rfl (fun K hK => ?_) AllReadyH.nil
                  go_simp
                  refine hK.out _ _ (kB _) (fun hHeld => ?_)
                  clear hK K
                  try simp only [List.getElem_toArray, List.getElem_cons_zero, List.getElem_cons_succ, Act.put, List.setIfInBounds_toArray, List.set_cons_zero, List.set_cons_succ]
                  refine wpAnyH_ready (rs := [13]) (by kernel_rfl) (by simp) ?_
                  refine AllReadyH.cons rfl (fun K hK => ?_) AllReadyH.nil
                  refine step_append_lies _ (by rfl) _ _ _ (by rfl) Bw 49 i2 (.agg #[.string ByteArray.empty, .int .i64 0]) 2 24 Tryz.underlying38 hi2 hx0 hx1 hx2 rfl (by decide) (.slice ae x.edges.length ec) x.edges.length _ (by rfl) HROWX.out ⟨w3.heap.size, 0, none⟩ 1 1 [.string (bs n), .int .i64 nn] (by rfl) (by rfl) (World.news_of_block (cs := #[.string (bs n), .int .i64 nn]) (t := 49) (fr := (0, 0)) (heap_alloc_new w3 _)) (by simp [Value.oneCell']) (by omega) (by unfold maxLen; omega) (by omega) (by simp; omega) (w3.heap.size + 1) (by simp) ?_
                  intro gn cn w4 hown4 hgrow4 hat4 hlt4
                  have hfree := NodesOwn.edges_free (by decide) HOWX.out hgrow4
                  have cC := hfree.1
                  have fC := hfree.2
                  have kC : w4.cell? ⟨b2, o2 + 1, none⟩ = some (.string (bs n)) := (hgrow4.cell_far ⟨b2, o2 + 1, none⟩ (by show b2 < _; simp; omega) NEB.out).trans (kB _)
                  have kE : (w4.setCell ⟨gg, pre.length * 6 + 5, none⟩ (.slice (some ⟨gn, 0, none⟩) (x.edges.length + 1) cn)).cell? ⟨b2, o2 + 1, none⟩ = some (.string (bs n)) := (World.cell?_setCell_far w4 ⟨gg, pre.length * 6 + 5, none⟩ ⟨b2, o2 + 1, none⟩ (.slice (some ⟨gn, 0, none⟩) (x.edges.length + 1) cn) (by show gg ≠ b2; omega)).trans kC
                  have HO4 := Lib.hid hown4
                  have HGR4 := Lib.hid hgrow4
                  clear hown4 hgrow4 hat4 hfree
                  refine hK.out _ _ (kC) (fun hHeld => ?_)
                  clear hK K
                  try simp only [List.getElem_toArray, List.getElem_cons_zero, List.getElem_cons_succ, Act.put, List.setIfInBounds_toArray, List.set_cons_zero, List.set_cons_succ]
                  refine wpAnyH_take (i := 14) (v := ?va27) rfl (by kernel_rfl) (by kernel_rfl) (by kernel_rfl) (fun _ _ _ h => h) (Or.inl ⟨by kernel_rfl, ?hya27⟩) (by assumption) ?resta27
                  case hya27 => intro w hSw; (try dsimp only at hSw); go_simp; try with_reducible rfl
                  try simp only [List.getElem_toArray, List.getElem_cons_zero, List.getElem_cons_succ, Act.put, List.setIfInBounds_toArray, List.set_cons_zero, List.set_cons_succ]
                  refine wpAnyH_take (i := 15) (v := ?va28) rfl (by kernel_rfl) (by kernel_rfl) (by kernel_rfl) (fun _ _ _ h => h) (Or.inl ⟨by kernel_rfl, ?hya28⟩) (by assumption) ?resta28
                  case hya28 => intro w hSw; (try dsimp only at hSw); go_simp; try with_reducible rfl
                  try simp only [List.getElem_toArray, List.getElem_cons_zero, List.getElem_cons_succ, Act.put, List.setIfInBounds_toArray, List.set_cons_zero, List.set_cons_succ]
                  refine wpAnyH_ready (rs := [16]) (by kernel_rfl) (by simp) ?_
                  refine AllReadyH.cons rfl (fun K hK => ?_) AllReadyH.nil
                  go_simp
                  refine hK.out _ _ (kE) (fun hHeld => ?_)
                  clear hK K
                  try simp only [List.getElem_toArray, List.getElem_cons_zero, List.getElem_cons_succ, Act.put, List.setIfInBounds_toArray, List.set_cons_zero, List.set_cons_succ]
                  refine wpAnyH_done (by kernel_rfl) ?_ _
                  clear kA kB kC kE c8B m0 m1 c4 c5 y0 y1 y2
                  have hsx : w3.heap.size + 1 ≤ w4.heap.size := by have := HGR4.out.size; simp at this; omega
                  have hb4 : Below w1.heap.size w1 w4 := ((hbr3.alloc (by omega) _).drew).grown HGR4.out (by simp; omega) (fun g hg => by have := (HROWX.out.lt g hg).1; have := HOWX.out.bw; omega)
                  have HRS4 : Hid (RS (w4.setCell ⟨gg, pre.length * 6 + 5, none⟩ (.slice (some ⟨gn, 0, none⟩) (x.edges.length + 1) cn)) w1.heap.size (k + 1) (.slice (some ⟨gg, 0, none⟩) (pre.length + 1) cq) (pre ++ [Lock.addEdge ⟨n, nn⟩ x])) := Lib.hid (Or.inr ⟨Bw, pre, cs, _, _, _, rfl, NodesOwn.addEdge (by decide) (by decide) (by decide) HOWX.out (p := ⟨n, nn⟩) HO4.out HGR4.out, by rw [show (w4.setCell ⟨gg, pre.length * 6 + 5, none⟩ (.slice (some ⟨gn, 0, none⟩) (x.edges.length + 1) cn)).heap.size = w4.heap.size by simp [World.setCell]]; omega, by show x.ctx.length ≤ _; omega, by show (x.edges ++ [_]).length ≤ _; rw [List.length_append, List.length_singleton]; omega⟩)
                  have HZ4 : Hid (∀ y ∈ pre ++ [Lock.addEdge ⟨n, nn⟩ x], NdSize y) := Lib.hid (fun y hy => by
                    rcases List.mem_append.1 hy with hy | hy
                    · exact HZN.out y (by rw [HGP.out]; exact List.mem_append_left _ hy)
                    · simp only [List.mem_singleton] at hy
                      subst hy
                      have hx := HZN.out x (by rw [HGP.out]; exact List.mem_append_right _ List.mem_cons_self)
                      exact ⟨hx.1, hx.2.1, by show (x.edges ++ [_]).length ≤ _; rw [List.length_append, List.length_singleton]; omega, hx.2.2.2.1, fun p hp => by
                          rcases List.mem_append.1 hp with hp | hp
                          · exact hx.2.2.2.2 p hp
                          · simp only [List.mem_singleton] at hp; subst hp; show n.length ≤ _; omega⟩)
                  go_wp2
                  go_roundw
                  case rel => exact ⟨k + 1, pre ++ [Lock.addEdge ⟨n, nn⟩ x], by go_num, by omega, Or.inl (by omega), rsteps_next hk1 HST.out HL.out HSTEP.out, by rw [List.length_append]; simp; omega, HZ4.out, HRS4.out, hb4.setCell (p := ⟨gg, pre.length * 6 + 5, none⟩) (by show _ ≤ gg; omega) _⟩
                  case measure => simp [intOf]; omega
                · go_simp
                  refine hK.out _ _ (kB _) (fun hHeld => ?_)
                  clear hK K
                  try simp only [List.getElem_toArray, List.getElem_cons_zero, List.getElem_cons_succ, Act.put, List.setIfInBounds_toArray, List.set_cons_zero, List.set_cons_succ]
                  refine wpAnyH_ready (rs := [6]) (by kernel_rfl) (by simp) ?_
                  refine AllReadyH.cons rfl (fun K hK => ?_) AllReadyH.nil
                  go_simp
                  refine hK.out _ _ (kB _) (fun hHeld => ?_)
                  clear hK K
                  try simp only [List.getElem_toArray, List.getElem_cons_zero, List.getElem_cons_succ, Act.put, List.setIfInBounds_toArray, List.set_cons_zero, List.set_cons_succ]
                  refine wpAnyH_ready (rs := [13]) (by kernel_rfl) (by simp) ?_
                  refine AllReadyH.cons rfl (fun K hK => ?_) AllReadyH.nil
                  refine step_append_lies _ (by rfl) _ _ _ (by rfl) Bw 49 i2 (.agg #[.string ByteArray.empty, .int .i64 0]) 2 24 Tryz.underlying38 hi2 hx0 hx1 hx2 rfl (by decide) (.slice ae x.edges.length ec) x.edges.length _ (by rfl) HROWX.out ⟨w3.heap.size, 0, none⟩ 1 1 [.string (bs n), .int .i64 nn] (by rfl) (by rfl) (World.news_of_block (cs := #[.string (bs n), .int .i64 nn]) (t := 49) (fr := (0, 0)) (heap_alloc_new w3 _)) (by simp [Value.oneCell']) (by omega) (by unfold maxLen; omega) (by omega) (by simp; omega) (w3.heap.size + 1) (by simp) ?_
                  intro gn cn w4 hown4 hgrow4 hat4 hlt4
                  have hfree := NodesOwn.edges_free (by decide) HOWX.out hgrow4
                  have cC := hfree.1
                  have fC := hfree.2
                  have kC : w4.cell? ⟨b2, o2 + 1, none⟩ = some (.string (bs n)) := (hgrow4.cell_far ⟨b2, o2 + 1, none⟩ (by show b2 < _; simp; omega) NEB.out).trans (kB _)
                  have kE : (w4.setCell ⟨gg, pre.length * 6 + 5, none⟩ (.slice (some ⟨gn, 0, none⟩) (x.edges.length + 1) cn)).cell? ⟨b2, o2 + 1, none⟩ = some (.string (bs n)) := (World.cell?_setCell_far w4 ⟨gg, pre.length * 6 + 5, none⟩ ⟨b2, o2 + 1, none⟩ (.slice (some ⟨gn, 0, none⟩) (x.edges.length + 1) cn) (by show gg ≠ b2; omega)).trans kC
                  have HO4 := Lib.hid hown4
                  have HGR4 := Lib.hid hgrow4
                  clear hown4 hgrow4 hat4 hfree
                  refine hK.out _ _ (kC) (fun hHeld => ?_)
                  clear hK K
                  try simp only [List.getElem_toArray, List.getElem_cons_zero, List.getElem_cons_succ, Act.put, List.setIfInBounds_toArray, List.set_cons_zero, List.set_cons_succ]
                  refine wpAnyH_take (i := 14) (v := ?va29) rfl (by kernel_rfl) (by kernel_rfl) (by kernel_rfl) (fun _ _ _ h => h) (Or.inl ⟨by kernel_rfl, ?hya29⟩) (by assumption) ?resta29
                  case hya29 => intro w hSw; (try dsimp only at hSw); go_simp; try with_reducible rfl
                  try simp only [List.getElem_toArray, List.getElem_cons_zero, List.getElem_cons_succ, Act.put, List.setIfInBounds_toArray, List.set_cons_zero, List.set_cons_succ]
                  refine wpAnyH_take (i := 15) (v := ?va30) rfl (by kernel_rfl) (by kernel_rfl) (by kernel_rfl) (fun _ _ _ h => h) (Or.inl ⟨by kernel_rfl, ?hya30⟩) (by assumption) ?resta30
                  case hya30 => intro w hSw; (try dsimp only at hSw); go_simp; try with_reducible rfl
                  try simp only [List.getElem_toArray, List.getElem_cons_zero, List.getElem_cons_succ, Act.put, List.setIfInBounds_toArray, List.set_cons_zero, List.set_cons_succ]
                  refine wpAnyH_ready (rs := [16]) (by kernel_rfl) (by simp) ?_
                  refine AllReadyH.cons rfl (fun K hK => ?_) AllReadyH.nil
                  go_simp
                  refine hK.out _ _ (kE) (fun hHeld => ?_)
                  clear hK K
                  try simp only [List.getElem_toArray, List.getElem_cons_zero, List.getElem_cons_succ, Act.put, List.setIfInBounds_toArray, List.set_cons_zero, List.set_cons_succ]
                  refine wpAnyH_done (by kernel_rfl) ?_ _
                  clear kA kB kC kE c8B m0 m1 c4 c5 y0 y1 y2
                  have hsx : w3.heap.size + 1 ≤ w4.heap.size := by have := HGR4.out.size; simp at this; omega
                  have hb4 : Below w1.heap.size w1 w4 := ((hbr3.alloc (by omega) _).drew).grown HGR4.out (by simp; omega) (fun g hg => by have := (HROWX.out.lt g hg).1; have := HOWX.out.bw; omega)
                  have HRS4 : Hid (RS (w4.setCell ⟨gg, pre.length * 6 + 5, none⟩ (.slice (some ⟨gn, 0, none⟩) (x.edges.length + 1) cn)) w1.heap.size (k + 1) (.slice (some ⟨gg, 0, none⟩) (pre.length + 1) cq) (pre ++ [Lock.addEdge ⟨n, nn⟩ x])) := Lib.hid (Or.inr ⟨Bw, pre, cs, _, _, _, rfl, NodesOwn.addEdge (by decide) (by decide) (by decide) HOWX.out (p := ⟨n, nn⟩) HO4.out HGR4.out, by rw [show (w4.setCell ⟨gg, pre.length * 6 + 5, none⟩ (.slice (some ⟨gn, 0, none⟩) (x.edges.length + 1) cn)).heap.size = w4.heap.size by simp [World.setCell]]; omega, by show x.ctx.length ≤ _; omega, by show (x.edges ++ [_]).length ≤ _; rw [List.length_append, List.length_singleton]; omega⟩)
                  have HZ4 : Hid (∀ y ∈ pre ++ [Lock.addEdge ⟨n, nn⟩ x], NdSize y) := Lib.hid (fun y hy => by
                    rcases List.mem_append.1 hy with hy | hy
                    · exact HZN.out y (by rw [HGP.out]; exact List.mem_append_left _ hy)
                    · simp only [List.mem_singleton] at hy
                      subst hy
                      have hx := HZN.out x (by rw [HGP.out]; exact List.mem_append_right _ List.mem_cons_self)
                      exact ⟨hx.1, hx.2.1, by show (x.edges ++ [_]).length ≤ _; rw [List.length_append, List.length_singleton]; omega, hx.2.2.2.1, fun p hp => by
                          rcases List.mem_append.1 hp with hp | hp
                          · exact hx.2.2.2.2 p hp
                          · simp only [List.mem_singleton] at hp; subst hp; show n.length ≤ _; omega⟩)
                  go_wp2
                  go_roundw
                  case rel => exact ⟨k + 1, pre ++ [Lock.addEdge ⟨n, nn⟩ x], by go_num, by omega, Or.inl (by omega), rsteps_next hk1 HST.out HL.out HSTEP.out, by rw [List.length_append]; simp; omega, HZ4.out, HRS4.out, hb4.setCell (p := ⟨gg, pre.length * 6 + 5, none⟩) (by show _ ≤ gg; omega) _⟩
                  case measure => simp [intOf]; omega
        · have hq3 : ¬ ((M : Nat) : Int) = 3 := by omega
          have HF : Hid (Lock.rparse s.data.toList = (22, [])) := Lib.hid (by rw [HP.out]; exact rrest_none (rsteps_stop hk1 HST.out HL.out (rstep_few hroot (by rw [← HM.out]; exact h3))))
          clear h3 hroot
          have hrz : wo.heap[w.heap.size]? = some (.cells #[.slice none 0 0] 24 (0, 0)) := heap_below hBr (heap_lt HR1.out) HR1.out
          have c2 : wo.cell? ⟨w.heap.size, 0, none⟩ = some (.slice none 0 0) := by rw [Go.Lib.cell_of_heap hrz]; rfl
          have f2 : wo.frozen? ⟨w.heap.size, 0, none⟩ = false := Go.Lib.frozen_of_heap hrz 0
          have c3 : (wo.setCell ⟨w.heap.size, 0, none⟩ (.slice none 0 0)).cell? ⟨w.heap.size, 0, none⟩ = some (.slice none 0 0) := World.cell?_setCell_same _ _ _ c2
          clear hrz
          go_wp2
          refine bodyPost_ret (v := .tuple #[.agg #[.slice none 0 0], .int .i64 22]) (by simp [results, Tryz.results5, go_sem, c3]) rfl ?_
          exact RParsePost.out HF.out HW1.out hBr HR1.out (NodesAt.nil _ _) ⟨0, 0, Or.inl ⟨rfl, rfl⟩⟩
    · have hst2 := HST.out
      rw [List.take_of_length_le (by have := HN.out; omega)] at hst2
      have HST2 := Lib.hid hst2
      have hgln : g.length ≤ 4611686018427387904 := by omega
      obtain ⟨xs, hrow, _⟩ := HRS.out.row
      obtain ⟨aq, cq, rfl⟩ := own_form hrow
      have HMAY : Hid (∀ W, Below wo.heap.size wo W → Calls Tryz.prog 15 #[.agg #[.slice aq g.length cq]] W fun e w' => e = .returned (.bool (may g)) ∧ Below W.heap.size W w') := Lib.hid (fun W hW => rMay_any W _ g (HRS.out.below hW).at HZN.out hgln)
      have HTEX : Hid (may g = true → ∀ W, Below wo.heap.size wo W → Calls Tryz.prog 16 #[.agg #[.slice aq g.length cq]] W fun e w' => e = .returned (.string (bs (text g))) ∧ Below W.heap.size W w') := Lib.hid (fun hm W hW => rtext_any W _ g (HRS.out.below hW).at hm)
      obtain ⟨ng, hng⟩ : ∃ y, y = g.length := ⟨_, rfl⟩
      have HNG := Lib.hid hng
      rw [← hng] at HMAY HTEX hgl hgln ⊢
      have hkn : ¬ (k : Int) < (N : Int) := by omega
      obtain ⟨wa, hwa⟩ : ∃ y, y = wo.alloc (.cells #[.slice aq ng cq] 24) := ⟨_, rfl⟩
      have hba : Below wo.heap.size wo wa := by rw [hwa]; exact (Below.refl _ _).alloc (Nat.le_refl _) _
      have hza : wo.heap.size < wa.heap.size := by rw [hwa, World.size_alloc]; omega
      have hga : wa.heap[wo.heap.size]? = some (.cells #[.slice aq ng cq] 24 (0, 0)) := by rw [hwa]; exact heap_alloc_new wo _
      have HWA := Lib.hid hwa
      clear hwa hst2 hrow hng
      go_wp2_with fail
      rw [← HWA.out]
      refine (HMAY.out _ hba).mono ?_
      rintro e w4 ⟨rfl, hb4⟩
      have hbo4 : Below wo.heap.size wo w4 := hba.trans (hb4.mono hba.size)
      have HB4 : Hid (Below w1.heap.size w1 w4) := Lib.hid (hBr.trans (hbo4.mono hzo))
      have hg4 := heap_below hb4 hza hga
      have hz4 := hb4.size
      have c9 : w4.cell? ⟨wo.heap.size, 0, none⟩ = some (.slice aq ng cq) := by rw [Go.Lib.cell_of_heap hg4]; rfl
      cases hm : may g
      · have HF : Hid (Lock.rparse s.data.toList = (22, [])) := Lib.hid (by rw [HP.out]; exact rrest_no HST2.out (fun h => by rw [hm] at h; exact absurd h.1 (by simp)))
        clear hm
        have hrz : w4.heap[w.heap.size]? = some (.cells #[.slice none 0 0] 24 (0, 0)) := heap_below HB4.out (heap_lt HR1.out) HR1.out
        have c2 : w4.cell? ⟨w.heap.size, 0, none⟩ = some (.slice none 0 0) := by rw [Go.Lib.cell_of_heap hrz]; rfl
        have f2 : w4.frozen? ⟨w.heap.size, 0, none⟩ = false := Go.Lib.frozen_of_heap hrz 0
        have c3 : (w4.setCell ⟨w.heap.size, 0, none⟩ (.slice none 0 0)).cell? ⟨w.heap.size, 0, none⟩ = some (.slice none 0 0) := World.cell?_setCell_same _ _ _ c2
        clear hrz
        go_wp2
        refine bodyPost_ret (v := .tuple #[.agg #[.slice none 0 0], .int .i64 22]) (by simp [results, Tryz.results5, go_sem, c3]) rfl ?_
        exact RParsePost.out HF.out HW1.out HB4.out HR1.out (NodesAt.nil _ _) ⟨0, 0, Or.inl ⟨rfl, rfl⟩⟩
      · have HTX := Lib.hid (HTEX.out hm)
        have hq : ((bs (text g)).toList == s.toList) = decide (text g = s.data.toList) := by
          rw [bs_toList, ByteArray.toList_eq, Bool.eq_iff_iff]; simp
        go_wp2_with fail
        refine (HTX.out _ hbo4).mono ?_
        rintro e w5 ⟨rfl, hb5⟩
        have hbo5 : Below wo.heap.size wo w5 := hbo4.trans (hb5.mono hbo4.size)
        have HB5 : Hid (Below w1.heap.size w1 w5) := Lib.hid (hBr.trans (hbo5.mono hzo))
        have hg5 := heap_below hb5 (by omega) hg4
        have c10 : w5.cell? ⟨wo.heap.size, 0, none⟩ = some (.slice aq ng cq) := by rw [Go.Lib.cell_of_heap hg5]; rfl
        have HRS5 := Lib.hid (HRS.out.below hbo5)
        rw [← HNG.out] at HRS5
        clear hg4 hg5 hga c9
        by_cases ht : text g = s.data.toList
        · have HF : Hid (Lock.rparse s.data.toList = (0, g)) := Lib.hid (by rw [HP.out]; exact rrest_yes HST2.out hm ht)
          rw [decide_eq_true ht] at hq
          have hq2 : ((bs (text g)).toList != s.toList) = false := by rw [bne, hq]; rfl
          have hrz : w5.heap[w.heap.size]? = some (.cells #[.slice none 0 0] 24 (0, 0)) := heap_below HB5.out (heap_lt HR1.out) HR1.out
          have c2 : w5.cell? ⟨w.heap.size, 0, none⟩ = some (.slice none 0 0) := by rw [Go.Lib.cell_of_heap hrz]; rfl
          have f2 : w5.frozen? ⟨w.heap.size, 0, none⟩ = false := Go.Lib.frozen_of_heap hrz 0
          have c3 : (w5.setCell ⟨w.heap.size, 0, none⟩ (.slice aq ng cq)).cell? ⟨w.heap.size, 0, none⟩ = some (.slice aq ng cq) := World.cell?_setCell_same _ _ _ c2
          clear hrz hm ht
          go_wp2
          refine bodyPost_ret (v := .tuple #[.agg #[.slice aq ng cq], .int .i64 0]) (by simp [results, Tryz.results5, go_sem, c3]) rfl ?_
          exact RParsePost.out HF.out HW1.out HB5.out HR1.out HRS5.out.at ⟨_, _, HRS5.out⟩
        · have HF : Hid (Lock.rparse s.data.toList = (22, [])) := Lib.hid (by rw [HP.out]; exact rrest_no HST2.out (fun h => ht h.2))
          rw [decide_eq_false ht] at hq
          have hq2 : ((bs (text g)).toList != s.toList) = true := by rw [bne, hq]; rfl
          clear hm ht
          have hrz : w5.heap[w.heap.size]? = some (.cells #[.slice none 0 0] 24 (0, 0)) := heap_below HB5.out (heap_lt HR1.out) HR1.out
          have c2 : w5.cell? ⟨w.heap.size, 0, none⟩ = some (.slice none 0 0) := by rw [Go.Lib.cell_of_heap hrz]; rfl
          have f2 : w5.frozen? ⟨w.heap.size, 0, none⟩ = false := Go.Lib.frozen_of_heap hrz 0
          have c3 : (w5.setCell ⟨w.heap.size, 0, none⟩ (.slice none 0 0)).cell? ⟨w.heap.size, 0, none⟩ = some (.slice none 0 0) := World.cell?_setCell_same _ _ _ c2
          clear hrz
          go_wp2
          refine bodyPost_ret (v := .tuple #[.agg #[.slice none 0 0], .int .i64 22]) (by simp [results, Tryz.results5, go_sem, c3]) rfl ?_
          exact RParsePost.out HF.out HW1.out HB5.out HR1.out (NodesAt.nil _ _) ⟨0, 0, Or.inl ⟨rfl, rfl⟩⟩
end Go.Proofs.YtjiifieafnjpgaaGreatDoor
