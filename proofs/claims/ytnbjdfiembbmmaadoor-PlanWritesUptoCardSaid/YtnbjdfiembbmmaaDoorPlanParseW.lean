/- plan.Parse: the walk. -/
import Derived.Test.YtnbjdfiembbmmaaDoorPlanParseA
namespace Go.Proofs.YtnbjdfiembbmmaaDoor
open Go.RowKit
set_option linter.unusedSimpArgs false
set_option linter.unusedVariables false
set_option maxHeartbeats 12000000 in
set_option maxRecDepth 100000 in
theorem parse_any (s : ByteArray) (hs : s.size ≤ 3500000000000) (w : World) :
    Calls Tryd.prog 17 #[.string s] w (ParsePost s.data.toList w) := by
  by_cases hno : ∀ r, Scan.spec s.data.toList ≠ .inr ([Plan.planW] :: r)
  · exact parse_few s hs w hno
  obtain ⟨h, r, hsp, hplan⟩ : ∃ h r, Scan.spec s.data.toList = .inr (h :: r) ∧ h = [Plan.planW] := by
    simp only [ne_eq, Classical.not_forall, Classical.not_not] at hno
    obtain ⟨r, hr⟩ := hno
    exact ⟨_, r, hr, rfl⟩
  clear hno
  obtain ⟨ls, hls⟩ : ∃ ls, ls = h :: r := ⟨_, rfl⟩
  rw [← hls] at hsp
  obtain ⟨i0, hi, hz0, hz1, hz2⟩ := info_parts infoDeed
  have HA := Lib.hid (ans_ok (s := s) (most := s.size) (by omega) hsp)
  have hz := Scan.ans_sizes s s.size
  rw [HA.out] at hz
  have HZ := Lib.hid hz.2
  have hlen : ls.length ≤ 3500000000001 := by have : ls.length ≤ s.size + 1 := hz.1; omega
  clear hz
  subst hls
  obtain ⟨N, hN⟩ : ∃ N, N = (h :: r).length := ⟨_, rfl⟩
  have hNr : N = r.length + 1 := by rw [hN]; rfl
  rw [← hN] at hlen
  have HH0 := Lib.hid (HZ.out h List.mem_cons_self)
  have HPL := Lib.hid (show decide (h = [Plan.planW]) = true by simp [hplan])
  have HPAR : Hid (Plan.parse s.data.toList = match Plan.parseAll r with | some ds => if Plan.ok ds then (0, ds) else (44, []) | none => (44, [])) := Lib.hid (by
    unfold Plan.parse; rw [hsp]; simp only [hplan, if_true]; rfl)
  have HN := Lib.hid hN
  have HNR := Lib.hid hNr
  have HWL : Hid (∀ l : List (List UInt8), (∃ k : Nat, r[k]? = some l) → ∀ p ∈ l, p.length ≤ 3500000000000) := Lib.hid (fun l ⟨k, hl⟩ p hp => by
    have h1 := (Scan.spec_form hsp).1
    have h2 := Scan.unlines_line (ls := h :: r) (k := k + 1) (l := l) (by simpa using hl)
    have h3 := (Scan.glue_words l).2 p hp
    have h4 := congrArg List.length h1
    rw [bal_length] at h4
    omega)
  clear hsp hN hNr hplan
  go_enter Tryd.func17, Tryd.ntmps17
  go_wp2_with fail
  refine (lines_ans s _ (by omega) _).mono ?_
  rintro e w1 ⟨va, hsa, rfl, hla, hb1⟩
  rw [HA.out] at hla ⊢
  have hvs := hla.grid_rows
  have hrow := hla.row
  rw [← HN.out] at hrow
  obtain ⟨g, cap, rfl, hg1, hg2⟩ := own_some hrow (by have := HNR.out; omega)
  have hcap : N ≤ cap := by
    rcases hrow.2 with ⟨h', _⟩ | ⟨g', cap', cur, h', _, _, hnc, _⟩
    · simp at h'
    · injection h' with _ _ hc; omega
  obtain ⟨vs, hvsd⟩ : ∃ vs, vs = List.zipWith (fun h (l : List (List UInt8)) => rv h l.length) hsa (h :: r) := ⟨_, rfl⟩
  rw [← hvsd] at hvs hrow
  have HVS := Lib.hid hvs
  have HROW := Lib.hid hrow
  have HCELL : Hid (∀ j u, vs[j]? = some u → w1.cell? ⟨g, j, none⟩ = some u) := Lib.hid (fun j u hu => by
    have hj := (List.getElem?_eq_some_iff.1 hu).1
    rw [hrow.cellAt j (by have := hrow.1; omega)]; exact hu)
  clear hla hvs hrow hvsd
  obtain ⟨u0, hu0⟩ : ∃ u, vs[0]? = some u := ⟨_, List.getElem?_eq_getElem (by have := HVS.out.1; simp at this; omega)⟩
  have e0 := HCELL.out 0 u0 hu0
  have hr0 := HVS.out.2 0 u0 h hu0 rfl
  have HR0 := Lib.hid hr0
  have hN1 : 1 ≤ N := by have := HNR.out; omega
  have hNz : ((N : Int) == 0) = false := by rw [beq_eq_false_iff_ne]; omega
  clear hu0 hr0
  go_wp2_with fail
  refine (EqualPlan (w := w1.alloc (.cells #[.string ⟨#[112, 108, 97, 110]⟩] 9)) (HR0.out.alloc (Nat.le_refl _) _) HH0.out.2 (by have := HH0.out.1; omega) w1.heap.size (by simp)).mono ?_
  rintro e w2 ⟨rfl, q2, rfl⟩
  rw [HPL.out]
  have HB2 : Hid (Below w1.heap.size w1 ((w1.alloc (.cells #[.string ⟨#[112, 108, 97, 110]⟩] 9)).drewN q2)) := Lib.hid (Below.drewN ((Below.refl _ w1).alloc (Nat.le_refl _) _) q2)
  have hN2 : ((N - 1 : Nat) : Int) = (N : Int) - 1 := by omega
  by_cases hone : N = 1
  · have hr0 : r = [] := List.length_eq_zero_iff.1 (by have := HNR.out; omega)
    have HP : Hid (Plan.parse s.data.toList = (0, [])) := Lib.hid (by rw [HPAR.out, hr0]; rfl)
    have HCK := Lib.hid (fun w => @check_any w w.heap.size (.slice none 0 0) [] (Deeds.nil _ _) (Nat.le_refl _) (by simp) (fun d hd => by simp at hd))
    have hcode : Plan.code [] = 0 := rfl
    subst hone
    clear hr0 hN1 hNz hN2
    go_wp2_with fail
    all_goals
      refine wp_loop_rounds 1 ?_
      rw [rounds_succ]
      go_wp2_with fail
      refine (HCK.out _).mono ?_
      rintro e w3 ⟨rfl, hb3⟩
      rw [hcode]
      go_wp2_with fail
      go_returns
      exact ParsePost.good HP.out (Deeds.nil _ _) (hb1.trans ((HB2.out.trans (hb3.mono HB2.out.size)).mono hb1.size))
  have hc1 : ¬ cap = 1 := by omega
  go_wp2_with fail
  go_loopw [7, 39] (fun p q wr => ∃ (vl : Value) (k : Nat) (out : List Plan.D), p = vl ∧ q = .int .i64 k ∧ k ≤ N - 1 ∧ Plan.parseAll (r.take k) = some out ∧ out.length = k ∧ (∀ d ∈ out, d.path.length ≤ 3500000000000 ∧ d.data.length ≤ 3500000000000) ∧ wr.ownsRow w1.heap.size 54 3 vl k (deedCells out) ∧ Below w1.heap.size w1 wr) (fun _ q _ => (N - 1) - (intOf q).toNat)
  case atStart => exact ⟨_, 0, [], rfl, rfl, by omega, rfl, rfl, fun d hd => by simp at hd, World.ownsRow_nil _ _ _ _, HB2.out⟩
  case round =>
    obtain ⟨vl, k, out, rfl, rfl, hk, hpar, hol, hsz, hown, hBr⟩ := hrel
    obtain ⟨wo, rfl⟩ : ∃ x, x = wr := ⟨wr, rfl⟩
    have HPK := Lib.hid hpar
    have HOL := Lib.hid hol
    have HSZ := Lib.hid hsz
    have HOWN := Lib.hid hown
    obtain ⟨al, cl, rfl⟩ := own_form hown
    clear hpar hol hsz hown
    by_cases hkN : k < N - 1
    · obtain ⟨l, hl⟩ : ∃ l, r[k]? = some l := ⟨_, List.getElem?_eq_getElem (by have := HNR.out; omega)⟩
      obtain ⟨u, hu⟩ : ∃ u, vs[k + 1]? = some u := ⟨_, List.getElem?_eq_getElem (by have := HVS.out.1; have := HNR.out; simp at *; omega)⟩
      have hru := HVS.out.2 (k + 1) u l hu (by simpa using hl)
      have hlz := HZ.out l (List.mem_cons_of_mem _ (List.mem_of_getElem? hl))
      have e1 : wo.cell? ⟨g, 1 + k, none⟩ = some u := by
        rw [hBr.cell (p := ⟨g, 1 + k, none⟩) (by show g < _; omega), Nat.add_comm]; exact HCELL.out (k + 1) u hu
      obtain ⟨b2, o2, c2, hue, hcc2, hb2, hcc⟩ := hru.at (by simpa using hlz.2)
      rw [List.length_map] at hue
      subst hue
      have hcw : ∀ j x, l[j]? = some x → wo.cell? ⟨b2, o2 + j, none⟩ = some (.string (bs x)) := fun j x hx => by
        rw [hBr.cell (p := ⟨b2, o2 + j, none⟩) (by show b2 < _; omega)]
        exact hcc j (sv x) (by rw [List.getElem?_map, hx]; rfl)
      have HCW := Lib.hid hcw
      have HL := Lib.hid hl
      have hll : l.length ≤ 3500000000001 := by omega
      have hlp : 0 < l.length := hlz.2
      obtain ⟨w0, hw0⟩ : ∃ x, l[0]? = some x := ⟨_, List.getElem?_eq_getElem hlp⟩
      have e2 : wo.cell? ⟨b2, o2, none⟩ = some (.string (bs w0)) := by have := hcw 0 w0 hw0; simpa using this
      have HW0 := Lib.hid hw0
      have hNN : ((k : Int) < (N : Int) - 1) := by omega
      have hl0 : (0 : Int) < (l.length : Int) := by omega
      have hl1 : 1 ≤ l.length := hlp
      have hzw := hBr.size
      have hb2w : b2 < wo.heap.size := by omega
      have hgw : g < wo.heap.size := by omega
      have hl2 : l ≠ [] := by intro e; rw [e] at hlp; simp at hlp
      clear hcc hcw hl hu hru hlz hw0
      obtain ⟨kd, hkd⟩ : ∃ x, x = Plan.kindOf w0 := ⟨_, rfl⟩
      have hIK : ∀ (b c : Nat) (w : World), (∀ (j : Nat) u, ([.string ⟨#[]⟩, .string ⟨#[117, 110, 108, 105, 110, 107]⟩, .string ⟨#[114, 109, 100, 105, 114]⟩, .string ⟨#[109, 107, 100, 105, 114]⟩, .string ⟨#[112, 117, 116]⟩] : List Value)[j]? = some u → w.cell? ⟨b, j, none⟩ = some u) →
          Calls Tryd.prog 41 #[.slice (some ⟨b, 0, none⟩) 5 c, .string (bs w0)] w fun e w' => e = .returned (.int .i64 kd) ∧ w' = w := fun b c w h => by
        rw [hkd]; exact IndexKind b c (bs w0) w h
      have HIK := Lib.hid hIK
      have HKD := Lib.hid hkd
      clear hIK hkd
      go_wp2_with fail
      rename_i K hK
      have HKK := Lib.hid hK
      clear hK
      have REST : ∀ (bd : Nat) (x43 : Value) (W : World), W.cell? ⟨bd, 0, none⟩ = some (.int .i64 kd) → W.cell? ⟨bd, 1, none⟩ = some (.string ⟨#[]⟩) → W.cell? ⟨bd, 2, none⟩ = some (.string ⟨#[]⟩) → (∀ j, W.frozen? ⟨bd, j, none⟩ = false) → wo.heap.size ≤ bd → bd < W.heap.size → Below wo.heap.size wo W → K { tmps := #[.string s, undef, u2, u3, .slice (some ⟨g, 0, none⟩) N cap, .int .i64 0, .int .i64 0, .slice al k cl, undef, .slice (some ⟨b2, o2, none⟩) l.length c2, .pointer (some ⟨bd, 0, none⟩), u11, u12, u13, .tuple #[.slice (some ⟨g, 0, none⟩) N cap, .int .i64 0, .int .i64 0], .string s, .string s, .int .i64 s.size, .tuple #[.slice (some ⟨g, 0, none⟩) N cap, .int .i64 0, .int .i64 0], .slice (some ⟨g, 0, none⟩) N cap, .int .i64 0, .int .i64 0, .int .i64 0, .bool false, undef, .slice (some ⟨g, 0, none⟩) N cap, .int .i64 N, .bool false, .bool false, .slice (some ⟨g, 0, none⟩) N cap, .pointer (some ⟨g, 0, none⟩), u0, .slice (some ⟨w1.heap.size, 0, none⟩) 1 1, .bool true, .bool false, .bool false, .slice (some ⟨g, 0, none⟩) N cap, .slice (some ⟨g, 1, none⟩) (N - 1) (cap - 1), .int .i64 ((N : Int) - 1), .int .i64 k, .bool true, .pointer (some ⟨g, 1 + k, none⟩), .slice (some ⟨b2, o2, none⟩) l.length c2, x43, .slice (some ⟨b2, o2, none⟩) l.length c2, .pointer (some ⟨b2, o2, none⟩), .string (bs w0), .int .i64 kd, .agg #[.int .i64 kd, .string ⟨#[]⟩, .string ⟨#[]⟩], u49, u50, u51, u52, u53, u54, u55, u56, u57, u58, u59, u60, u61, u62, u63, u64, u65, u66, u67, u68, u69, u70, u71, u72, u73, u74, u75, u76, u77, undef, undef, undef, undef], defers := [] } W := by
        intro bd x43 W d0 d1 d2 df hbd hbW hbwo
        have hB2 : Below w1.heap.size w1 W := hBr.trans (hbwo.mono hzw)
        have HOW := Lib.hid (HOWN.out.kept (Below.grow hbwo) (by cases al <;> simp [Value.ownBlock]))
        have hcwW : ∀ j x, l[j]? = some x → W.cell? ⟨b2, o2 + j, none⟩ = some (.string (bs x)) := fun j x hx => by
          rw [hbwo.cell (p := ⟨b2, o2 + j, none⟩) (by show b2 < _; omega)]; exact HCW.out j x hx
        have df1 := df 1
        have df2 := df 2
        have hbz2 := hB2.size
        refine HKK.out _ _ ?_
        have bad : Plan.parseLine l = none → Plan.parse s.data.toList = (44, []) := fun h => by
          rw [HPAR.out, Plan.parseAll_bad HL.out h]
        have HBAD := Lib.hid bad
        have HHB2 := Lib.hid (hb1.trans (hB2.mono hb1.size))
        clear bad df
        by_cases hk4 : kd = 4
        · have q4 : (kd == 4) = true := by rw [beq_iff_eq]; exact hk4
          have HK4 := Lib.hid hk4
          clear hk4
          by_cases hl3 : l.length = 3
          · obtain ⟨p, hp⟩ : ∃ p, l[1]? = some p := ⟨_, List.getElem?_eq_getElem (by omega)⟩
            obtain ⟨x, hx⟩ : ∃ x, l[2]? = some x := ⟨_, List.getElem?_eq_getElem (by omega)⟩
            have hlform : l = [w0, p, x] := by
              have h0 := HW0.out
              match l, hl3, h0, hp, hx with
              | [a, b, c], _, h0, hp, hx => simp at h0 hp hx; rw [h0, hp, hx]
            have g1 := hcwW 1 p hp
            have g2 := hcwW 2 x hx
            have hpl : Plan.parseLine l = (Plan.dataOf x).map fun y => ⟨4, p, y⟩ := by
              rw [hlform]; simp only [Plan.parseLine]; rw [if_pos (by rw [← HKD.out]; exact HK4.out)]
            have hpx : p.length ≤ 3500000000000 ∧ x.length ≤ 3500000000000 := ⟨HWL.out l ⟨k, HL.out⟩ p (by rw [hlform]; simp), HWL.out l ⟨k, HL.out⟩ x (by rw [hlform]; simp)⟩
            have hl3' : (((l.length : Nat) : Int) == 3) = true := by rw [beq_iff_eq]; omega
            have hlt1 : (1 : Int) < (l.length : Int) := by omega
            have hlt2 : (2 : Int) < (l.length : Int) := by omega
            have hdat : ∀ w, Calls Tryd.prog 42 #[.string (bs x)] w fun e w' => e = .returned (dataRes x) ∧ Below w.heap.size w w' := fun w => data_any (bs x) (by rw [bs_size]; omega) w
            have HDAT := Lib.hid hdat
            clear hcwW hlform hp hx hdat
            cases hdx : Plan.dataOf x with
            | none =>
              have HP := Lib.hid (HBAD.out (by rw [hpl, hdx]; rfl))
              have hdr : dataRes x = .tuple #[.string ByteArray.empty, .bool false] := by unfold dataRes; rw [hdx]
              clear hdx hpl
              go_wp2_with fail
              refine (HDAT.out _).mono ?_
              rintro e w5 ⟨rfl, hb5⟩
              rw [hdr]
              go_wp2_with fail
              go_returns
              have hbS : Below w.heap.size w (W.setCell ⟨bd, 1, none⟩ (.string (bs p))) := HHB2.out.setCell (p := ⟨bd, 1, none⟩) (by show w.heap.size ≤ bd; have := hb1.size; omega) _
              exact ParsePost.bad HP.out (hbS.trans (hb5.mono hbS.size))
            | some y =>
              have hdr : dataRes x = .tuple #[.string (bs y), .bool true] := by unfold dataRes; rw [hdx]
              have HNEXT : Hid (Plan.parseAll (r.take (k + 1)) = some (out ++ [⟨kd, p, y⟩])) := Lib.hid (Plan.parseAll_next HPK.out HL.out (by rw [hpl, hdx, HK4.out]; rfl))
              have HSZ2 : Hid (∀ d ∈ out ++ [(⟨kd, p, y⟩ : Plan.D)], d.path.length ≤ 3500000000000 ∧ d.data.length ≤ 3500000000000) := Lib.hid (fun d hd => by
                rcases List.mem_append.1 hd with hd | hd
                · exact HSZ.out d hd
                · simp at hd; subst hd; exact ⟨hpx.1, Nat.le_trans (Plan.dataOf_le hdx) hpx.2⟩)
              clear hdx hpl
              go_wp2_with fail
              refine (HDAT.out _).mono ?_
              rintro e w5 ⟨rfl, hb5⟩
              rw [hdr]
              obtain ⟨hc5, hf5⟩ := bcell hb5
              have hbW2 : bd < (W.setCell ⟨bd, 1, none⟩ (.string (bs p))).heap.size := by simpa using hbW
              have hz5 : W.heap.size ≤ w5.heap.size := by have := hb5.size; simpa using this
              have k0 : w5.cell? ⟨bd, 0, none⟩ = some (.int .i64 kd) := by rw [hc5 _ _ hbW2, World.cell?_setCell_other _ _ _ _ (by simp)]; exact d0
              have k1 : w5.cell? ⟨bd, 1, none⟩ = some (.string (bs p)) := by rw [hc5 _ _ hbW2]; exact World.cell?_setCell_same' _ _ _ (by rw [d1]; rfl)
              have k2 : w5.cell? ⟨bd, 2, none⟩ = some (.string ⟨#[]⟩) := by rw [hc5 _ _ hbW2, World.cell?_setCell_other _ _ _ _ (by simp)]; exact d2
              have kf2 : w5.frozen? ⟨bd, 2, none⟩ = false := by rw [hf5 _ _ hbW2, World.frozen?_setCell]; exact df2
              have HB3 : Hid (Below w1.heap.size w1 (w5.setCell ⟨bd, 2, none⟩ (.string (bs y)))) := Lib.hid (((hB2.setCell (p := ⟨bd, 1, none⟩) (by show w1.heap.size ≤ bd; omega) _).trans (hb5.mono (by simp; omega))).setCell (p := ⟨bd, 2, none⟩) (by show w1.heap.size ≤ bd; omega) _)
              have HOW3 := Lib.hid (((HOW.out.kept (setCell_grown W ⟨bd, 1, none⟩ (.string (bs p))) (own_not HOWN.out hbd)).kept (Below.grow hb5) (by cases al <;> simp [Value.ownBlock])).kept (setCell_grown w5 ⟨bd, 2, none⟩ (.string (bs y))) (own_not HOWN.out hbd))
              clear hc5 hf5
              go_wp2_with (at_builtin; refine wpList_append_own _ rfl _ _ 22 rfl w1.heap.size 54 i0 (.agg #[.int .i64 0, .string ByteArray.empty, .string ByteArray.empty]) 3 40 Tryd.underlying22 hi hz0 hz1 hz2 rfl (by decide) _ _ _ rfl (HOW3.out.alloc _) ⟨w5.heap.size, 0, none⟩ 1 1 [.int .i64 kd, .string (bs p), .string (bs y)] rfl rfl (new_cells2 _ _ (by simp) _ _) (fun x hx => by simp at hx; rcases hx with rfl | rfl | rfl <;> rfl) (by unfold maxLen; omega) (by omega) (by simp; omega) ?_; intro v4 w4 hown4 hgrow4 hnil4)
              obtain ⟨a4, c4, rfl⟩ := own_form hown4
              have hb4 : Below w1.heap.size w1 w4 := Below.grown (HB3.out.alloc (by simp; omega) _) hgrow4 (by simp; omega) (fun g hg => (HOW3.out.lt g hg).1)
              go_roundw
              case rel => exact ⟨_, k + 1, out ++ [⟨kd, p, y⟩], rfl, by go_num, by omega, HNEXT.out, by simp [HOL.out], HSZ2.out, by
                have h5 := hown4
                rw [show deedCells (out ++ [⟨kd, p, y⟩]) = deedCells out ++ [.int .i64 kd, .string (bs p), .string (bs y)] by simp [deedCells, dcells]]
                exact h5, hb4⟩
              case measure => simp [intOf]; omega
          · have HP := Lib.hid (HBAD.out (by
              cases hpp : Plan.parseLine l with
              | none => rfl
              | some d =>
                exfalso
                have h0 := HW0.out
                match l, hl3, h0, hpp with
                | [], _, _, hpp => simp [Plan.parseLine] at hpp
                | [a], _, _, hpp => simp [Plan.parseLine] at hpp
                | [a, b], _, h0, hpp =>
                  simp at h0; subst h0
                  simp only [Plan.parseLine] at hpp
                  rw [if_pos (by rw [← HKD.out]; exact HK4.out)] at hpp
                  exact absurd hpp (by simp)
                | [a, b, c], hl3, _, _ => exact hl3 rfl
                | a :: b :: c :: d :: r, _, _, hpp => simp [Plan.parseLine] at hpp))
            have hl3' : (((l.length : Nat) : Int) == 3) = false := by rw [beq_eq_false_iff_ne]; omega
            clear hcwW
            go_wp2_with fail
            go_returns
            exact ParsePost.bad HP.out HHB2.out
        · have q4 : (kd == 4) = false := by rw [beq_eq_false_iff_ne]; exact hk4
          have HK4 := Lib.hid hk4
          clear hk4
          by_cases hl2 : l.length = 2
          · obtain ⟨p, hp⟩ : ∃ p, l[1]? = some p := ⟨_, List.getElem?_eq_getElem (by omega)⟩
            obtain ⟨y, hy⟩ : ∃ y : List UInt8, y = [] := ⟨_, rfl⟩
            have hlform : l = [w0, p] := by
              have h0 := HW0.out
              match l, hl2, h0, hp with
              | [a, b], _, h0, hp => simp at h0 hp; rw [h0, hp]
            have g1 := hcwW 1 p hp
            have hpl : Plan.parseLine l = some ⟨kd, p, y⟩ := by
              rw [hlform, hy]; simp only [Plan.parseLine]; rw [← HKD.out, if_neg HK4.out]
            have hpx : p.length ≤ 3500000000000 := HWL.out l ⟨k, HL.out⟩ p (by rw [hlform]; simp)
            have HNEXT : Hid (Plan.parseAll (r.take (k + 1)) = some (out ++ [⟨kd, p, y⟩])) := Lib.hid (Plan.parseAll_next HPK.out HL.out hpl)
            have HSZ2 : Hid (∀ d ∈ out ++ [(⟨kd, p, y⟩ : Plan.D)], d.path.length ≤ 3500000000000 ∧ d.data.length ≤ 3500000000000) := Lib.hid (fun d hd => by
              rcases List.mem_append.1 hd with hd | hd
              · exact HSZ.out d hd
              · simp at hd; subst hd; exact ⟨hpx, by rw [hy]; simp⟩)
            have hye : (⟨#[]⟩ : ByteArray) = bs y := by rw [hy]; rfl
            rw [hye] at d1 d2
            have hl3' : (((l.length : Nat) : Int) == 2) = true := by rw [beq_iff_eq]; omega
            have hlt1 : (1 : Int) < (l.length : Int) := by omega
            have HB3 : Hid (Below w1.heap.size w1 (W.setCell ⟨bd, 1, none⟩ (.string (bs p)))) := Lib.hid (hB2.setCell (p := ⟨bd, 1, none⟩) (by show w1.heap.size ≤ bd; omega) _)
            have HOW3 := Lib.hid (HOW.out.kept (setCell_grown W ⟨bd, 1, none⟩ (.string (bs p))) (own_not HOWN.out hbd))
            clear hcwW hlform hp hy hpl hye
            go_wp2_with (at_builtin; refine wpList_append_own _ rfl _ _ 22 rfl w1.heap.size 54 i0 (.agg #[.int .i64 0, .string ByteArray.empty, .string ByteArray.empty]) 3 40 Tryd.underlying22 hi hz0 hz1 hz2 rfl (by decide) _ _ _ rfl (HOW3.out.alloc _) ⟨W.heap.size, 0, none⟩ 1 1 [.int .i64 kd, .string (bs p), .string (bs y)] rfl rfl (new_cells2 _ _ (by simp) _ _) (fun x hx => by simp at hx; rcases hx with rfl | rfl | rfl <;> rfl) (by unfold maxLen; omega) (by omega) (by simp; omega) ?_; intro v4 w4 hown4 hgrow4 hnil4)
            obtain ⟨a4, c4, rfl⟩ := own_form hown4
            have hb4 : Below w1.heap.size w1 w4 := Below.grown (HB3.out.alloc (by simp; omega) _) hgrow4 (by simp; omega) (fun g hg => (HOW3.out.lt g hg).1)
            go_roundw
            case rel => exact ⟨_, k + 1, out ++ [⟨kd, p, y⟩], rfl, by go_num, by omega, HNEXT.out, by simp [HOL.out], HSZ2.out, by
              have h5 := hown4
              rw [show deedCells (out ++ [⟨kd, p, y⟩]) = deedCells out ++ [.int .i64 kd, .string (bs p), .string (bs y)] by simp [deedCells, dcells]]
              exact h5, hb4⟩
            case measure => simp [intOf]; omega
          · have HP := Lib.hid (HBAD.out (by
              cases hpp : Plan.parseLine l with
              | none => rfl
              | some d =>
                exfalso
                have h0 := HW0.out
                match l, hl2, h0, hpp with
                | [], _, _, hpp => simp [Plan.parseLine] at hpp
                | [a], _, _, hpp => simp [Plan.parseLine] at hpp
                | [a, b], hl2, _, _ => exact hl2 rfl
                | [a, b, c], _, h0, hpp =>
                  simp at h0; subst h0
                  simp only [Plan.parseLine] at hpp
                  rw [if_neg (by rw [← HKD.out]; exact HK4.out)] at hpp
                  exact absurd hpp (by simp)
                | a :: b :: c :: d :: r, _, _, hpp => simp [Plan.parseLine] at hpp))
            have hl3' : (((l.length : Nat) : Int) == 2) = false := by rw [beq_eq_false_iff_ne]; omega
            clear hcwW
            go_wp2_with fail
            go_returns
            exact ParsePost.bad HP.out HHB2.out
      go_region_with (first | (go_at_call 31; refine (words_all _).mono ?_; rintro e w3 ⟨rfl, rfl⟩) | (go_at_call 41; refine (HIK.out _ 5 _ (by intro j u hu; first | exact words_cell hu | exact words_cell (W := wo) hu | (have hw := words_cell (W := wo) (t := 9) hu; simpa using hw) | (have hw := words_cell (W := wo.alloc (.cells #[.int .i64 0, .string ByteArray.empty, .string ByteArray.empty] 54)) (t := 9) hu; simpa using hw))).mono ?_; rintro e w4 ⟨rfl, rfl⟩))
      all_goals
        refine REST _ _ _ ?_ ?_ ?_ ?_ ?_ ?_ ?_
        · simp
        · simp
        · simp
        · intro j; simp
        · simp
        · simp <;> omega
        · go_grown
    · have hkN2 : k = N - 1 := by omega
      have hfull : r.take k = r := List.take_of_length_le (by have := HNR.out; omega)
      have hpar2 := HPK.out
      rw [hfull] at hpar2
      have hlo : out.length = k := HOL.out
      have HDS : Hid (Deeds wo wo.heap.size (.slice al k cl) out) := Lib.hid (by
        have := HOWN.out
        rw [← hlo] at this ⊢
        exact Deeds.of_own this)
      have HCK := Lib.hid (check_any (v := .slice al k cl) HDS.out (Nat.le_refl _) (by rw [hlo]; omega) (fun d hd => by have := HSZ.out d hd; omega))
      have hex : ¬ ((k : Int) < (N : Int) - 1) := by omega
      cases hok : Plan.ok out
      · have HP : Hid (Plan.parse s.data.toList = (44, [])) := Lib.hid (by rw [HPAR.out, hpar2]; simp [hok])
        have hcode := Plan.code_no hok
        clear hok hpar2 hfull hlo hkN2
        go_wp2_with fail
        refine HCK.out.mono ?_
        rintro e w3 ⟨rfl, hb3⟩
        rw [hcode]
        go_wp2_with fail
        go_returns
        exact ParsePost.bad HP.out (hb1.trans ((hBr.trans (hb3.mono hBr.size)).mono hb1.size))
      · have HP : Hid (Plan.parse s.data.toList = (0, out)) := Lib.hid (by rw [HPAR.out, hpar2]; simp [hok])
        have hcode := Plan.code_yes hok
        clear hok hpar2 hfull hlo hkN2
        go_wp2_with fail
        refine HCK.out.mono ?_
        rintro e w3 ⟨rfl, hb3⟩
        rw [hcode]
        have HDS3 := Lib.hid ((HDS.out.below hb3 (Nat.le_refl _)).mono hb3.size)
        go_wp2_with fail
        go_returns
        exact ParsePost.good HP.out HDS3.out (hb1.trans ((hBr.trans (hb3.mono hBr.size)).mono hb1.size))
end Go.Proofs.YtnbjdfiembbmmaaDoor
