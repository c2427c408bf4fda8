/- JournalQuiet: the walk. -/
import Derived.Test.YtdogacgpfnolfaaGreatDoorJrS
namespace Go.Proofs.YtdogacgpfnolfaaGreatDoor
open Go.RowKit Go.Maps
set_option linter.unusedSimpArgs false
set_option linter.unusedVariables false
/-- Is a path the journal's, or a deed's? -/
def ownP (ds : List PL.Plan.D) (p : List UInt8) : Bool := Disk.jp p || ds.any fun d => decide (d.path = p)
theorem jp_nine {p : List UInt8} (h : p ≠ Disk.jA) : Disk.jp p = (decide (8 < p.length) && decide (p.take 9 = Disk.jA ++ [47])) := by
  unfold Disk.jp
  rw [decide_eq_false h, Bool.false_or, Bool.eq_iff_iff, List.isPrefixOf_iff_prefix, Bool.and_eq_true, decide_eq_true_eq, decide_eq_true_eq]
  constructor
  · rintro ⟨t, rfl⟩
    refine ⟨by rw [List.length_append]; show 8 < 9 + t.length; omega, ?_⟩
    exact List.take_left' (l₁ := Disk.jA ++ [47]) rfl
  · rintro ⟨h1, h2⟩
    exact ⟨p.drop 9, by rw [← h2]; exact List.take_append_drop 9 p⟩
theorem any_next {ds : List PL.Plan.D} {k : Nat} {d : PL.Plan.D} (h : ds[k]? = some d) (f : PL.Plan.D → Bool) : (ds.take (k + 1)).any f = ((ds.take k).any f || f d) := by
  rw [List.take_add_one, h, List.any_append]
  simp
set_option maxHeartbeats 32000000 in
set_option maxRecDepth 100000 in
theorem journal_quiet_law {w : World} {v u : Value} {fs : List Disk.Fl} {ds : List PL.Plan.D} (hf : Files w w.heap.size v fs) (hd : PL.Deeds w w.heap.size u ds) (hE : Env w) (hn : fs.length ≤ 1048576) (hm : ds.length ≤ 1048576) (hsf : ∀ f ∈ fs, f.path.length ≤ 1048576 ∧ f.data.length ≤ 1048576) (hsz : ∀ d ∈ ds, d.path.length ≤ 1048576 ∧ d.data.length ≤ 1048576) (k : Int) (hk : k ≤ 9223372036854775807) :
    Calls Tryz.prog 3 #[v, u, .int .i64 k] w fun e w' => e = .returned (.bool true) ∧ Below w.heap.size w w' := by
  obtain ⟨a2, c2, rfl⟩ := hd.form
  obtain ⟨N, hN⟩ : ∃ N, N = ds.length := ⟨_, rfl⟩
  have HDS := Lib.hid (disks_any hf (Nat.le_refl _) hE hn hsf)
  have HE := Lib.hid hE
  have HG := Lib.hid (gMax_lt hE)
  have HDD := Lib.hid hd
  have HSZ := Lib.hid hsz
  have HSF := Lib.hid hsf
  unfold DisksPost at HDS
  rw [← hN] at hm HDD ⊢
  have HN := Lib.hid hN
  clear hf hd hE hn hsf hsz hN
  cases hl : Disk.load fs with
  | none =>
    rw [hl] at HDS
    clear hl
    go_enter Tryz.func3, Tryz.ntmps3
    go_wp2_with fail
    refine HDS.out.mono ?_
    rintro e w1 ⟨rfl, hb1⟩
    have HB1 := Lib.hid hb1
    have HLV := Lib.hid (lives18_any w1 (HE.out.below hb1 (Nat.le_refl _)))
    clear hb1
    go_wp2_with fail
    refine HLV.out.mono ?_
    rintro e w2 ⟨rfl, hb2⟩
    have HB2 := Lib.hid (HB1.out.trans (hb2.mono HB1.out.size))
    clear hb2
    go_wp2
    go_returns
    exact ⟨rfl, HB2.out⟩
  | some l =>
    have HHU : Hid (Disk.Hung l) := Lib.hid (load_hung hl)
    have HDA := Lib.hid (load_data hl HSF.out)
    rw [hl] at HDS
    clear hl
    go_enter Tryz.func3, Tryz.ntmps3
    go_wp2_with fail
    refine HDS.out.mono ?_
    rintro e w1 ⟨⟨sd, rd, O, rfl, hd1, hf1⟩, hb1⟩
    have HB1 := Lib.hid hb1
    have HD1 := Lib.hid hd1
    have HZ1 := Lib.hid hb1.size
    have HLIM := Lib.hid (fun k hk => HD1.out.lim k hk)
    have HE1 := Lib.hid (fun (V : World) (hv : Keeps O w1 V) => env_keeps (HE.out.below HB1.out (Nat.le_refl _)) hv (fun k hk => (HLIM.out k hk).1) HG.out)
    have HOFF1 : Hid (DeedsOff w1 O (.slice a2 N c2) ds) := Lib.hid (DeedsOff.of_deeds (HDD.out.below HB1.out (Nat.le_refl _)) HB1.out.size (fun k hk => (HLIM.out k hk).1))
    have HEND : Hid (∀ (V : World) (n : Nat) (s : Disk.S), DskNow w1 V w.heap.size O sd n s → Below w.heap.size w V) := Lib.hid (fun V n s hV => HB1.out.trans (hV.keeps.to_below (fun k hk => (HLIM.out k hk).1) HZ1.out))
    clear hd1 hf1 hb1
    by_cases hk0 : 0 ≤ k
    · have HCU := Lib.hid (cut_any HD1.out k hk)
      have hcut : (loadS l).cut k = (0, ⟨l, [], k⟩) := by
        unfold Disk.S.cut
        rw [if_neg (show ¬ (loadS l).left = 0 by show ¬ (-1 : Int) = 0; decide), if_neg (by omega)]
        rfl
      rw [hcut] at HCU
      clear hcut
      go_wp2_with fail
      refine HCU.out.mono ?_
      rintro e w2 ⟨rfl, hn2⟩
      have HS2 := Lib.hid hn2
      clear hn2
      obtain ⟨⟨O2, hd2, hO2⟩, hk2⟩ := HS2.out
      have HK2 := Lib.hid hk2
      have HO2 := Lib.hid hO2
      have HD2 := Lib.hid hd2
      clear hd2 hO2 hk2
      have HCM := Lib.hid (commit_any HD2.out (HE1.out _ HK2.out) HG.out (HOFF1.out.keeps HK2.out HO2.out) HHU.out (show 1048576 + ds.length + 6 ≤ 1099511627776 by have := HN.out; omega) (by have := HN.out; omega) HSZ.out)
      unfold JPost at HCM
      have HCT := Lib.hid (commit_T (s1 := ⟨l, [], k⟩) HHU.out rfl rfl (by have := HN.out; omega) HSZ.out HDA.out)
      have HQ := Lib.hid (Disk.commit_quiet (P := fun p => ownP ds p = true) (ok := canJ l ds) (X := PL.Plan.text ds) (s := ⟨l, [], k⟩) (ds := ds.map toDd) HHU.out rfl (fun h => ok_free (canJ_ok h)) (fun d hd => by
        obtain ⟨x, hx, rfl⟩ := List.mem_map.1 hd
        show (_ || _) = true
        rw [Bool.or_eq_true]
        exact Or.inr (List.any_eq_true.2 ⟨x, hx, decide_eq_true rfl⟩)) rfl rfl rfl)
      dsimp only at HCM
      rw [← HN.out] at HCM
      obtain ⟨r, hr⟩ : ∃ r, r = (⟨l, [], k⟩ : Disk.S).commit (canJ l ds) (PL.Plan.text ds) (ds.map toDd) := ⟨_, rfl⟩
      rw [← hr] at HCM HCT HQ
      clear hr
      obtain ⟨cc, s2⟩ := r
      dsimp only at HCM HCT HQ
      have HQ2 : Hid ((s2.raws = [] ∧ s2.l = l) ∨ (canJ l ds = true ∧ Disk.Pth (fun p => ownP ds p = true) s2 ∧ Disk.LT (PL.Plan.text ds) s2.l)) := Lib.hid (by
        rcases HQ.out with h | ⟨_, h1, h2, h3⟩
        · exact Or.inl ⟨by rw [h], by rw [h]⟩
        · exact Or.inr ⟨h1, h2, h3⟩)
      have HQ0 : Hid (N = 0 → s2.raws = []) := Lib.hid (fun h => by
        rcases HQ.out with h1 | ⟨h1, _⟩
        · rw [h1]
        · exact absurd (by rw [List.length_eq_zero_iff.1 (show ds.length = 0 by rw [← HN.out]; exact h)]; rfl) h1)
      clear HQ
      go_wp2_with fail

      refine HCM.out.mono ?_
      rintro e w3 ⟨rfl, hn3⟩
      have HS3 := Lib.hid (DskNow.after HK2.out HO2.out hn3)
      clear hn3
      by_cases hN0 : N = 0
      · have HR0 := Lib.hid (HQ0.out hN0)
        have hq0 : ((N : Int) == 0) = true := by rw [hN0]; rfl
        have HRW : Hid (Calls Tryz.prog 10 #[.pointer (some ⟨sd, 0, none⟩)] w3 fun e w' => ∃ v, e = .returned v ∧ RwRow w' w3.heap.size v [] ∧ Below w3.heap.size w3 w') := Lib.hid (by
          obtain ⟨⟨O3, hd3, _⟩, _⟩ := HS3.out
          have := Dsk.raws hd3 (by omega)
          rw [HR0.out] at this
          exact this)
        clear hN0
        go_wp2_with fail
        refine HRW.out.mono ?_
        rintro e w4 ⟨v4, rfl, hr4, hb4⟩
        obtain ⟨a4, c4, rfl⟩ := own_form hr4
        have HS4 := Lib.hid (HS3.out.then_below hb4)
        clear hr4 hb4 hq0
        dsimp only [List.length_nil]
        obtain ⟨⟨O4, hd4, hO4⟩, hk4⟩ := HS4.out
        have HK4 := Lib.hid hk4
        have HO4 := Lib.hid hO4
        have HD4 := Lib.hid hd4
        clear hd4 hO4 hk4
        have HKI : Hid (Calls Tryz.prog 11 #[.pointer (some ⟨sd, 0, none⟩), .string ⟨#[47, 106, 111, 117, 114, 110, 97, 108]⟩] w4 fun e w' => e = .returned (.int .i64 (Disk.kind s2.l Disk.jA)) ∧ Below w4.heap.size w4 w') := Lib.hid (Dsk.kind HD4.out Disk.jA (by decide))
        have HKC : Hid ((Disk.kind s2.l Disk.jA = 0 ∨ s2.raws ≠ []) → Disk.Pth (fun p => ownP ds p = true) ((⟨s2.l, s2.raws, -1⟩ : Disk.S).recover parseJ).2) := Lib.hid (fun hm => by
          rcases HQ2.out with ⟨h1, h2⟩ | ⟨h1, h2, h3⟩
          · rcases hm with hm | hm
            · rw [Disk.recover_none (s := ⟨s2.l, s2.raws, -1⟩) (show ¬ (-1 : Int) = 0 by decide) hm]
              intro r hr
              dsimp only at hr
              rw [h1] at hr
              exact absurd hr (by simp)
            · exact absurd h1 hm
          · refine Disk.recover_quiet (X := PL.Plan.text ds) (ds := ds.map toDd) ?_ h2 h3 (fun d hd => ?_) rfl rfl rfl
            · unfold parseJ; rw [PL.Plan.parse_text (canJ_ok h1)]
            · obtain ⟨x, hx, rfl⟩ := List.mem_map.1 hd
              show (_ || _) = true
              rw [Bool.or_eq_true]
              exact Or.inr (List.any_eq_true.2 ⟨x, hx, decide_eq_true rfl⟩))
        have HPE : Hid (s2.raws = [] → Disk.Pth (fun p => ownP ds p = true) ⟨s2.l, s2.raws, -1⟩) := Lib.hid (fun h r hr => by dsimp only at hr; rw [h] at hr; exact absurd hr (by simp))
        have HRW4 : Hid (∀ V, Below w4.heap.size w4 V → Calls Tryz.prog 10 #[.pointer (some ⟨sd, 0, none⟩)] V fun e w' => ∃ v, e = .returned v ∧ RwRow w' V.heap.size v s2.raws ∧ Below V.heap.size V w') := Lib.hid (fun V hV => Dsk.raws (HD4.out.below hV) (by omega))
        have HUPF : Hid (∀ V, Below w4.heap.size w4 V → Calls Tryz.prog 12 #[.pointer (some ⟨sd, 0, none⟩)] V fun e w' => e = .returned (.tuple #[]) ∧ DskNow w1 w' w.heap.size O sd (1048576 + N + 6) ⟨s2.l, s2.raws, -1⟩) := Lib.hid (fun V hV => (up_any (HD4.out.below hV)).mono fun e w' h => ⟨h.1, DskNow.after (HK4.out.then_below hV) HO4.out h.2⟩)
        obtain ⟨kk, hkk⟩ : ∃ kk, kk = Disk.kind s2.l Disk.jA := ⟨_, rfl⟩
        rw [← hkk] at HKI
        have HKK := Lib.hid hkk
        clear hkk
        by_cases hk1 : kk = 0
        · have HMI : Hid (Disk.kind s2.l Disk.jA = 0 ∨ s2.raws ≠ []) := Lib.hid (Or.inl (by rw [← HKK.out]; exact hk1))
          subst hk1
          go_wp2_with fail
          refine HKI.out.mono ?_
          rintro e w5 ⟨rfl, hb5⟩
          have HBQ := Lib.hid hb5
          clear hb5
          have HUP := Lib.hid (HUPF.out w5 HBQ.out)
          go_wp2_with fail
          refine HUP.out.mono ?_
          rintro e w6 ⟨rfl, hn6⟩
          have HS6 := Lib.hid hn6
          clear hn6
          obtain ⟨⟨O6, hd6, hO6⟩, hk6⟩ := HS6.out
          have HK6 := Lib.hid hk6
          have HO6 := Lib.hid hO6
          have HD6 := Lib.hid hd6
          clear hd6 hO6 hk6
          have HRC := Lib.hid (recover_any (M := 1048576) HD6.out (HE1.out _ HK6.out) HG.out (by omega) HCT.out.1 HCT.out.2)
          unfold JPost at HRC
          have HPR := Lib.hid (HKC.out HMI.out)
          obtain ⟨r, hr⟩ : ∃ r, r = (⟨s2.l, s2.raws, -1⟩ : Disk.S).recover parseJ := ⟨_, rfl⟩
          rw [← hr] at HRC HPR
          clear hr
          obtain ⟨rc, s7⟩ := r
          dsimp only at HRC
          go_wp2_with fail
          refine HRC.out.mono ?_
          rintro e w7 ⟨rfl, hn7⟩
          have HS7 := Lib.hid (DskNow.after HK6.out HO6.out hn7)
          have HP7 : Hid (Disk.Pth (fun p => ownP ds p = true) s7) := Lib.hid HPR.out
          clear hn7
          obtain ⟨⟨O7, hd7, hO7⟩, hk7⟩ := HS7.out
          have HK7 := Lib.hid hk7
          have HO7 := Lib.hid hO7
          have HD7 := Lib.hid hd7
          clear hd7 hO7 hk7
          have HRW7 := Lib.hid (Dsk.raws HD7.out (by omega))
          have HOFF7 := Lib.hid (HOFF1.out.keeps HK7.out HO7.out)
          go_wp2_with fail
          refine HRW7.out.mono ?_
          rintro e w8 ⟨v8, rfl, hr8, hb8⟩
          have HDE : Hid (PL.Deeds w8 w8.heap.size (.slice a2 N c2) ds) := Lib.hid ((HOFF7.out.deeds.below hb8 (Nat.le_refl _)).mono hb8.size)
          have HRS := Lib.hid (RwRow.rws hr8)
          have HS8 := Lib.hid (HS7.out.then_below hb8)
          obtain ⟨a8, c8, rfl⟩ := own_form hr8
          obtain ⟨R8, hR8⟩ : ∃ x, x = s7.raws.length := ⟨_, rfl⟩
          have HRL := Lib.hid hR8
          have hRb : R8 ≤ 1099511627776 := by
            obtain ⟨bm, m, rv, hm, _⟩ := HD7.out
            have := hm.2.1
            omega
          rw [← hR8]
          clear hr8 hb8 hR8
          go_wp2
          go_loop [12] (fun q => ∃ i : Nat, q = .int .i64 i ∧ i ≤ R8) (fun q => R8 - (intOf q).toNat)
          case atStart => exact ⟨0, rfl, by omega⟩
          case round =>
            obtain ⟨i, rfl, hi⟩ := hrel
            by_cases hiR : i < R8
            · obtain ⟨r, hr⟩ : ∃ r, s7.raws[i]? = some r := ⟨_, List.getElem?_eq_getElem (by have := HRL.out; omega)⟩
              obtain ⟨rb, ro, rcap, hve, hrb, hrc⟩ := HRS.out.at (by have := HRL.out; omega)
              rw [← HRL.out] at hve
              cases hve
              have r1 := (hrc i r hr).2.1
              have hiI : (i : Int) < (R8 : Int) := by omega
              have HOP0 := Lib.hid (HP7.out r (List.mem_of_getElem? hr))
              obtain ⟨p, hp⟩ : ∃ p, p = r.path := ⟨_, rfl⟩
              have HOP : Hid ((Disk.jp p || ds.any fun d => decide (d.path = p)) = true) := Lib.hid (by rw [hp]; exact HOP0.out)
              rw [← hp] at r1
              clear hrc hr hp HOP0
              have hs1 := str_eq_lit (bs p) [47, 106, 111, 117, 114, 110, 97, 108]
              rw [bs_list] at hs1
              by_cases hpA : p = Disk.jA
              · have q1 : ((bs p).toList == [47, 106, 111, 117, 114, 110, 97, 108]) = true := by rw [hs1]; exact decide_eq_true hpA
                have HJP : Hid (true = Disk.jp p) := Lib.hid (by rw [hpA]; rfl)
                clear hpA hs1
                go_wp2
                go_loop [14, 15] (fun bv q => ∃ (k : Nat) (b : Bool), bv = .bool b ∧ q = .int .i64 k ∧ k ≤ N ∧ b = (Disk.jp p || (ds.take k).any fun d => decide (d.path = p))) (fun _ q => N - (intOf q).toNat)
                case atStart => exact ⟨0, _, rfl, rfl, by omega, by rw [← HJP.out]; simp⟩
                case round =>
                  obtain ⟨k, b, rfl, rfl, hkN, hbv⟩ := hrel
                  have HBV := Lib.hid hbv
                  clear hbv
                  by_cases hkl : k < N
                  · obtain ⟨d, hd⟩ : ∃ d, ds[k]? = some d := ⟨_, List.getElem?_eq_getElem (by have := HN.out; omega)⟩
                    obtain ⟨bk, o, cap, hve, hbk, hbc⟩ := HDE.out.at (by have := HN.out; omega)
                    rw [← HN.out] at hve
                    cases hve
                    have d1 := (hbc k d hd).2.1
                    have hkI : (k : Int) < (N : Int) := by omega
                    have HBN : Hid ((b || decide (d.path = p)) = (Disk.jp p || (ds.take (k + 1)).any fun d => decide (d.path = p))) := Lib.hid (by rw [any_next hd, HBV.out, Bool.or_assoc])
                    have hqd : ((bs d.path).toList == (bs p).toList) = decide (d.path = p) := by
                      rw [bs_toList, bs_toList]
                      by_cases h : d.path = p
                      · rw [h, decide_eq_true rfl]; exact beq_self_eq_true _
                      · rw [decide_eq_false h]; exact beq_eq_false_iff_ne.2 h
                    obtain ⟨dp, hdp⟩ : ∃ x, x = d.path := ⟨_, rfl⟩
                    rw [← hdp] at d1 hqd HBN
                    clear hbc hd hdp
                    obtain ⟨bq, hbq⟩ : ∃ x, x = decide (dp = p) := ⟨_, rfl⟩
                    rw [← hbq] at hqd HBN
                    clear hbq
                    cases b
                    · go_wp2
                      go_round
                      case rel => exact ⟨k + 1, _, rfl, by go_num, by omega, by rw [← HBN.out]; rfl⟩
                      case measure => simp [intOf]; omega
                    · go_wp2
                      go_round
                      case rel => exact ⟨k + 1, _, rfl, by go_num, by omega, by rw [← HBN.out]; rfl⟩
                      case measure => simp [intOf]; omega
                  · have hkI : ¬ (k : Int) < (N : Int) := by omega
                    have hbt : b = true := by
                      rw [HBV.out, List.take_of_length_le (by rw [← HN.out]; omega)]
                      exact HOP.out
                    subst hbt
                    go_wp2
                    go_round
                    case rel => exact ⟨i + 1, by go_num, by omega⟩
                    case measure => simp [intOf]; omega
              have q1 : ((bs p).toList == [47, 106, 111, 117, 114, 110, 97, 108]) = false := by rw [hs1]; exact decide_eq_false hpA
              have hj9 := jp_nine hpA
              have hsz8 : (bs p).size = p.length := by show p.toArray.size = _; simp
              by_cases h8 : 8 < p.length
              · have hz8 : (8 : Int) < ((bs p).size : Int) := by rw [hsz8]; omega
                have hz9 : (9 : Int) ≤ ((bs p).size : Int) := by rw [hsz8]; omega
                have hz9n : 9 ≤ (bs p).size := by rw [hsz8]; omega
                have hx9 : (((bs p).extract 0 9).toList == [47, 106, 111, 117, 114, 110, 97, 108, 47]) = Disk.jp p := by
                  rw [str_eq_lit, hj9, decide_eq_true h8, Bool.true_and]
                  have e : ((bs p).extract 0 9).data.toList = p.take 9 := by
                    rw [ByteArray.data_extract]
                    simp [bs]
                  rw [e]
                  rfl
                obtain ⟨jb, hjb⟩ : ∃ jb, jb = Disk.jp p := ⟨_, rfl⟩
                have HJP : Hid (jb = Disk.jp p) := Lib.hid hjb
                rw [← hjb] at hx9
                clear hjb hj9 hs1 hpA hsz8
                go_wp2
                go_loop [14, 15] (fun bv q => ∃ (k : Nat) (b : Bool), bv = .bool b ∧ q = .int .i64 k ∧ k ≤ N ∧ b = (Disk.jp p || (ds.take k).any fun d => decide (d.path = p))) (fun _ q => N - (intOf q).toNat)
                case atStart => exact ⟨0, _, rfl, rfl, by omega, by rw [← HJP.out]; simp⟩
                case round =>
                  obtain ⟨k, b, rfl, rfl, hkN, hbv⟩ := hrel
                  have HBV := Lib.hid hbv
                  clear hbv
                  by_cases hkl : k < N
                  · obtain ⟨d, hd⟩ : ∃ d, ds[k]? = some d := ⟨_, List.getElem?_eq_getElem (by have := HN.out; omega)⟩
                    obtain ⟨bk, o, cap, hve, hbk, hbc⟩ := HDE.out.at (by have := HN.out; omega)
                    rw [← HN.out] at hve
                    cases hve
                    have d1 := (hbc k d hd).2.1
                    have hkI : (k : Int) < (N : Int) := by omega
                    have HBN : Hid ((b || decide (d.path = p)) = (Disk.jp p || (ds.take (k + 1)).any fun d => decide (d.path = p))) := Lib.hid (by rw [any_next hd, HBV.out, Bool.or_assoc])
                    have hqd : ((bs d.path).toList == (bs p).toList) = decide (d.path = p) := by
                      rw [bs_toList, bs_toList]
                      by_cases h : d.path = p
                      · rw [h, decide_eq_true rfl]; exact beq_self_eq_true _
                      · rw [decide_eq_false h]; exact beq_eq_false_iff_ne.2 h
                    obtain ⟨dp, hdp⟩ : ∃ x, x = d.path := ⟨_, rfl⟩
                    rw [← hdp] at d1 hqd HBN
                    clear hbc hd hdp
                    obtain ⟨bq, hbq⟩ : ∃ x, x = decide (dp = p) := ⟨_, rfl⟩
                    rw [← hbq] at hqd HBN
                    clear hbq
                    cases b
                    · go_wp2
                      go_round
                      case rel => exact ⟨k + 1, _, rfl, by go_num, by omega, by rw [← HBN.out]; rfl⟩
                      case measure => simp [intOf]; omega
                    · go_wp2
                      go_round
                      case rel => exact ⟨k + 1, _, rfl, by go_num, by omega, by rw [← HBN.out]; rfl⟩
                      case measure => simp [intOf]; omega
                  · have hkI : ¬ (k : Int) < (N : Int) := by omega
                    have hbt : b = true := by
                      rw [HBV.out, List.take_of_length_le (by rw [← HN.out]; omega)]
                      exact HOP.out
                    subst hbt
                    go_wp2
                    go_round
                    case rel => exact ⟨i + 1, by go_num, by omega⟩
                    case measure => simp [intOf]; omega
              · have hz8 : ¬ (8 : Int) < ((bs p).size : Int) := by rw [hsz8]; omega
                have HJP : Hid (false = Disk.jp p) := Lib.hid (by rw [hj9, decide_eq_false h8]; rfl)
                clear hj9 hs1 hpA hsz8
                go_wp2
                go_loop [14, 15] (fun bv q => ∃ (k : Nat) (b : Bool), bv = .bool b ∧ q = .int .i64 k ∧ k ≤ N ∧ b = (Disk.jp p || (ds.take k).any fun d => decide (d.path = p))) (fun _ q => N - (intOf q).toNat)
                case atStart => exact ⟨0, _, rfl, rfl, by omega, by rw [← HJP.out]; simp⟩
                case round =>
                  obtain ⟨k, b, rfl, rfl, hkN, hbv⟩ := hrel
                  have HBV := Lib.hid hbv
                  clear hbv
                  by_cases hkl : k < N
                  · obtain ⟨d, hd⟩ : ∃ d, ds[k]? = some d := ⟨_, List.getElem?_eq_getElem (by have := HN.out; omega)⟩
                    obtain ⟨bk, o, cap, hve, hbk, hbc⟩ := HDE.out.at (by have := HN.out; omega)
                    rw [← HN.out] at hve
                    cases hve
                    have d1 := (hbc k d hd).2.1
                    have hkI : (k : Int) < (N : Int) := by omega
                    have HBN : Hid ((b || decide (d.path = p)) = (Disk.jp p || (ds.take (k + 1)).any fun d => decide (d.path = p))) := Lib.hid (by rw [any_next hd, HBV.out, Bool.or_assoc])
                    have hqd : ((bs d.path).toList == (bs p).toList) = decide (d.path = p) := by
                      rw [bs_toList, bs_toList]
                      by_cases h : d.path = p
                      · rw [h, decide_eq_true rfl]; exact beq_self_eq_true _
                      · rw [decide_eq_false h]; exact beq_eq_false_iff_ne.2 h
                    obtain ⟨dp, hdp⟩ : ∃ x, x = d.path := ⟨_, rfl⟩
                    rw [← hdp] at d1 hqd HBN
                    clear hbc hd hdp
                    obtain ⟨bq, hbq⟩ : ∃ x, x = decide (dp = p) := ⟨_, rfl⟩
                    rw [← hbq] at hqd HBN
                    clear hbq
                    cases b
                    · go_wp2
                      go_round
                      case rel => exact ⟨k + 1, _, rfl, by go_num, by omega, by rw [← HBN.out]; rfl⟩
                      case measure => simp [intOf]; omega
                    · go_wp2
                      go_round
                      case rel => exact ⟨k + 1, _, rfl, by go_num, by omega, by rw [← HBN.out]; rfl⟩
                      case measure => simp [intOf]; omega
                  · have hkI : ¬ (k : Int) < (N : Int) := by omega
                    have hbt : b = true := by
                      rw [HBV.out, List.take_of_length_le (by rw [← HN.out]; omega)]
                      exact HOP.out
                    subst hbt
                    go_wp2
                    go_round
                    case rel => exact ⟨i + 1, by go_num, by omega⟩
                    case measure => simp [intOf]; omega
            · have hiI : ¬ (i : Int) < (R8 : Int) := by omega
              have HLV := Lib.hid (lives18_any w8 (HE1.out _ HS8.out.keeps))
              go_wp2_with fail
              refine HLV.out.mono ?_
              rintro e w9 ⟨rfl, hb9⟩
              have HB9 := Lib.hid (HEND.out _ _ _ (HS8.out.then_below hb9))
              clear hb9
              go_wp2
              go_returns
              exact ⟨rfl, HB9.out⟩
        · have hqk : (kk == 0) = false := beq_eq_false_iff_ne.2 hk1
          by_cases hrr : s2.raws = []
          · have HPX := Lib.hid (HPE.out hrr)
            have hrl : s2.raws.length = 0 := by rw [hrr]; rfl
            have HRL0 := Lib.hid hrl
            clear hk1 hrr hrl
            go_wp2_with fail
            refine HKI.out.mono ?_
            rintro e w4' ⟨rfl, hb5⟩
            have HRW5 := Lib.hid (HRW4.out w4' hb5)
            have HB5 := Lib.hid hb5
            clear hb5
            go_wp2_with fail
            refine HRW5.out.mono ?_
            rintro e w5 ⟨v6, rfl, hr6, hb6⟩
            obtain ⟨a6, c6, rfl⟩ := own_form hr6
            have HBQ := Lib.hid (HB5.out.trans (hb6.mono HB5.out.size))
            rw [HRL0.out]
            clear hr6 hb6
            have HUP := Lib.hid (HUPF.out w5 HBQ.out)
            go_wp2_with fail
            refine HUP.out.mono ?_
            rintro e w6 ⟨rfl, hn6⟩
            have HS6 := Lib.hid hn6
            clear hn6
            have HS7 := Lib.hid (HS6.out.more (show 1048576 + N + 6 ≤ 1048576 + N + 6 + 1048576 + 3 by omega))
            have HP7 : Hid (Disk.Pth (fun p => ownP ds p = true) ⟨s2.l, s2.raws, -1⟩) := Lib.hid HPX.out
            obtain ⟨s7, hs7⟩ : ∃ x, x = (⟨s2.l, s2.raws, -1⟩ : Disk.S) := ⟨_, rfl⟩
            rw [← hs7] at HS7 HP7
            clear hs7
            obtain ⟨w7, hw7⟩ : ∃ x, x = w6 := ⟨w6, rfl⟩
            rw [← hw7] at HS7 ⊢
            clear hw7
            obtain ⟨⟨O7, hd7, hO7⟩, hk7⟩ := HS7.out
            have HK7 := Lib.hid hk7
            have HO7 := Lib.hid hO7
            have HD7 := Lib.hid hd7
            clear hd7 hO7 hk7
            have HRW7 := Lib.hid (Dsk.raws HD7.out (by omega))
            have HOFF7 := Lib.hid (HOFF1.out.keeps HK7.out HO7.out)
            go_wp2_with fail
            refine HRW7.out.mono ?_
            rintro e w8 ⟨v8, rfl, hr8, hb8⟩
            have HDE : Hid (PL.Deeds w8 w8.heap.size (.slice a2 N c2) ds) := Lib.hid ((HOFF7.out.deeds.below hb8 (Nat.le_refl _)).mono hb8.size)
            have HRS := Lib.hid (RwRow.rws hr8)
            have HS8 := Lib.hid (HS7.out.then_below hb8)
            obtain ⟨a8, c8, rfl⟩ := own_form hr8
            obtain ⟨R8, hR8⟩ : ∃ x, x = s7.raws.length := ⟨_, rfl⟩
            have HRL := Lib.hid hR8
            have hRb : R8 ≤ 1099511627776 := by
              obtain ⟨bm, m, rv, hm, _⟩ := HD7.out
              have := hm.2.1
              omega
            rw [← hR8]
            clear hr8 hb8 hR8
            go_wp2
            go_loop [12] (fun q => ∃ i : Nat, q = .int .i64 i ∧ i ≤ R8) (fun q => R8 - (intOf q).toNat)
            case atStart => exact ⟨0, rfl, by omega⟩
            case round =>
              obtain ⟨i, rfl, hi⟩ := hrel
              by_cases hiR : i < R8
              · obtain ⟨r, hr⟩ : ∃ r, s7.raws[i]? = some r := ⟨_, List.getElem?_eq_getElem (by have := HRL.out; omega)⟩
                obtain ⟨rb, ro, rcap, hve, hrb, hrc⟩ := HRS.out.at (by have := HRL.out; omega)
                rw [← HRL.out] at hve
                cases hve
                have r1 := (hrc i r hr).2.1
                have hiI : (i : Int) < (R8 : Int) := by omega
                have HOP0 := Lib.hid (HP7.out r (List.mem_of_getElem? hr))
                obtain ⟨p, hp⟩ : ∃ p, p = r.path := ⟨_, rfl⟩
                have HOP : Hid ((Disk.jp p || ds.any fun d => decide (d.path = p)) = true) := Lib.hid (by rw [hp]; exact HOP0.out)
                rw [← hp] at r1
                clear hrc hr hp HOP0
                have hs1 := str_eq_lit (bs p) [47, 106, 111, 117, 114, 110, 97, 108]
                rw [bs_list] at hs1
                by_cases hpA : p = Disk.jA
                · have q1 : ((bs p).toList == [47, 106, 111, 117, 114, 110, 97, 108]) = true := by rw [hs1]; exact decide_eq_true hpA
                  have HJP : Hid (true = Disk.jp p) := Lib.hid (by rw [hpA]; rfl)
                  clear hpA hs1
                  go_wp2
                  go_loop [14, 15] (fun bv q => ∃ (k : Nat) (b : Bool), bv = .bool b ∧ q = .int .i64 k ∧ k ≤ N ∧ b = (Disk.jp p || (ds.take k).any fun d => decide (d.path = p))) (fun _ q => N - (intOf q).toNat)
                  case atStart => exact ⟨0, _, rfl, rfl, by omega, by rw [← HJP.out]; simp⟩
                  case round =>
                    obtain ⟨k, b, rfl, rfl, hkN, hbv⟩ := hrel
                    have HBV := Lib.hid hbv
                    clear hbv
                    by_cases hkl : k < N
                    · obtain ⟨d, hd⟩ : ∃ d, ds[k]? = some d := ⟨_, List.getElem?_eq_getElem (by have := HN.out; omega)⟩
                      obtain ⟨bk, o, cap, hve, hbk, hbc⟩ := HDE.out.at (by have := HN.out; omega)
                      rw [← HN.out] at hve
                      cases hve
                      have d1 := (hbc k d hd).2.1
                      have hkI : (k : Int) < (N : Int) := by omega
                      have HBN : Hid ((b || decide (d.path = p)) = (Disk.jp p || (ds.take (k + 1)).any fun d => decide (d.path = p))) := Lib.hid (by rw [any_next hd, HBV.out, Bool.or_assoc])
                      have hqd : ((bs d.path).toList == (bs p).toList) = decide (d.path = p) := by
                        rw [bs_toList, bs_toList]
                        by_cases h : d.path = p
                        · rw [h, decide_eq_true rfl]; exact beq_self_eq_true _
                        · rw [decide_eq_false h]; exact beq_eq_false_iff_ne.2 h
                      obtain ⟨dp, hdp⟩ : ∃ x, x = d.path := ⟨_, rfl⟩
                      rw [← hdp] at d1 hqd HBN
                      clear hbc hd hdp
                      obtain ⟨bq, hbq⟩ : ∃ x, x = decide (dp = p) := ⟨_, rfl⟩
                      rw [← hbq] at hqd HBN
                      clear hbq
                      cases b
                      · go_wp2
                        go_round
                        case rel => exact ⟨k + 1, _, rfl, by go_num, by omega, by rw [← HBN.out]; rfl⟩
                        case measure => simp [intOf]; omega
                      · go_wp2
                        go_round
                        case rel => exact ⟨k + 1, _, rfl, by go_num, by omega, by rw [← HBN.out]; rfl⟩
                        case measure => simp [intOf]; omega
                    · have hkI : ¬ (k : Int) < (N : Int) := by omega
                      have hbt : b = true := by
                        rw [HBV.out, List.take_of_length_le (by rw [← HN.out]; omega)]
                        exact HOP.out
                      subst hbt
                      go_wp2
                      go_round
                      case rel => exact ⟨i + 1, by go_num, by omega⟩
                      case measure => simp [intOf]; omega
                have q1 : ((bs p).toList == [47, 106, 111, 117, 114, 110, 97, 108]) = false := by rw [hs1]; exact decide_eq_false hpA
                have hj9 := jp_nine hpA
                have hsz8 : (bs p).size = p.length := by show p.toArray.size = _; simp
                by_cases h8 : 8 < p.length
                · have hz8 : (8 : Int) < ((bs p).size : Int) := by rw [hsz8]; omega
                  have hz9 : (9 : Int) ≤ ((bs p).size : Int) := by rw [hsz8]; omega
                  have hz9n : 9 ≤ (bs p).size := by rw [hsz8]; omega
                  have hx9 : (((bs p).extract 0 9).toList == [47, 106, 111, 117, 114, 110, 97, 108, 47]) = Disk.jp p := by
                    rw [str_eq_lit, hj9, decide_eq_true h8, Bool.true_and]
                    have e : ((bs p).extract 0 9).data.toList = p.take 9 := by
                      rw [ByteArray.data_extract]
                      simp [bs]
                    rw [e]
                    rfl
                  obtain ⟨jb, hjb⟩ : ∃ jb, jb = Disk.jp p := ⟨_, rfl⟩
                  have HJP : Hid (jb = Disk.jp p) := Lib.hid hjb
                  rw [← hjb] at hx9
                  clear hjb hj9 hs1 hpA hsz8
                  go_wp2
                  go_loop [14, 15] (fun bv q => ∃ (k : Nat) (b : Bool), bv = .bool b ∧ q = .int .i64 k ∧ k ≤ N ∧ b = (Disk.jp p || (ds.take k).any fun d => decide (d.path = p))) (fun _ q => N - (intOf q).toNat)
                  case atStart => exact ⟨0, _, rfl, rfl, by omega, by rw [← HJP.out]; simp⟩
                  case round =>
                    obtain ⟨k, b, rfl, rfl, hkN, hbv⟩ := hrel
                    have HBV := Lib.hid hbv
                    clear hbv
                    by_cases hkl : k < N
                    · obtain ⟨d, hd⟩ : ∃ d, ds[k]? = some d := ⟨_, List.getElem?_eq_getElem (by have := HN.out; omega)⟩
                      obtain ⟨bk, o, cap, hve, hbk, hbc⟩ := HDE.out.at (by have := HN.out; omega)
                      rw [← HN.out] at hve
                      cases hve
                      have d1 := (hbc k d hd).2.1
                      have hkI : (k : Int) < (N : Int) := by omega
                      have HBN : Hid ((b || decide (d.path = p)) = (Disk.jp p || (ds.take (k + 1)).any fun d => decide (d.path = p))) := Lib.hid (by rw [any_next hd, HBV.out, Bool.or_assoc])
                      have hqd : ((bs d.path).toList == (bs p).toList) = decide (d.path = p) := by
                        rw [bs_toList, bs_toList]
                        by_cases h : d.path = p
                        · rw [h, decide_eq_true rfl]; exact beq_self_eq_true _
                        · rw [decide_eq_false h]; exact beq_eq_false_iff_ne.2 h
                      obtain ⟨dp, hdp⟩ : ∃ x, x = d.path := ⟨_, rfl⟩
                      rw [← hdp] at d1 hqd HBN
                      clear hbc hd hdp
                      obtain ⟨bq, hbq⟩ : ∃ x, x = decide (dp = p) := ⟨_, rfl⟩
                      rw [← hbq] at hqd HBN
                      clear hbq
                      cases b
                      · go_wp2
                        go_round
                        case rel => exact ⟨k + 1, _, rfl, by go_num, by omega, by rw [← HBN.out]; rfl⟩
                        case measure => simp [intOf]; omega
                      · go_wp2
                        go_round
                        case rel => exact ⟨k + 1, _, rfl, by go_num, by omega, by rw [← HBN.out]; rfl⟩
                        case measure => simp [intOf]; omega
                    · have hkI : ¬ (k : Int) < (N : Int) := by omega
                      have hbt : b = true := by
                        rw [HBV.out, List.take_of_length_le (by rw [← HN.out]; omega)]
                        exact HOP.out
                      subst hbt
                      go_wp2
                      go_round
                      case rel => exact ⟨i + 1, by go_num, by omega⟩
                      case measure => simp [intOf]; omega
                · have hz8 : ¬ (8 : Int) < ((bs p).size : Int) := by rw [hsz8]; omega
                  have HJP : Hid (false = Disk.jp p) := Lib.hid (by rw [hj9, decide_eq_false h8]; rfl)
                  clear hj9 hs1 hpA hsz8
                  go_wp2
                  go_loop [14, 15] (fun bv q => ∃ (k : Nat) (b : Bool), bv = .bool b ∧ q = .int .i64 k ∧ k ≤ N ∧ b = (Disk.jp p || (ds.take k).any fun d => decide (d.path = p))) (fun _ q => N - (intOf q).toNat)
                  case atStart => exact ⟨0, _, rfl, rfl, by omega, by rw [← HJP.out]; simp⟩
                  case round =>
                    obtain ⟨k, b, rfl, rfl, hkN, hbv⟩ := hrel
                    have HBV := Lib.hid hbv
                    clear hbv
                    by_cases hkl : k < N
                    · obtain ⟨d, hd⟩ : ∃ d, ds[k]? = some d := ⟨_, List.getElem?_eq_getElem (by have := HN.out; omega)⟩
                      obtain ⟨bk, o, cap, hve, hbk, hbc⟩ := HDE.out.at (by have := HN.out; omega)
                      rw [← HN.out] at hve
                      cases hve
                      have d1 := (hbc k d hd).2.1
                      have hkI : (k : Int) < (N : Int) := by omega
                      have HBN : Hid ((b || decide (d.path = p)) = (Disk.jp p || (ds.take (k + 1)).any fun d => decide (d.path = p))) := Lib.hid (by rw [any_next hd, HBV.out, Bool.or_assoc])
                      have hqd : ((bs d.path).toList == (bs p).toList) = decide (d.path = p) := by
                        rw [bs_toList, bs_toList]
                        by_cases h : d.path = p
                        · rw [h, decide_eq_true rfl]; exact beq_self_eq_true _
                        · rw [decide_eq_false h]; exact beq_eq_false_iff_ne.2 h
                      obtain ⟨dp, hdp⟩ : ∃ x, x = d.path := ⟨_, rfl⟩
                      rw [← hdp] at d1 hqd HBN
                      clear hbc hd hdp
                      obtain ⟨bq, hbq⟩ : ∃ x, x = decide (dp = p) := ⟨_, rfl⟩
                      rw [← hbq] at hqd HBN
                      clear hbq
                      cases b
                      · go_wp2
                        go_round
                        case rel => exact ⟨k + 1, _, rfl, by go_num, by omega, by rw [← HBN.out]; rfl⟩
                        case measure => simp [intOf]; omega
                      · go_wp2
                        go_round
                        case rel => exact ⟨k + 1, _, rfl, by go_num, by omega, by rw [← HBN.out]; rfl⟩
                        case measure => simp [intOf]; omega
                    · have hkI : ¬ (k : Int) < (N : Int) := by omega
                      have hbt : b = true := by
                        rw [HBV.out, List.take_of_length_le (by rw [← HN.out]; omega)]
                        exact HOP.out
                      subst hbt
                      go_wp2
                      go_round
                      case rel => exact ⟨i + 1, by go_num, by omega⟩
                      case measure => simp [intOf]; omega
              · have hiI : ¬ (i : Int) < (R8 : Int) := by omega
                have HLV := Lib.hid (lives18_any w8 (HE1.out _ HS8.out.keeps))
                go_wp2_with fail
                refine HLV.out.mono ?_
                rintro e w9 ⟨rfl, hb9⟩
                have HB9 := Lib.hid (HEND.out _ _ _ (HS8.out.then_below hb9))
                clear hb9
                go_wp2
                go_returns
                exact ⟨rfl, HB9.out⟩
          · have HMI : Hid (Disk.kind s2.l Disk.jA = 0 ∨ s2.raws ≠ []) := Lib.hid (Or.inr hrr)
            obtain ⟨R, hR⟩ : ∃ R, R = s2.raws.length := ⟨_, rfl⟩
            have hRp : (0 : Int) < (R : Int) := by
              have : 0 < s2.raws.length := List.length_pos_iff.2 hrr
              omega
            have hRn : 0 < R := by omega
            have HR := Lib.hid hR
            clear hk1 hrr hR
            go_wp2_with fail
            refine HKI.out.mono ?_
            rintro e w4' ⟨rfl, hb5⟩
            have HRW5 := Lib.hid (HRW4.out w4' hb5)
            have HB5 := Lib.hid hb5
            clear hb5
            go_wp2_with fail
            refine HRW5.out.mono ?_
            rintro e w5 ⟨v6, rfl, hr6, hb6⟩
            obtain ⟨a6, c6, rfl⟩ := own_form hr6
            have HBQ := Lib.hid (HB5.out.trans (hb6.mono HB5.out.size))
            rw [← HR.out]
            clear hr6 hb6
            have HUP := Lib.hid (HUPF.out w5 HBQ.out)
            go_wp2_with fail
            refine HUP.out.mono ?_
            rintro e w6 ⟨rfl, hn6⟩
            have HS6 := Lib.hid hn6
            clear hn6
            obtain ⟨⟨O6, hd6, hO6⟩, hk6⟩ := HS6.out
            have HK6 := Lib.hid hk6
            have HO6 := Lib.hid hO6
            have HD6 := Lib.hid hd6
            clear hd6 hO6 hk6
            have HRC := Lib.hid (recover_any (M := 1048576) HD6.out (HE1.out _ HK6.out) HG.out (by omega) HCT.out.1 HCT.out.2)
            unfold JPost at HRC
            have HPR := Lib.hid (HKC.out HMI.out)
            obtain ⟨r, hr⟩ : ∃ r, r = (⟨s2.l, s2.raws, -1⟩ : Disk.S).recover parseJ := ⟨_, rfl⟩
            rw [← hr] at HRC HPR
            clear hr
            obtain ⟨rc, s7⟩ := r
            dsimp only at HRC
            go_wp2_with fail
            refine HRC.out.mono ?_
            rintro e w7 ⟨rfl, hn7⟩
            have HS7 := Lib.hid (DskNow.after HK6.out HO6.out hn7)
            have HP7 : Hid (Disk.Pth (fun p => ownP ds p = true) s7) := Lib.hid HPR.out
            clear hn7
            obtain ⟨⟨O7, hd7, hO7⟩, hk7⟩ := HS7.out
            have HK7 := Lib.hid hk7
            have HO7 := Lib.hid hO7
            have HD7 := Lib.hid hd7
            clear hd7 hO7 hk7
            have HRW7 := Lib.hid (Dsk.raws HD7.out (by omega))
            have HOFF7 := Lib.hid (HOFF1.out.keeps HK7.out HO7.out)
            go_wp2_with fail
            refine HRW7.out.mono ?_
            rintro e w8 ⟨v8, rfl, hr8, hb8⟩
            have HDE : Hid (PL.Deeds w8 w8.heap.size (.slice a2 N c2) ds) := Lib.hid ((HOFF7.out.deeds.below hb8 (Nat.le_refl _)).mono hb8.size)
            have HRS := Lib.hid (RwRow.rws hr8)
            have HS8 := Lib.hid (HS7.out.then_below hb8)
            obtain ⟨a8, c8, rfl⟩ := own_form hr8
            obtain ⟨R8, hR8⟩ : ∃ x, x = s7.raws.length := ⟨_, rfl⟩
            have HRL := Lib.hid hR8
            have hRb : R8 ≤ 1099511627776 := by
              obtain ⟨bm, m, rv, hm, _⟩ := HD7.out
              have := hm.2.1
              omega
            rw [← hR8]
            clear hr8 hb8 hR8
            go_wp2
            go_loop [12] (fun q => ∃ i : Nat, q = .int .i64 i ∧ i ≤ R8) (fun q => R8 - (intOf q).toNat)
            case atStart => exact ⟨0, rfl, by omega⟩
            case round =>
              obtain ⟨i, rfl, hi⟩ := hrel
              by_cases hiR : i < R8
              · obtain ⟨r, hr⟩ : ∃ r, s7.raws[i]? = some r := ⟨_, List.getElem?_eq_getElem (by have := HRL.out; omega)⟩
                obtain ⟨rb, ro, rcap, hve, hrb, hrc⟩ := HRS.out.at (by have := HRL.out; omega)
                rw [← HRL.out] at hve
                cases hve
                have r1 := (hrc i r hr).2.1
                have hiI : (i : Int) < (R8 : Int) := by omega
                have HOP0 := Lib.hid (HP7.out r (List.mem_of_getElem? hr))
                obtain ⟨p, hp⟩ : ∃ p, p = r.path := ⟨_, rfl⟩
                have HOP : Hid ((Disk.jp p || ds.any fun d => decide (d.path = p)) = true) := Lib.hid (by rw [hp]; exact HOP0.out)
                rw [← hp] at r1
                clear hrc hr hp HOP0
                have hs1 := str_eq_lit (bs p) [47, 106, 111, 117, 114, 110, 97, 108]
                rw [bs_list] at hs1
                by_cases hpA : p = Disk.jA
                · have q1 : ((bs p).toList == [47, 106, 111, 117, 114, 110, 97, 108]) = true := by rw [hs1]; exact decide_eq_true hpA
                  have HJP : Hid (true = Disk.jp p) := Lib.hid (by rw [hpA]; rfl)
                  clear hpA hs1
                  go_wp2
                  go_loop [14, 15] (fun bv q => ∃ (k : Nat) (b : Bool), bv = .bool b ∧ q = .int .i64 k ∧ k ≤ N ∧ b = (Disk.jp p || (ds.take k).any fun d => decide (d.path = p))) (fun _ q => N - (intOf q).toNat)
                  case atStart => exact ⟨0, _, rfl, rfl, by omega, by rw [← HJP.out]; simp⟩
                  case round =>
                    obtain ⟨k, b, rfl, rfl, hkN, hbv⟩ := hrel
                    have HBV := Lib.hid hbv
                    clear hbv
                    by_cases hkl : k < N
                    · obtain ⟨d, hd⟩ : ∃ d, ds[k]? = some d := ⟨_, List.getElem?_eq_getElem (by have := HN.out; omega)⟩
                      obtain ⟨bk, o, cap, hve, hbk, hbc⟩ := HDE.out.at (by have := HN.out; omega)
                      rw [← HN.out] at hve
                      cases hve
                      have d1 := (hbc k d hd).2.1
                      have hkI : (k : Int) < (N : Int) := by omega
                      have HBN : Hid ((b || decide (d.path = p)) = (Disk.jp p || (ds.take (k + 1)).any fun d => decide (d.path = p))) := Lib.hid (by rw [any_next hd, HBV.out, Bool.or_assoc])
                      have hqd : ((bs d.path).toList == (bs p).toList) = decide (d.path = p) := by
                        rw [bs_toList, bs_toList]
                        by_cases h : d.path = p
                        · rw [h, decide_eq_true rfl]; exact beq_self_eq_true _
                        · rw [decide_eq_false h]; exact beq_eq_false_iff_ne.2 h
                      obtain ⟨dp, hdp⟩ : ∃ x, x = d.path := ⟨_, rfl⟩
                      rw [← hdp] at d1 hqd HBN
                      clear hbc hd hdp
                      obtain ⟨bq, hbq⟩ : ∃ x, x = decide (dp = p) := ⟨_, rfl⟩
                      rw [← hbq] at hqd HBN
                      clear hbq
                      cases b
                      · go_wp2
                        go_round
                        case rel => exact ⟨k + 1, _, rfl, by go_num, by omega, by rw [← HBN.out]; rfl⟩
                        case measure => simp [intOf]; omega
                      · go_wp2
                        go_round
                        case rel => exact ⟨k + 1, _, rfl, by go_num, by omega, by rw [← HBN.out]; rfl⟩
                        case measure => simp [intOf]; omega
                    · have hkI : ¬ (k : Int) < (N : Int) := by omega
                      have hbt : b = true := by
                        rw [HBV.out, List.take_of_length_le (by rw [← HN.out]; omega)]
                        exact HOP.out
                      subst hbt
                      go_wp2
                      go_round
                      case rel => exact ⟨i + 1, by go_num, by omega⟩
                      case measure => simp [intOf]; omega
                have q1 : ((bs p).toList == [47, 106, 111, 117, 114, 110, 97, 108]) = false := by rw [hs1]; exact decide_eq_false hpA
                have hj9 := jp_nine hpA
                have hsz8 : (bs p).size = p.length := by show p.toArray.size = _; simp
                by_cases h8 : 8 < p.length
                · have hz8 : (8 : Int) < ((bs p).size : Int) := by rw [hsz8]; omega
                  have hz9 : (9 : Int) ≤ ((bs p).size : Int) := by rw [hsz8]; omega
                  have hz9n : 9 ≤ (bs p).size := by rw [hsz8]; omega
                  have hx9 : (((bs p).extract 0 9).toList == [47, 106, 111, 117, 114, 110, 97, 108, 47]) = Disk.jp p := by
                    rw [str_eq_lit, hj9, decide_eq_true h8, Bool.true_and]
                    have e : ((bs p).extract 0 9).data.toList = p.take 9 := by
                      rw [ByteArray.data_extract]
                      simp [bs]
                    rw [e]
                    rfl
                  obtain ⟨jb, hjb⟩ : ∃ jb, jb = Disk.jp p := ⟨_, rfl⟩
                  have HJP : Hid (jb = Disk.jp p) := Lib.hid hjb
                  rw [← hjb] at hx9
                  clear hjb hj9 hs1 hpA hsz8
                  go_wp2
                  go_loop [14, 15] (fun bv q => ∃ (k : Nat) (b : Bool), bv = .bool b ∧ q = .int .i64 k ∧ k ≤ N ∧ b = (Disk.jp p || (ds.take k).any fun d => decide (d.path = p))) (fun _ q => N - (intOf q).toNat)
                  case atStart => exact ⟨0, _, rfl, rfl, by omega, by rw [← HJP.out]; simp⟩
                  case round =>
                    obtain ⟨k, b, rfl, rfl, hkN, hbv⟩ := hrel
                    have HBV := Lib.hid hbv
                    clear hbv
                    by_cases hkl : k < N
                    · obtain ⟨d, hd⟩ : ∃ d, ds[k]? = some d := ⟨_, List.getElem?_eq_getElem (by have := HN.out; omega)⟩
                      obtain ⟨bk, o, cap, hve, hbk, hbc⟩ := HDE.out.at (by have := HN.out; omega)
                      rw [← HN.out] at hve
                      cases hve
                      have d1 := (hbc k d hd).2.1
                      have hkI : (k : Int) < (N : Int) := by omega
                      have HBN : Hid ((b || decide (d.path = p)) = (Disk.jp p || (ds.take (k + 1)).any fun d => decide (d.path = p))) := Lib.hid (by rw [any_next hd, HBV.out, Bool.or_assoc])
                      have hqd : ((bs d.path).toList == (bs p).toList) = decide (d.path = p) := by
                        rw [bs_toList, bs_toList]
                        by_cases h : d.path = p
                        · rw [h, decide_eq_true rfl]; exact beq_self_eq_true _
                        · rw [decide_eq_false h]; exact beq_eq_false_iff_ne.2 h
                      obtain ⟨dp, hdp⟩ : ∃ x, x = d.path := ⟨_, rfl⟩
                      rw [← hdp] at d1 hqd HBN
                      clear hbc hd hdp
                      obtain ⟨bq, hbq⟩ : ∃ x, x = decide (dp = p) := ⟨_, rfl⟩
                      rw [← hbq] at hqd HBN
                      clear hbq
                      cases b
                      · go_wp2
                        go_round
                        case rel => exact ⟨k + 1, _, rfl, by go_num, by omega, by rw [← HBN.out]; rfl⟩
                        case measure => simp [intOf]; omega
                      · go_wp2
                        go_round
                        case rel => exact ⟨k + 1, _, rfl, by go_num, by omega, by rw [← HBN.out]; rfl⟩
                        case measure => simp [intOf]; omega
                    · have hkI : ¬ (k : Int) < (N : Int) := by omega
                      have hbt : b = true := by
                        rw [HBV.out, List.take_of_length_le (by rw [← HN.out]; omega)]
                        exact HOP.out
                      subst hbt
                      go_wp2
                      go_round
                      case rel => exact ⟨i + 1, by go_num, by omega⟩
                      case measure => simp [intOf]; omega
                · have hz8 : ¬ (8 : Int) < ((bs p).size : Int) := by rw [hsz8]; omega
                  have HJP : Hid (false = Disk.jp p) := Lib.hid (by rw [hj9, decide_eq_false h8]; rfl)
                  clear hj9 hs1 hpA hsz8
                  go_wp2
                  go_loop [14, 15] (fun bv q => ∃ (k : Nat) (b : Bool), bv = .bool b ∧ q = .int .i64 k ∧ k ≤ N ∧ b = (Disk.jp p || (ds.take k).any fun d => decide (d.path = p))) (fun _ q => N - (intOf q).toNat)
                  case atStart => exact ⟨0, _, rfl, rfl, by omega, by rw [← HJP.out]; simp⟩
                  case round =>
                    obtain ⟨k, b, rfl, rfl, hkN, hbv⟩ := hrel
                    have HBV := Lib.hid hbv
                    clear hbv
                    by_cases hkl : k < N
                    · obtain ⟨d, hd⟩ : ∃ d, ds[k]? = some d := ⟨_, List.getElem?_eq_getElem (by have := HN.out; omega)⟩
                      obtain ⟨bk, o, cap, hve, hbk, hbc⟩ := HDE.out.at (by have := HN.out; omega)
                      rw [← HN.out] at hve
                      cases hve
                      have d1 := (hbc k d hd).2.1
                      have hkI : (k : Int) < (N : Int) := by omega
                      have HBN : Hid ((b || decide (d.path = p)) = (Disk.jp p || (ds.take (k + 1)).any fun d => decide (d.path = p))) := Lib.hid (by rw [any_next hd, HBV.out, Bool.or_assoc])
                      have hqd : ((bs d.path).toList == (bs p).toList) = decide (d.path = p) := by
                        rw [bs_toList, bs_toList]
                        by_cases h : d.path = p
                        · rw [h, decide_eq_true rfl]; exact beq_self_eq_true _
                        · rw [decide_eq_false h]; exact beq_eq_false_iff_ne.2 h
                      obtain ⟨dp, hdp⟩ : ∃ x, x = d.path := ⟨_, rfl⟩
                      rw [← hdp] at d1 hqd HBN
                      clear hbc hd hdp
                      obtain ⟨bq, hbq⟩ : ∃ x, x = decide (dp = p) := ⟨_, rfl⟩
                      rw [← hbq] at hqd HBN
                      clear hbq
                      cases b
                      · go_wp2
                        go_round
                        case rel => exact ⟨k + 1, _, rfl, by go_num, by omega, by rw [← HBN.out]; rfl⟩
                        case measure => simp [intOf]; omega
                      · go_wp2
                        go_round
                        case rel => exact ⟨k + 1, _, rfl, by go_num, by omega, by rw [← HBN.out]; rfl⟩
                        case measure => simp [intOf]; omega
                    · have hkI : ¬ (k : Int) < (N : Int) := by omega
                      have hbt : b = true := by
                        rw [HBV.out, List.take_of_length_le (by rw [← HN.out]; omega)]
                        exact HOP.out
                      subst hbt
                      go_wp2
                      go_round
                      case rel => exact ⟨i + 1, by go_num, by omega⟩
                      case measure => simp [intOf]; omega
              · have hiI : ¬ (i : Int) < (R8 : Int) := by omega
                have HLV := Lib.hid (lives18_any w8 (HE1.out _ HS8.out.keeps))
                go_wp2_with fail
                refine HLV.out.mono ?_
                rintro e w9 ⟨rfl, hb9⟩
                have HB9 := Lib.hid (HEND.out _ _ _ (HS8.out.then_below hb9))
                clear hb9
                go_wp2
                go_returns
                exact ⟨rfl, HB9.out⟩
      · have hq0 : ((N : Int) == 0) = false := beq_eq_false_iff_ne.2 (by omega)
        clear hN0
        obtain ⟨w4, hw4⟩ : ∃ x, x = w3 := ⟨w3, rfl⟩
        have HS4 : Hid (DskNow w1 w4 w.heap.size O sd (1048576 + N + 6) s2) := Lib.hid (by rw [hw4]; exact HS3.out)
        rw [← hw4]
        clear hw4
        obtain ⟨⟨O4, hd4, hO4⟩, hk4⟩ := HS4.out
        have HK4 := Lib.hid hk4
        have HO4 := Lib.hid hO4
        have HD4 := Lib.hid hd4
        clear hd4 hO4 hk4
        have HKI : Hid (Calls Tryz.prog 11 #[.pointer (some ⟨sd, 0, none⟩), .string ⟨#[47, 106, 111, 117, 114, 110, 97, 108]⟩] w4 fun e w' => e = .returned (.int .i64 (Disk.kind s2.l Disk.jA)) ∧ Below w4.heap.size w4 w') := Lib.hid (Dsk.kind HD4.out Disk.jA (by decide))
        have HKC : Hid ((Disk.kind s2.l Disk.jA = 0 ∨ s2.raws ≠ []) → Disk.Pth (fun p => ownP ds p = true) ((⟨s2.l, s2.raws, -1⟩ : Disk.S).recover parseJ).2) := Lib.hid (fun hm => by
          rcases HQ2.out with ⟨h1, h2⟩ | ⟨h1, h2, h3⟩
          · rcases hm with hm | hm
            · rw [Disk.recover_none (s := ⟨s2.l, s2.raws, -1⟩) (show ¬ (-1 : Int) = 0 by decide) hm]
              intro r hr
              dsimp only at hr
              rw [h1] at hr
              exact absurd hr (by simp)
            · exact absurd h1 hm
          · refine Disk.recover_quiet (X := PL.Plan.text ds) (ds := ds.map toDd) ?_ h2 h3 (fun d hd => ?_) rfl rfl rfl
            · unfold parseJ; rw [PL.Plan.parse_text (canJ_ok h1)]
            · obtain ⟨x, hx, rfl⟩ := List.mem_map.1 hd
              show (_ || _) = true
              rw [Bool.or_eq_true]
              exact Or.inr (List.any_eq_true.2 ⟨x, hx, decide_eq_true rfl⟩))
        have HPE : Hid (s2.raws = [] → Disk.Pth (fun p => ownP ds p = true) ⟨s2.l, s2.raws, -1⟩) := Lib.hid (fun h r hr => by dsimp only at hr; rw [h] at hr; exact absurd hr (by simp))
        have HRW4 : Hid (∀ V, Below w4.heap.size w4 V → Calls Tryz.prog 10 #[.pointer (some ⟨sd, 0, none⟩)] V fun e w' => ∃ v, e = .returned v ∧ RwRow w' V.heap.size v s2.raws ∧ Below V.heap.size V w') := Lib.hid (fun V hV => Dsk.raws (HD4.out.below hV) (by omega))
        have HUPF : Hid (∀ V, Below w4.heap.size w4 V → Calls Tryz.prog 12 #[.pointer (some ⟨sd, 0, none⟩)] V fun e w' => e = .returned (.tuple #[]) ∧ DskNow w1 w' w.heap.size O sd (1048576 + N + 6) ⟨s2.l, s2.raws, -1⟩) := Lib.hid (fun V hV => (up_any (HD4.out.below hV)).mono fun e w' h => ⟨h.1, DskNow.after (HK4.out.then_below hV) HO4.out h.2⟩)
        obtain ⟨kk, hkk⟩ : ∃ kk, kk = Disk.kind s2.l Disk.jA := ⟨_, rfl⟩
        rw [← hkk] at HKI
        have HKK := Lib.hid hkk
        clear hkk
        by_cases hk1 : kk = 0
        · have HMI : Hid (Disk.kind s2.l Disk.jA = 0 ∨ s2.raws ≠ []) := Lib.hid (Or.inl (by rw [← HKK.out]; exact hk1))
          subst hk1
          go_wp2_with fail
          refine HKI.out.mono ?_
          rintro e w5 ⟨rfl, hb5⟩
          have HBQ := Lib.hid hb5
          clear hb5
          have HUP := Lib.hid (HUPF.out w5 HBQ.out)
          go_wp2_with fail
          refine HUP.out.mono ?_
          rintro e w6 ⟨rfl, hn6⟩
          have HS6 := Lib.hid hn6
          clear hn6
          obtain ⟨⟨O6, hd6, hO6⟩, hk6⟩ := HS6.out
          have HK6 := Lib.hid hk6
          have HO6 := Lib.hid hO6
          have HD6 := Lib.hid hd6
          clear hd6 hO6 hk6
          have HRC := Lib.hid (recover_any (M := 1048576) HD6.out (HE1.out _ HK6.out) HG.out (by omega) HCT.out.1 HCT.out.2)
          unfold JPost at HRC
          have HPR := Lib.hid (HKC.out HMI.out)
          obtain ⟨r, hr⟩ : ∃ r, r = (⟨s2.l, s2.raws, -1⟩ : Disk.S).recover parseJ := ⟨_, rfl⟩
          rw [← hr] at HRC HPR
          clear hr
          obtain ⟨rc, s7⟩ := r
          dsimp only at HRC
          go_wp2_with fail
          refine HRC.out.mono ?_
          rintro e w7 ⟨rfl, hn7⟩
          have HS7 := Lib.hid (DskNow.after HK6.out HO6.out hn7)
          have HP7 : Hid (Disk.Pth (fun p => ownP ds p = true) s7) := Lib.hid HPR.out
          clear hn7
          obtain ⟨⟨O7, hd7, hO7⟩, hk7⟩ := HS7.out
          have HK7 := Lib.hid hk7
          have HO7 := Lib.hid hO7
          have HD7 := Lib.hid hd7
          clear hd7 hO7 hk7
          have HRW7 := Lib.hid (Dsk.raws HD7.out (by omega))
          have HOFF7 := Lib.hid (HOFF1.out.keeps HK7.out HO7.out)
          go_wp2_with fail
          refine HRW7.out.mono ?_
          rintro e w8 ⟨v8, rfl, hr8, hb8⟩
          have HDE : Hid (PL.Deeds w8 w8.heap.size (.slice a2 N c2) ds) := Lib.hid ((HOFF7.out.deeds.below hb8 (Nat.le_refl _)).mono hb8.size)
          have HRS := Lib.hid (RwRow.rws hr8)
          have HS8 := Lib.hid (HS7.out.then_below hb8)
          obtain ⟨a8, c8, rfl⟩ := own_form hr8
          obtain ⟨R8, hR8⟩ : ∃ x, x = s7.raws.length := ⟨_, rfl⟩
          have HRL := Lib.hid hR8
          have hRb : R8 ≤ 1099511627776 := by
            obtain ⟨bm, m, rv, hm, _⟩ := HD7.out
            have := hm.2.1
            omega
          rw [← hR8]
          clear hr8 hb8 hR8
          go_wp2
          go_loop [12] (fun q => ∃ i : Nat, q = .int .i64 i ∧ i ≤ R8) (fun q => R8 - (intOf q).toNat)
          case atStart => exact ⟨0, rfl, by omega⟩
          case round =>
            obtain ⟨i, rfl, hi⟩ := hrel
            by_cases hiR : i < R8
            · obtain ⟨r, hr⟩ : ∃ r, s7.raws[i]? = some r := ⟨_, List.getElem?_eq_getElem (by have := HRL.out; omega)⟩
              obtain ⟨rb, ro, rcap, hve, hrb, hrc⟩ := HRS.out.at (by have := HRL.out; omega)
              rw [← HRL.out] at hve
              cases hve
              have r1 := (hrc i r hr).2.1
              have hiI : (i : Int) < (R8 : Int) := by omega
              have HOP0 := Lib.hid (HP7.out r (List.mem_of_getElem? hr))
              obtain ⟨p, hp⟩ : ∃ p, p = r.path := ⟨_, rfl⟩
              have HOP : Hid ((Disk.jp p || ds.any fun d => decide (d.path = p)) = true) := Lib.hid (by rw [hp]; exact HOP0.out)
              rw [← hp] at r1
              clear hrc hr hp HOP0
              have hs1 := str_eq_lit (bs p) [47, 106, 111, 117, 114, 110, 97, 108]
              rw [bs_list] at hs1
              by_cases hpA : p = Disk.jA
              · have q1 : ((bs p).toList == [47, 106, 111, 117, 114, 110, 97, 108]) = true := by rw [hs1]; exact decide_eq_true hpA
                have HJP : Hid (true = Disk.jp p) := Lib.hid (by rw [hpA]; rfl)
                clear hpA hs1
                go_wp2
                go_loop [14, 15] (fun bv q => ∃ (k : Nat) (b : Bool), bv = .bool b ∧ q = .int .i64 k ∧ k ≤ N ∧ b = (Disk.jp p || (ds.take k).any fun d => decide (d.path = p))) (fun _ q => N - (intOf q).toNat)
                case atStart => exact ⟨0, _, rfl, rfl, by omega, by rw [← HJP.out]; simp⟩
                case round =>
                  obtain ⟨k, b, rfl, rfl, hkN, hbv⟩ := hrel
                  have HBV := Lib.hid hbv
                  clear hbv
                  by_cases hkl : k < N
                  · obtain ⟨d, hd⟩ : ∃ d, ds[k]? = some d := ⟨_, List.getElem?_eq_getElem (by have := HN.out; omega)⟩
                    obtain ⟨bk, o, cap, hve, hbk, hbc⟩ := HDE.out.at (by have := HN.out; omega)
                    rw [← HN.out] at hve
                    cases hve
                    have d1 := (hbc k d hd).2.1
                    have hkI : (k : Int) < (N : Int) := by omega
                    have HBN : Hid ((b || decide (d.path = p)) = (Disk.jp p || (ds.take (k + 1)).any fun d => decide (d.path = p))) := Lib.hid (by rw [any_next hd, HBV.out, Bool.or_assoc])
                    have hqd : ((bs d.path).toList == (bs p).toList) = decide (d.path = p) := by
                      rw [bs_toList, bs_toList]
                      by_cases h : d.path = p
                      · rw [h, decide_eq_true rfl]; exact beq_self_eq_true _
                      · rw [decide_eq_false h]; exact beq_eq_false_iff_ne.2 h
                    obtain ⟨dp, hdp⟩ : ∃ x, x = d.path := ⟨_, rfl⟩
                    rw [← hdp] at d1 hqd HBN
                    clear hbc hd hdp
                    obtain ⟨bq, hbq⟩ : ∃ x, x = decide (dp = p) := ⟨_, rfl⟩
                    rw [← hbq] at hqd HBN
                    clear hbq
                    cases b
                    · go_wp2
                      go_round
                      case rel => exact ⟨k + 1, _, rfl, by go_num, by omega, by rw [← HBN.out]; rfl⟩
                      case measure => simp [intOf]; omega
                    · go_wp2
                      go_round
                      case rel => exact ⟨k + 1, _, rfl, by go_num, by omega, by rw [← HBN.out]; rfl⟩
                      case measure => simp [intOf]; omega
                  · have hkI : ¬ (k : Int) < (N : Int) := by omega
                    have hbt : b = true := by
                      rw [HBV.out, List.take_of_length_le (by rw [← HN.out]; omega)]
                      exact HOP.out
                    subst hbt
                    go_wp2
                    go_round
                    case rel => exact ⟨i + 1, by go_num, by omega⟩
                    case measure => simp [intOf]; omega
              have q1 : ((bs p).toList == [47, 106, 111, 117, 114, 110, 97, 108]) = false := by rw [hs1]; exact decide_eq_false hpA
              have hj9 := jp_nine hpA
              have hsz8 : (bs p).size = p.length := by show p.toArray.size = _; simp
              by_cases h8 : 8 < p.length
              · have hz8 : (8 : Int) < ((bs p).size : Int) := by rw [hsz8]; omega
                have hz9 : (9 : Int) ≤ ((bs p).size : Int) := by rw [hsz8]; omega
                have hz9n : 9 ≤ (bs p).size := by rw [hsz8]; omega
                have hx9 : (((bs p).extract 0 9).toList == [47, 106, 111, 117, 114, 110, 97, 108, 47]) = Disk.jp p := by
                  rw [str_eq_lit, hj9, decide_eq_true h8, Bool.true_and]
                  have e : ((bs p).extract 0 9).data.toList = p.take 9 := by
                    rw [ByteArray.data_extract]
                    simp [bs]
                  rw [e]
                  rfl
                obtain ⟨jb, hjb⟩ : ∃ jb, jb = Disk.jp p := ⟨_, rfl⟩
                have HJP : Hid (jb = Disk.jp p) := Lib.hid hjb
                rw [← hjb] at hx9
                clear hjb hj9 hs1 hpA hsz8
                go_wp2
                go_loop [14, 15] (fun bv q => ∃ (k : Nat) (b : Bool), bv = .bool b ∧ q = .int .i64 k ∧ k ≤ N ∧ b = (Disk.jp p || (ds.take k).any fun d => decide (d.path = p))) (fun _ q => N - (intOf q).toNat)
                case atStart => exact ⟨0, _, rfl, rfl, by omega, by rw [← HJP.out]; simp⟩
                case round =>
                  obtain ⟨k, b, rfl, rfl, hkN, hbv⟩ := hrel
                  have HBV := Lib.hid hbv
                  clear hbv
                  by_cases hkl : k < N
                  · obtain ⟨d, hd⟩ : ∃ d, ds[k]? = some d := ⟨_, List.getElem?_eq_getElem (by have := HN.out; omega)⟩
                    obtain ⟨bk, o, cap, hve, hbk, hbc⟩ := HDE.out.at (by have := HN.out; omega)
                    rw [← HN.out] at hve
                    cases hve
                    have d1 := (hbc k d hd).2.1
                    have hkI : (k : Int) < (N : Int) := by omega
                    have HBN : Hid ((b || decide (d.path = p)) = (Disk.jp p || (ds.take (k + 1)).any fun d => decide (d.path = p))) := Lib.hid (by rw [any_next hd, HBV.out, Bool.or_assoc])
                    have hqd : ((bs d.path).toList == (bs p).toList) = decide (d.path = p) := by
                      rw [bs_toList, bs_toList]
                      by_cases h : d.path = p
                      · rw [h, decide_eq_true rfl]; exact beq_self_eq_true _
                      · rw [decide_eq_false h]; exact beq_eq_false_iff_ne.2 h
                    obtain ⟨dp, hdp⟩ : ∃ x, x = d.path := ⟨_, rfl⟩
                    rw [← hdp] at d1 hqd HBN
                    clear hbc hd hdp
                    obtain ⟨bq, hbq⟩ : ∃ x, x = decide (dp = p) := ⟨_, rfl⟩
                    rw [← hbq] at hqd HBN
                    clear hbq
                    cases b
                    · go_wp2
                      go_round
                      case rel => exact ⟨k + 1, _, rfl, by go_num, by omega, by rw [← HBN.out]; rfl⟩
                      case measure => simp [intOf]; omega
                    · go_wp2
                      go_round
                      case rel => exact ⟨k + 1, _, rfl, by go_num, by omega, by rw [← HBN.out]; rfl⟩
                      case measure => simp [intOf]; omega
                  · have hkI : ¬ (k : Int) < (N : Int) := by omega
                    have hbt : b = true := by
                      rw [HBV.out, List.take_of_length_le (by rw [← HN.out]; omega)]
                      exact HOP.out
                    subst hbt
                    go_wp2
                    go_round
                    case rel => exact ⟨i + 1, by go_num, by omega⟩
                    case measure => simp [intOf]; omega
              · have hz8 : ¬ (8 : Int) < ((bs p).size : Int) := by rw [hsz8]; omega
                have HJP : Hid (false = Disk.jp p) := Lib.hid (by rw [hj9, decide_eq_false h8]; rfl)
                clear hj9 hs1 hpA hsz8
                go_wp2
                go_loop [14, 15] (fun bv q => ∃ (k : Nat) (b : Bool), bv = .bool b ∧ q = .int .i64 k ∧ k ≤ N ∧ b = (Disk.jp p || (ds.take k).any fun d => decide (d.path = p))) (fun _ q => N - (intOf q).toNat)
                case atStart => exact ⟨0, _, rfl, rfl, by omega, by rw [← HJP.out]; simp⟩
                case round =>
                  obtain ⟨k, b, rfl, rfl, hkN, hbv⟩ := hrel
                  have HBV := Lib.hid hbv
                  clear hbv
                  by_cases hkl : k < N
                  · obtain ⟨d, hd⟩ : ∃ d, ds[k]? = some d := ⟨_, List.getElem?_eq_getElem (by have := HN.out; omega)⟩
                    obtain ⟨bk, o, cap, hve, hbk, hbc⟩ := HDE.out.at (by have := HN.out; omega)
                    rw [← HN.out] at hve
                    cases hve
                    have d1 := (hbc k d hd).2.1
                    have hkI : (k : Int) < (N : Int) := by omega
                    have HBN : Hid ((b || decide (d.path = p)) = (Disk.jp p || (ds.take (k + 1)).any fun d => decide (d.path = p))) := Lib.hid (by rw [any_next hd, HBV.out, Bool.or_assoc])
                    have hqd : ((bs d.path).toList == (bs p).toList) = decide (d.path = p) := by
                      rw [bs_toList, bs_toList]
                      by_cases h : d.path = p
                      · rw [h, decide_eq_true rfl]; exact beq_self_eq_true _
                      · rw [decide_eq_false h]; exact beq_eq_false_iff_ne.2 h
                    obtain ⟨dp, hdp⟩ : ∃ x, x = d.path := ⟨_, rfl⟩
                    rw [← hdp] at d1 hqd HBN
                    clear hbc hd hdp
                    obtain ⟨bq, hbq⟩ : ∃ x, x = decide (dp = p) := ⟨_, rfl⟩
                    rw [← hbq] at hqd HBN
                    clear hbq
                    cases b
                    · go_wp2
                      go_round
                      case rel => exact ⟨k + 1, _, rfl, by go_num, by omega, by rw [← HBN.out]; rfl⟩
                      case measure => simp [intOf]; omega
                    · go_wp2
                      go_round
                      case rel => exact ⟨k + 1, _, rfl, by go_num, by omega, by rw [← HBN.out]; rfl⟩
                      case measure => simp [intOf]; omega
                  · have hkI : ¬ (k : Int) < (N : Int) := by omega
                    have hbt : b = true := by
                      rw [HBV.out, List.take_of_length_le (by rw [← HN.out]; omega)]
                      exact HOP.out
                    subst hbt
                    go_wp2
                    go_round
                    case rel => exact ⟨i + 1, by go_num, by omega⟩
                    case measure => simp [intOf]; omega
            · have hiI : ¬ (i : Int) < (R8 : Int) := by omega
              have HLV := Lib.hid (lives18_any w8 (HE1.out _ HS8.out.keeps))
              go_wp2_with fail
              refine HLV.out.mono ?_
              rintro e w9 ⟨rfl, hb9⟩
              have HB9 := Lib.hid (HEND.out _ _ _ (HS8.out.then_below hb9))
              clear hb9
              go_wp2
              go_returns
              exact ⟨rfl, HB9.out⟩
        · have hqk : (kk == 0) = false := beq_eq_false_iff_ne.2 hk1
          by_cases hrr : s2.raws = []
          · have HPX := Lib.hid (HPE.out hrr)
            have hrl : s2.raws.length = 0 := by rw [hrr]; rfl
            have HRL0 := Lib.hid hrl
            clear hk1 hrr hrl
            go_wp2_with fail
            refine HKI.out.mono ?_
            rintro e w4' ⟨rfl, hb5⟩
            have HRW5 := Lib.hid (HRW4.out w4' hb5)
            have HB5 := Lib.hid hb5
            clear hb5
            go_wp2_with fail
            refine HRW5.out.mono ?_
            rintro e w5 ⟨v6, rfl, hr6, hb6⟩
            obtain ⟨a6, c6, rfl⟩ := own_form hr6
            have HBQ := Lib.hid (HB5.out.trans (hb6.mono HB5.out.size))
            rw [HRL0.out]
            clear hr6 hb6
            have HUP := Lib.hid (HUPF.out w5 HBQ.out)
            go_wp2_with fail
            refine HUP.out.mono ?_
            rintro e w6 ⟨rfl, hn6⟩
            have HS6 := Lib.hid hn6
            clear hn6
            have HS7 := Lib.hid (HS6.out.more (show 1048576 + N + 6 ≤ 1048576 + N + 6 + 1048576 + 3 by omega))
            have HP7 : Hid (Disk.Pth (fun p => ownP ds p = true) ⟨s2.l, s2.raws, -1⟩) := Lib.hid HPX.out
            obtain ⟨s7, hs7⟩ : ∃ x, x = (⟨s2.l, s2.raws, -1⟩ : Disk.S) := ⟨_, rfl⟩
            rw [← hs7] at HS7 HP7
            clear hs7
            obtain ⟨w7, hw7⟩ : ∃ x, x = w6 := ⟨w6, rfl⟩
            rw [← hw7] at HS7 ⊢
            clear hw7
            obtain ⟨⟨O7, hd7, hO7⟩, hk7⟩ := HS7.out
            have HK7 := Lib.hid hk7
            have HO7 := Lib.hid hO7
            have HD7 := Lib.hid hd7
            clear hd7 hO7 hk7
            have HRW7 := Lib.hid (Dsk.raws HD7.out (by omega))
            have HOFF7 := Lib.hid (HOFF1.out.keeps HK7.out HO7.out)
            go_wp2_with fail
            refine HRW7.out.mono ?_
            rintro e w8 ⟨v8, rfl, hr8, hb8⟩
            have HDE : Hid (PL.Deeds w8 w8.heap.size (.slice a2 N c2) ds) := Lib.hid ((HOFF7.out.deeds.below hb8 (Nat.le_refl _)).mono hb8.size)
            have HRS := Lib.hid (RwRow.rws hr8)
            have HS8 := Lib.hid (HS7.out.then_below hb8)
            obtain ⟨a8, c8, rfl⟩ := own_form hr8
            obtain ⟨R8, hR8⟩ : ∃ x, x = s7.raws.length := ⟨_, rfl⟩
            have HRL := Lib.hid hR8
            have hRb : R8 ≤ 1099511627776 := by
              obtain ⟨bm, m, rv, hm, _⟩ := HD7.out
              have := hm.2.1
              omega
            rw [← hR8]
            clear hr8 hb8 hR8
            go_wp2
            go_loop [12] (fun q => ∃ i : Nat, q = .int .i64 i ∧ i ≤ R8) (fun q => R8 - (intOf q).toNat)
            case atStart => exact ⟨0, rfl, by omega⟩
            case round =>
              obtain ⟨i, rfl, hi⟩ := hrel
              by_cases hiR : i < R8
              · obtain ⟨r, hr⟩ : ∃ r, s7.raws[i]? = some r := ⟨_, List.getElem?_eq_getElem (by have := HRL.out; omega)⟩
                obtain ⟨rb, ro, rcap, hve, hrb, hrc⟩ := HRS.out.at (by have := HRL.out; omega)
                rw [← HRL.out] at hve
                cases hve
                have r1 := (hrc i r hr).2.1
                have hiI : (i : Int) < (R8 : Int) := by omega
                have HOP0 := Lib.hid (HP7.out r (List.mem_of_getElem? hr))
                obtain ⟨p, hp⟩ : ∃ p, p = r.path := ⟨_, rfl⟩
                have HOP : Hid ((Disk.jp p || ds.any fun d => decide (d.path = p)) = true) := Lib.hid (by rw [hp]; exact HOP0.out)
                rw [← hp] at r1
                clear hrc hr hp HOP0
                have hs1 := str_eq_lit (bs p) [47, 106, 111, 117, 114, 110, 97, 108]
                rw [bs_list] at hs1
                by_cases hpA : p = Disk.jA
                · have q1 : ((bs p).toList == [47, 106, 111, 117, 114, 110, 97, 108]) = true := by rw [hs1]; exact decide_eq_true hpA
                  have HJP : Hid (true = Disk.jp p) := Lib.hid (by rw [hpA]; rfl)
                  clear hpA hs1
                  go_wp2
                  go_loop [14, 15] (fun bv q => ∃ (k : Nat) (b : Bool), bv = .bool b ∧ q = .int .i64 k ∧ k ≤ N ∧ b = (Disk.jp p || (ds.take k).any fun d => decide (d.path = p))) (fun _ q => N - (intOf q).toNat)
                  case atStart => exact ⟨0, _, rfl, rfl, by omega, by rw [← HJP.out]; simp⟩
                  case round =>
                    obtain ⟨k, b, rfl, rfl, hkN, hbv⟩ := hrel
                    have HBV := Lib.hid hbv
                    clear hbv
                    by_cases hkl : k < N
                    · obtain ⟨d, hd⟩ : ∃ d, ds[k]? = some d := ⟨_, List.getElem?_eq_getElem (by have := HN.out; omega)⟩
                      obtain ⟨bk, o, cap, hve, hbk, hbc⟩ := HDE.out.at (by have := HN.out; omega)
                      rw [← HN.out] at hve
                      cases hve
                      have d1 := (hbc k d hd).2.1
                      have hkI : (k : Int) < (N : Int) := by omega
                      have HBN : Hid ((b || decide (d.path = p)) = (Disk.jp p || (ds.take (k + 1)).any fun d => decide (d.path = p))) := Lib.hid (by rw [any_next hd, HBV.out, Bool.or_assoc])
                      have hqd : ((bs d.path).toList == (bs p).toList) = decide (d.path = p) := by
                        rw [bs_toList, bs_toList]
                        by_cases h : d.path = p
                        · rw [h, decide_eq_true rfl]; exact beq_self_eq_true _
                        · rw [decide_eq_false h]; exact beq_eq_false_iff_ne.2 h
                      obtain ⟨dp, hdp⟩ : ∃ x, x = d.path := ⟨_, rfl⟩
                      rw [← hdp] at d1 hqd HBN
                      clear hbc hd hdp
                      obtain ⟨bq, hbq⟩ : ∃ x, x = decide (dp = p) := ⟨_, rfl⟩
                      rw [← hbq] at hqd HBN
                      clear hbq
                      cases b
                      · go_wp2
                        go_round
                        case rel => exact ⟨k + 1, _, rfl, by go_num, by omega, by rw [← HBN.out]; rfl⟩
                        case measure => simp [intOf]; omega
                      · go_wp2
                        go_round
                        case rel => exact ⟨k + 1, _, rfl, by go_num, by omega, by rw [← HBN.out]; rfl⟩
                        case measure => simp [intOf]; omega
                    · have hkI : ¬ (k : Int) < (N : Int) := by omega
                      have hbt : b = true := by
                        rw [HBV.out, List.take_of_length_le (by rw [← HN.out]; omega)]
                        exact HOP.out
                      subst hbt
                      go_wp2
                      go_round
                      case rel => exact ⟨i + 1, by go_num, by omega⟩
                      case measure => simp [intOf]; omega
                have q1 : ((bs p).toList == [47, 106, 111, 117, 114, 110, 97, 108]) = false := by rw [hs1]; exact decide_eq_false hpA
                have hj9 := jp_nine hpA
                have hsz8 : (bs p).size = p.length := by show p.toArray.size = _; simp
                by_cases h8 : 8 < p.length
                · have hz8 : (8 : Int) < ((bs p).size : Int) := by rw [hsz8]; omega
                  have hz9 : (9 : Int) ≤ ((bs p).size : Int) := by rw [hsz8]; omega
                  have hz9n : 9 ≤ (bs p).size := by rw [hsz8]; omega
                  have hx9 : (((bs p).extract 0 9).toList == [47, 106, 111, 117, 114, 110, 97, 108, 47]) = Disk.jp p := by
                    rw [str_eq_lit, hj9, decide_eq_true h8, Bool.true_and]
                    have e : ((bs p).extract 0 9).data.toList = p.take 9 := by
                      rw [ByteArray.data_extract]
                      simp [bs]
                    rw [e]
                    rfl
                  obtain ⟨jb, hjb⟩ : ∃ jb, jb = Disk.jp p := ⟨_, rfl⟩
                  have HJP : Hid (jb = Disk.jp p) := Lib.hid hjb
                  rw [← hjb] at hx9
                  clear hjb hj9 hs1 hpA hsz8
                  go_wp2
                  go_loop [14, 15] (fun bv q => ∃ (k : Nat) (b : Bool), bv = .bool b ∧ q = .int .i64 k ∧ k ≤ N ∧ b = (Disk.jp p || (ds.take k).any fun d => decide (d.path = p))) (fun _ q => N - (intOf q).toNat)
                  case atStart => exact ⟨0, _, rfl, rfl, by omega, by rw [← HJP.out]; simp⟩
                  case round =>
                    obtain ⟨k, b, rfl, rfl, hkN, hbv⟩ := hrel
                    have HBV := Lib.hid hbv
                    clear hbv
                    by_cases hkl : k < N
                    · obtain ⟨d, hd⟩ : ∃ d, ds[k]? = some d := ⟨_, List.getElem?_eq_getElem (by have := HN.out; omega)⟩
                      obtain ⟨bk, o, cap, hve, hbk, hbc⟩ := HDE.out.at (by have := HN.out; omega)
                      rw [← HN.out] at hve
                      cases hve
                      have d1 := (hbc k d hd).2.1
                      have hkI : (k : Int) < (N : Int) := by omega
                      have HBN : Hid ((b || decide (d.path = p)) = (Disk.jp p || (ds.take (k + 1)).any fun d => decide (d.path = p))) := Lib.hid (by rw [any_next hd, HBV.out, Bool.or_assoc])
                      have hqd : ((bs d.path).toList == (bs p).toList) = decide (d.path = p) := by
                        rw [bs_toList, bs_toList]
                        by_cases h : d.path = p
                        · rw [h, decide_eq_true rfl]; exact beq_self_eq_true _
                        · rw [decide_eq_false h]; exact beq_eq_false_iff_ne.2 h
                      obtain ⟨dp, hdp⟩ : ∃ x, x = d.path := ⟨_, rfl⟩
                      rw [← hdp] at d1 hqd HBN
                      clear hbc hd hdp
                      obtain ⟨bq, hbq⟩ : ∃ x, x = decide (dp = p) := ⟨_, rfl⟩
                      rw [← hbq] at hqd HBN
                      clear hbq
                      cases b
                      · go_wp2
                        go_round
                        case rel => exact ⟨k + 1, _, rfl, by go_num, by omega, by rw [← HBN.out]; rfl⟩
                        case measure => simp [intOf]; omega
                      · go_wp2
                        go_round
                        case rel => exact ⟨k + 1, _, rfl, by go_num, by omega, by rw [← HBN.out]; rfl⟩
                        case measure => simp [intOf]; omega
                    · have hkI : ¬ (k : Int) < (N : Int) := by omega
                      have hbt : b = true := by
                        rw [HBV.out, List.take_of_length_le (by rw [← HN.out]; omega)]
                        exact HOP.out
                      subst hbt
                      go_wp2
                      go_round
                      case rel => exact ⟨i + 1, by go_num, by omega⟩
                      case measure => simp [intOf]; omega
                · have hz8 : ¬ (8 : Int) < ((bs p).size : Int) := by rw [hsz8]; omega
                  have HJP : Hid (false = Disk.jp p) := Lib.hid (by rw [hj9, decide_eq_false h8]; rfl)
                  clear hj9 hs1 hpA hsz8
                  go_wp2
                  go_loop [14, 15] (fun bv q => ∃ (k : Nat) (b : Bool), bv = .bool b ∧ q = .int .i64 k ∧ k ≤ N ∧ b = (Disk.jp p || (ds.take k).any fun d => decide (d.path = p))) (fun _ q => N - (intOf q).toNat)
                  case atStart => exact ⟨0, _, rfl, rfl, by omega, by rw [← HJP.out]; simp⟩
                  case round =>
                    obtain ⟨k, b, rfl, rfl, hkN, hbv⟩ := hrel
                    have HBV := Lib.hid hbv
                    clear hbv
                    by_cases hkl : k < N
                    · obtain ⟨d, hd⟩ : ∃ d, ds[k]? = some d := ⟨_, List.getElem?_eq_getElem (by have := HN.out; omega)⟩
                      obtain ⟨bk, o, cap, hve, hbk, hbc⟩ := HDE.out.at (by have := HN.out; omega)
                      rw [← HN.out] at hve
                      cases hve
                      have d1 := (hbc k d hd).2.1
                      have hkI : (k : Int) < (N : Int) := by omega
                      have HBN : Hid ((b || decide (d.path = p)) = (Disk.jp p || (ds.take (k + 1)).any fun d => decide (d.path = p))) := Lib.hid (by rw [any_next hd, HBV.out, Bool.or_assoc])
                      have hqd : ((bs d.path).toList == (bs p).toList) = decide (d.path = p) := by
                        rw [bs_toList, bs_toList]
                        by_cases h : d.path = p
                        · rw [h, decide_eq_true rfl]; exact beq_self_eq_true _
                        · rw [decide_eq_false h]; exact beq_eq_false_iff_ne.2 h
                      obtain ⟨dp, hdp⟩ : ∃ x, x = d.path := ⟨_, rfl⟩
                      rw [← hdp] at d1 hqd HBN
                      clear hbc hd hdp
                      obtain ⟨bq, hbq⟩ : ∃ x, x = decide (dp = p) := ⟨_, rfl⟩
                      rw [← hbq] at hqd HBN
                      clear hbq
                      cases b
                      · go_wp2
                        go_round
                        case rel => exact ⟨k + 1, _, rfl, by go_num, by omega, by rw [← HBN.out]; rfl⟩
                        case measure => simp [intOf]; omega
                      · go_wp2
                        go_round
                        case rel => exact ⟨k + 1, _, rfl, by go_num, by omega, by rw [← HBN.out]; rfl⟩
                        case measure => simp [intOf]; omega
                    · have hkI : ¬ (k : Int) < (N : Int) := by omega
                      have hbt : b = true := by
                        rw [HBV.out, List.take_of_length_le (by rw [← HN.out]; omega)]
                        exact HOP.out
                      subst hbt
                      go_wp2
                      go_round
                      case rel => exact ⟨i + 1, by go_num, by omega⟩
                      case measure => simp [intOf]; omega
              · have hiI : ¬ (i : Int) < (R8 : Int) := by omega
                have HLV := Lib.hid (lives18_any w8 (HE1.out _ HS8.out.keeps))
                go_wp2_with fail
                refine HLV.out.mono ?_
                rintro e w9 ⟨rfl, hb9⟩
                have HB9 := Lib.hid (HEND.out _ _ _ (HS8.out.then_below hb9))
                clear hb9
                go_wp2
                go_returns
                exact ⟨rfl, HB9.out⟩
          · have HMI : Hid (Disk.kind s2.l Disk.jA = 0 ∨ s2.raws ≠ []) := Lib.hid (Or.inr hrr)
            obtain ⟨R, hR⟩ : ∃ R, R = s2.raws.length := ⟨_, rfl⟩
            have hRp : (0 : Int) < (R : Int) := by
              have : 0 < s2.raws.length := List.length_pos_iff.2 hrr
              omega
            have hRn : 0 < R := by omega
            have HR := Lib.hid hR
            clear hk1 hrr hR
            go_wp2_with fail
            refine HKI.out.mono ?_
            rintro e w4' ⟨rfl, hb5⟩
            have HRW5 := Lib.hid (HRW4.out w4' hb5)
            have HB5 := Lib.hid hb5
            clear hb5
            go_wp2_with fail
            refine HRW5.out.mono ?_
            rintro e w5 ⟨v6, rfl, hr6, hb6⟩
            obtain ⟨a6, c6, rfl⟩ := own_form hr6
            have HBQ := Lib.hid (HB5.out.trans (hb6.mono HB5.out.size))
            rw [← HR.out]
            clear hr6 hb6
            have HUP := Lib.hid (HUPF.out w5 HBQ.out)
            go_wp2_with fail
            refine HUP.out.mono ?_
            rintro e w6 ⟨rfl, hn6⟩
            have HS6 := Lib.hid hn6
            clear hn6
            obtain ⟨⟨O6, hd6, hO6⟩, hk6⟩ := HS6.out
            have HK6 := Lib.hid hk6
            have HO6 := Lib.hid hO6
            have HD6 := Lib.hid hd6
            clear hd6 hO6 hk6
            have HRC := Lib.hid (recover_any (M := 1048576) HD6.out (HE1.out _ HK6.out) HG.out (by omega) HCT.out.1 HCT.out.2)
            unfold JPost at HRC
            have HPR := Lib.hid (HKC.out HMI.out)
            obtain ⟨r, hr⟩ : ∃ r, r = (⟨s2.l, s2.raws, -1⟩ : Disk.S).recover parseJ := ⟨_, rfl⟩
            rw [← hr] at HRC HPR
            clear hr
            obtain ⟨rc, s7⟩ := r
            dsimp only at HRC
            go_wp2_with fail
            refine HRC.out.mono ?_
            rintro e w7 ⟨rfl, hn7⟩
            have HS7 := Lib.hid (DskNow.after HK6.out HO6.out hn7)
            have HP7 : Hid (Disk.Pth (fun p => ownP ds p = true) s7) := Lib.hid HPR.out
            clear hn7
            obtain ⟨⟨O7, hd7, hO7⟩, hk7⟩ := HS7.out
            have HK7 := Lib.hid hk7
            have HO7 := Lib.hid hO7
            have HD7 := Lib.hid hd7
            clear hd7 hO7 hk7
            have HRW7 := Lib.hid (Dsk.raws HD7.out (by omega))
            have HOFF7 := Lib.hid (HOFF1.out.keeps HK7.out HO7.out)
            go_wp2_with fail
            refine HRW7.out.mono ?_
            rintro e w8 ⟨v8, rfl, hr8, hb8⟩
            have HDE : Hid (PL.Deeds w8 w8.heap.size (.slice a2 N c2) ds) := Lib.hid ((HOFF7.out.deeds.below hb8 (Nat.le_refl _)).mono hb8.size)
            have HRS := Lib.hid (RwRow.rws hr8)
            have HS8 := Lib.hid (HS7.out.then_below hb8)
            obtain ⟨a8, c8, rfl⟩ := own_form hr8
            obtain ⟨R8, hR8⟩ : ∃ x, x = s7.raws.length := ⟨_, rfl⟩
            have HRL := Lib.hid hR8
            have hRb : R8 ≤ 1099511627776 := by
              obtain ⟨bm, m, rv, hm, _⟩ := HD7.out
              have := hm.2.1
              omega
            rw [← hR8]
            clear hr8 hb8 hR8
            go_wp2
            go_loop [12] (fun q => ∃ i : Nat, q = .int .i64 i ∧ i ≤ R8) (fun q => R8 - (intOf q).toNat)
            case atStart => exact ⟨0, rfl, by omega⟩
            case round =>
              obtain ⟨i, rfl, hi⟩ := hrel
              by_cases hiR : i < R8
              · obtain ⟨r, hr⟩ : ∃ r, s7.raws[i]? = some r := ⟨_, List.getElem?_eq_getElem (by have := HRL.out; omega)⟩
                obtain ⟨rb, ro, rcap, hve, hrb, hrc⟩ := HRS.out.at (by have := HRL.out; omega)
                rw [← HRL.out] at hve
                cases hve
                have r1 := (hrc i r hr).2.1
                have hiI : (i : Int) < (R8 : Int) := by omega
                have HOP0 := Lib.hid (HP7.out r (List.mem_of_getElem? hr))
                obtain ⟨p, hp⟩ : ∃ p, p = r.path := ⟨_, rfl⟩
                have HOP : Hid ((Disk.jp p || ds.any fun d => decide (d.path = p)) = true) := Lib.hid (by rw [hp]; exact HOP0.out)
                rw [← hp] at r1
                clear hrc hr hp HOP0
                have hs1 := str_eq_lit (bs p) [47, 106, 111, 117, 114, 110, 97, 108]
                rw [bs_list] at hs1
                by_cases hpA : p = Disk.jA
                · have q1 : ((bs p).toList == [47, 106, 111, 117, 114, 110, 97, 108]) = true := by rw [hs1]; exact decide_eq_true hpA
                  have HJP : Hid (true = Disk.jp p) := Lib.hid (by rw [hpA]; rfl)
                  clear hpA hs1
                  go_wp2
                  go_loop [14, 15] (fun bv q => ∃ (k : Nat) (b : Bool), bv = .bool b ∧ q = .int .i64 k ∧ k ≤ N ∧ b = (Disk.jp p || (ds.take k).any fun d => decide (d.path = p))) (fun _ q => N - (intOf q).toNat)
                  case atStart => exact ⟨0, _, rfl, rfl, by omega, by rw [← HJP.out]; simp⟩
                  case round =>
                    obtain ⟨k, b, rfl, rfl, hkN, hbv⟩ := hrel
                    have HBV := Lib.hid hbv
                    clear hbv
                    by_cases hkl : k < N
                    · obtain ⟨d, hd⟩ : ∃ d, ds[k]? = some d := ⟨_, List.getElem?_eq_getElem (by have := HN.out; omega)⟩
                      obtain ⟨bk, o, cap, hve, hbk, hbc⟩ := HDE.out.at (by have := HN.out; omega)
                      rw [← HN.out] at hve
                      cases hve
                      have d1 := (hbc k d hd).2.1
                      have hkI : (k : Int) < (N : Int) := by omega
                      have HBN : Hid ((b || decide (d.path = p)) = (Disk.jp p || (ds.take (k + 1)).any fun d => decide (d.path = p))) := Lib.hid (by rw [any_next hd, HBV.out, Bool.or_assoc])
                      have hqd : ((bs d.path).toList == (bs p).toList) = decide (d.path = p) := by
                        rw [bs_toList, bs_toList]
                        by_cases h : d.path = p
                        · rw [h, decide_eq_true rfl]; exact beq_self_eq_true _
                        · rw [decide_eq_false h]; exact beq_eq_false_iff_ne.2 h
                      obtain ⟨dp, hdp⟩ : ∃ x, x = d.path := ⟨_, rfl⟩
                      rw [← hdp] at d1 hqd HBN
                      clear hbc hd hdp
                      obtain ⟨bq, hbq⟩ : ∃ x, x = decide (dp = p) := ⟨_, rfl⟩
                      rw [← hbq] at hqd HBN
                      clear hbq
                      cases b
                      · go_wp2
                        go_round
                        case rel => exact ⟨k + 1, _, rfl, by go_num, by omega, by rw [← HBN.out]; rfl⟩
                        case measure => simp [intOf]; omega
                      · go_wp2
                        go_round
                        case rel => exact ⟨k + 1, _, rfl, by go_num, by omega, by rw [← HBN.out]; rfl⟩
                        case measure => simp [intOf]; omega
                    · have hkI : ¬ (k : Int) < (N : Int) := by omega
                      have hbt : b = true := by
                        rw [HBV.out, List.take_of_length_le (by rw [← HN.out]; omega)]
                        exact HOP.out
                      subst hbt
                      go_wp2
                      go_round
                      case rel => exact ⟨i + 1, by go_num, by omega⟩
                      case measure => simp [intOf]; omega
                have q1 : ((bs p).toList == [47, 106, 111, 117, 114, 110, 97, 108]) = false := by rw [hs1]; exact decide_eq_false hpA
                have hj9 := jp_nine hpA
                have hsz8 : (bs p).size = p.length := by show p.toArray.size = _; simp
                by_cases h8 : 8 < p.length
                · have hz8 : (8 : Int) < ((bs p).size : Int) := by rw [hsz8]; omega
                  have hz9 : (9 : Int) ≤ ((bs p).size : Int) := by rw [hsz8]; omega
                  have hz9n : 9 ≤ (bs p).size := by rw [hsz8]; omega
                  have hx9 : (((bs p).extract 0 9).toList == [47, 106, 111, 117, 114, 110, 97, 108, 47]) = Disk.jp p := by
                    rw [str_eq_lit, hj9, decide_eq_true h8, Bool.true_and]
                    have e : ((bs p).extract 0 9).data.toList = p.take 9 := by
                      rw [ByteArray.data_extract]
                      simp [bs]
                    rw [e]
                    rfl
                  obtain ⟨jb, hjb⟩ : ∃ jb, jb = Disk.jp p := ⟨_, rfl⟩
                  have HJP : Hid (jb = Disk.jp p) := Lib.hid hjb
                  rw [← hjb] at hx9
                  clear hjb hj9 hs1 hpA hsz8
                  go_wp2
                  go_loop [14, 15] (fun bv q => ∃ (k : Nat) (b : Bool), bv = .bool b ∧ q = .int .i64 k ∧ k ≤ N ∧ b = (Disk.jp p || (ds.take k).any fun d => decide (d.path = p))) (fun _ q => N - (intOf q).toNat)
                  case atStart => exact ⟨0, _, rfl, rfl, by omega, by rw [← HJP.out]; simp⟩
                  case round =>
                    obtain ⟨k, b, rfl, rfl, hkN, hbv⟩ := hrel
                    have HBV := Lib.hid hbv
                    clear hbv
                    by_cases hkl : k < N
                    · obtain ⟨d, hd⟩ : ∃ d, ds[k]? = some d := ⟨_, List.getElem?_eq_getElem (by have := HN.out; omega)⟩
                      obtain ⟨bk, o, cap, hve, hbk, hbc⟩ := HDE.out.at (by have := HN.out; omega)
                      rw [← HN.out] at hve
                      cases hve
                      have d1 := (hbc k d hd).2.1
                      have hkI : (k : Int) < (N : Int) := by omega
                      have HBN : Hid ((b || decide (d.path = p)) = (Disk.jp p || (ds.take (k + 1)).any fun d => decide (d.path = p))) := Lib.hid (by rw [any_next hd, HBV.out, Bool.or_assoc])
                      have hqd : ((bs d.path).toList == (bs p).toList) = decide (d.path = p) := by
                        rw [bs_toList, bs_toList]
                        by_cases h : d.path = p
                        · rw [h, decide_eq_true rfl]; exact beq_self_eq_true _
                        · rw [decide_eq_false h]; exact beq_eq_false_iff_ne.2 h
                      obtain ⟨dp, hdp⟩ : ∃ x, x = d.path := ⟨_, rfl⟩
                      rw [← hdp] at d1 hqd HBN
                      clear hbc hd hdp
                      obtain ⟨bq, hbq⟩ : ∃ x, x = decide (dp = p) := ⟨_, rfl⟩
                      rw [← hbq] at hqd HBN
                      clear hbq
                      cases b
                      · go_wp2
                        go_round
                        case rel => exact ⟨k + 1, _, rfl, by go_num, by omega, by rw [← HBN.out]; rfl⟩
                        case measure => simp [intOf]; omega
                      · go_wp2
                        go_round
                        case rel => exact ⟨k + 1, _, rfl, by go_num, by omega, by rw [← HBN.out]; rfl⟩
                        case measure => simp [intOf]; omega
                    · have hkI : ¬ (k : Int) < (N : Int) := by omega
                      have hbt : b = true := by
                        rw [HBV.out, List.take_of_length_le (by rw [← HN.out]; omega)]
                        exact HOP.out
                      subst hbt
                      go_wp2
                      go_round
                      case rel => exact ⟨i + 1, by go_num, by omega⟩
                      case measure => simp [intOf]; omega
                · have hz8 : ¬ (8 : Int) < ((bs p).size : Int) := by rw [hsz8]; omega
                  have HJP : Hid (false = Disk.jp p) := Lib.hid (by rw [hj9, decide_eq_false h8]; rfl)
                  clear hj9 hs1 hpA hsz8
                  go_wp2
                  go_loop [14, 15] (fun bv q => ∃ (k : Nat) (b : Bool), bv = .bool b ∧ q = .int .i64 k ∧ k ≤ N ∧ b = (Disk.jp p || (ds.take k).any fun d => decide (d.path = p))) (fun _ q => N - (intOf q).toNat)
                  case atStart => exact ⟨0, _, rfl, rfl, by omega, by rw [← HJP.out]; simp⟩
                  case round =>
                    obtain ⟨k, b, rfl, rfl, hkN, hbv⟩ := hrel
                    have HBV := Lib.hid hbv
                    clear hbv
                    by_cases hkl : k < N
                    · obtain ⟨d, hd⟩ : ∃ d, ds[k]? = some d := ⟨_, List.getElem?_eq_getElem (by have := HN.out; omega)⟩
                      obtain ⟨bk, o, cap, hve, hbk, hbc⟩ := HDE.out.at (by have := HN.out; omega)
                      rw [← HN.out] at hve
                      cases hve
                      have d1 := (hbc k d hd).2.1
                      have hkI : (k : Int) < (N : Int) := by omega
                      have HBN : Hid ((b || decide (d.path = p)) = (Disk.jp p || (ds.take (k + 1)).any fun d => decide (d.path = p))) := Lib.hid (by rw [any_next hd, HBV.out, Bool.or_assoc])
                      have hqd : ((bs d.path).toList == (bs p).toList) = decide (d.path = p) := by
                        rw [bs_toList, bs_toList]
                        by_cases h : d.path = p
                        · rw [h, decide_eq_true rfl]; exact beq_self_eq_true _
                        · rw [decide_eq_false h]; exact beq_eq_false_iff_ne.2 h
                      obtain ⟨dp, hdp⟩ : ∃ x, x = d.path := ⟨_, rfl⟩
                      rw [← hdp] at d1 hqd HBN
                      clear hbc hd hdp
                      obtain ⟨bq, hbq⟩ : ∃ x, x = decide (dp = p) := ⟨_, rfl⟩
                      rw [← hbq] at hqd HBN
                      clear hbq
                      cases b
                      · go_wp2
                        go_round
                        case rel => exact ⟨k + 1, _, rfl, by go_num, by omega, by rw [← HBN.out]; rfl⟩
                        case measure => simp [intOf]; omega
                      · go_wp2
                        go_round
                        case rel => exact ⟨k + 1, _, rfl, by go_num, by omega, by rw [← HBN.out]; rfl⟩
                        case measure => simp [intOf]; omega
                    · have hkI : ¬ (k : Int) < (N : Int) := by omega
                      have hbt : b = true := by
                        rw [HBV.out, List.take_of_length_le (by rw [← HN.out]; omega)]
                        exact HOP.out
                      subst hbt
                      go_wp2
                      go_round
                      case rel => exact ⟨i + 1, by go_num, by omega⟩
                      case measure => simp [intOf]; omega
              · have hiI : ¬ (i : Int) < (R8 : Int) := by omega
                have HLV := Lib.hid (lives18_any w8 (HE1.out _ HS8.out.keeps))
                go_wp2_with fail
                refine HLV.out.mono ?_
                rintro e w9 ⟨rfl, hb9⟩
                have HB9 := Lib.hid (HEND.out _ _ _ (HS8.out.then_below hb9))
                clear hb9
                go_wp2
                go_returns
                exact ⟨rfl, HB9.out⟩
    · have HS2 : Hid (DskNow w1 w1 w.heap.size O sd 1048576 ⟨l, [], -1⟩) := Lib.hid (DskNow.of_below HD1.out (Below.refl _ _))
      obtain ⟨w2, hw2⟩ : ∃ x, x = w1 := ⟨w1, rfl⟩
      have HS2 : Hid (DskNow w1 w2 w.heap.size O sd 1048576 ⟨l, [], -1⟩) := Lib.hid (by rw [hw2]; exact HS2.out)
      obtain ⟨⟨O2, hd2, hO2⟩, hk2⟩ := HS2.out
      have HK2 := Lib.hid hk2
      have HO2 := Lib.hid hO2
      have HD2 := Lib.hid hd2
      clear hd2 hO2 hk2
      have HCM := Lib.hid (commit_any HD2.out (HE1.out _ HK2.out) HG.out (HOFF1.out.keeps HK2.out HO2.out) HHU.out (show 1048576 + ds.length + 6 ≤ 1099511627776 by have := HN.out; omega) (by have := HN.out; omega) HSZ.out)
      unfold JPost at HCM
      have HCT := Lib.hid (commit_T (s1 := ⟨l, [], -1⟩) HHU.out rfl rfl (by have := HN.out; omega) HSZ.out HDA.out)
      have HQ := Lib.hid (Disk.commit_quiet (P := fun p => ownP ds p = true) (ok := canJ l ds) (X := PL.Plan.text ds) (s := ⟨l, [], -1⟩) (ds := ds.map toDd) HHU.out rfl (fun h => ok_free (canJ_ok h)) (fun d hd => by
        obtain ⟨x, hx, rfl⟩ := List.mem_map.1 hd
        show (_ || _) = true
        rw [Bool.or_eq_true]
        exact Or.inr (List.any_eq_true.2 ⟨x, hx, decide_eq_true rfl⟩)) rfl rfl rfl)
      dsimp only at HCM
      rw [← HN.out] at HCM
      obtain ⟨r, hr⟩ : ∃ r, r = (⟨l, [], -1⟩ : Disk.S).commit (canJ l ds) (PL.Plan.text ds) (ds.map toDd) := ⟨_, rfl⟩
      rw [← hr] at HCM HCT HQ
      clear hr
      obtain ⟨cc, s2⟩ := r
      dsimp only at HCM HCT HQ
      have HQ2 : Hid ((s2.raws = [] ∧ s2.l = l) ∨ (canJ l ds = true ∧ Disk.Pth (fun p => ownP ds p = true) s2 ∧ Disk.LT (PL.Plan.text ds) s2.l)) := Lib.hid (by
        rcases HQ.out with h | ⟨_, h1, h2, h3⟩
        · exact Or.inl ⟨by rw [h], by rw [h]⟩
        · exact Or.inr ⟨h1, h2, h3⟩)
      have HQ0 : Hid (N = 0 → s2.raws = []) := Lib.hid (fun h => by
        rcases HQ.out with h1 | ⟨h1, _⟩
        · rw [h1]
        · exact absurd (by rw [List.length_eq_zero_iff.1 (show ds.length = 0 by rw [← HN.out]; exact h)]; rfl) h1)
      clear HQ
      go_wp2_with fail
      try rw [← hw2]
      refine HCM.out.mono ?_
      rintro e w3 ⟨rfl, hn3⟩
      have HS3 := Lib.hid (DskNow.after HK2.out HO2.out hn3)
      clear hn3
      by_cases hN0 : N = 0
      · have HR0 := Lib.hid (HQ0.out hN0)
        have hq0 : ((N : Int) == 0) = true := by rw [hN0]; rfl
        have HRW : Hid (Calls Tryz.prog 10 #[.pointer (some ⟨sd, 0, none⟩)] w3 fun e w' => ∃ v, e = .returned v ∧ RwRow w' w3.heap.size v [] ∧ Below w3.heap.size w3 w') := Lib.hid (by
          obtain ⟨⟨O3, hd3, _⟩, _⟩ := HS3.out
          have := Dsk.raws hd3 (by omega)
          rw [HR0.out] at this
          exact this)
        clear hN0
        go_wp2_with fail
        refine HRW.out.mono ?_
        rintro e w4 ⟨v4, rfl, hr4, hb4⟩
        obtain ⟨a4, c4, rfl⟩ := own_form hr4
        have HS4 := Lib.hid (HS3.out.then_below hb4)
        clear hr4 hb4 hq0
        dsimp only [List.length_nil]
        obtain ⟨⟨O4, hd4, hO4⟩, hk4⟩ := HS4.out
        have HK4 := Lib.hid hk4
        have HO4 := Lib.hid hO4
        have HD4 := Lib.hid hd4
        clear hd4 hO4 hk4
        have HKI : Hid (Calls Tryz.prog 11 #[.pointer (some ⟨sd, 0, none⟩), .string ⟨#[47, 106, 111, 117, 114, 110, 97, 108]⟩] w4 fun e w' => e = .returned (.int .i64 (Disk.kind s2.l Disk.jA)) ∧ Below w4.heap.size w4 w') := Lib.hid (Dsk.kind HD4.out Disk.jA (by decide))
        have HKC : Hid ((Disk.kind s2.l Disk.jA = 0 ∨ s2.raws ≠ []) → Disk.Pth (fun p => ownP ds p = true) ((⟨s2.l, s2.raws, -1⟩ : Disk.S).recover parseJ).2) := Lib.hid (fun hm => by
          rcases HQ2.out with ⟨h1, h2⟩ | ⟨h1, h2, h3⟩
          · rcases hm with hm | hm
            · rw [Disk.recover_none (s := ⟨s2.l, s2.raws, -1⟩) (show ¬ (-1 : Int) = 0 by decide) hm]
              intro r hr
              dsimp only at hr
              rw [h1] at hr
              exact absurd hr (by simp)
            · exact absurd h1 hm
          · refine Disk.recover_quiet (X := PL.Plan.text ds) (ds := ds.map toDd) ?_ h2 h3 (fun d hd => ?_) rfl rfl rfl
            · unfold parseJ; rw [PL.Plan.parse_text (canJ_ok h1)]
            · obtain ⟨x, hx, rfl⟩ := List.mem_map.1 hd
              show (_ || _) = true
              rw [Bool.or_eq_true]
              exact Or.inr (List.any_eq_true.2 ⟨x, hx, decide_eq_true rfl⟩))
        have HPE : Hid (s2.raws = [] → Disk.Pth (fun p => ownP ds p = true) ⟨s2.l, s2.raws, -1⟩) := Lib.hid (fun h r hr => by dsimp only at hr; rw [h] at hr; exact absurd hr (by simp))
        have HRW4 : Hid (∀ V, Below w4.heap.size w4 V → Calls Tryz.prog 10 #[.pointer (some ⟨sd, 0, none⟩)] V fun e w' => ∃ v, e = .returned v ∧ RwRow w' V.heap.size v s2.raws ∧ Below V.heap.size V w') := Lib.hid (fun V hV => Dsk.raws (HD4.out.below hV) (by omega))
        have HUPF : Hid (∀ V, Below w4.heap.size w4 V → Calls Tryz.prog 12 #[.pointer (some ⟨sd, 0, none⟩)] V fun e w' => e = .returned (.tuple #[]) ∧ DskNow w1 w' w.heap.size O sd (1048576 + N + 6) ⟨s2.l, s2.raws, -1⟩) := Lib.hid (fun V hV => (up_any (HD4.out.below hV)).mono fun e w' h => ⟨h.1, DskNow.after (HK4.out.then_below hV) HO4.out h.2⟩)
        obtain ⟨kk, hkk⟩ : ∃ kk, kk = Disk.kind s2.l Disk.jA := ⟨_, rfl⟩
        rw [← hkk] at HKI
        have HKK := Lib.hid hkk
        clear hkk
        by_cases hk1 : kk = 0
        · have HMI : Hid (Disk.kind s2.l Disk.jA = 0 ∨ s2.raws ≠ []) := Lib.hid (Or.inl (by rw [← HKK.out]; exact hk1))
          subst hk1
          go_wp2_with fail
          refine HKI.out.mono ?_
          rintro e w5 ⟨rfl, hb5⟩
          have HBQ := Lib.hid hb5
          clear hb5
          have HUP := Lib.hid (HUPF.out w5 HBQ.out)
          go_wp2_with fail
          refine HUP.out.mono ?_
          rintro e w6 ⟨rfl, hn6⟩
          have HS6 := Lib.hid hn6
          clear hn6
          obtain ⟨⟨O6, hd6, hO6⟩, hk6⟩ := HS6.out
          have HK6 := Lib.hid hk6
          have HO6 := Lib.hid hO6
          have HD6 := Lib.hid hd6
          clear hd6 hO6 hk6
          have HRC := Lib.hid (recover_any (M := 1048576) HD6.out (HE1.out _ HK6.out) HG.out (by omega) HCT.out.1 HCT.out.2)
          unfold JPost at HRC
          have HPR := Lib.hid (HKC.out HMI.out)
          obtain ⟨r, hr⟩ : ∃ r, r = (⟨s2.l, s2.raws, -1⟩ : Disk.S).recover parseJ := ⟨_, rfl⟩
          rw [← hr] at HRC HPR
          clear hr
          obtain ⟨rc, s7⟩ := r
          dsimp only at HRC
          go_wp2_with fail
          refine HRC.out.mono ?_
          rintro e w7 ⟨rfl, hn7⟩
          have HS7 := Lib.hid (DskNow.after HK6.out HO6.out hn7)
          have HP7 : Hid (Disk.Pth (fun p => ownP ds p = true) s7) := Lib.hid HPR.out
          clear hn7
          obtain ⟨⟨O7, hd7, hO7⟩, hk7⟩ := HS7.out
          have HK7 := Lib.hid hk7
          have HO7 := Lib.hid hO7
          have HD7 := Lib.hid hd7
          clear hd7 hO7 hk7
          have HRW7 := Lib.hid (Dsk.raws HD7.out (by omega))
          have HOFF7 := Lib.hid (HOFF1.out.keeps HK7.out HO7.out)
          go_wp2_with fail
          refine HRW7.out.mono ?_
          rintro e w8 ⟨v8, rfl, hr8, hb8⟩
          have HDE : Hid (PL.Deeds w8 w8.heap.size (.slice a2 N c2) ds) := Lib.hid ((HOFF7.out.deeds.below hb8 (Nat.le_refl _)).mono hb8.size)
          have HRS := Lib.hid (RwRow.rws hr8)
          have HS8 := Lib.hid (HS7.out.then_below hb8)
          obtain ⟨a8, c8, rfl⟩ := own_form hr8
          obtain ⟨R8, hR8⟩ : ∃ x, x = s7.raws.length := ⟨_, rfl⟩
          have HRL := Lib.hid hR8
          have hRb : R8 ≤ 1099511627776 := by
            obtain ⟨bm, m, rv, hm, _⟩ := HD7.out
            have := hm.2.1
            omega
          rw [← hR8]
          clear hr8 hb8 hR8
          go_wp2
          go_loop [12] (fun q => ∃ i : Nat, q = .int .i64 i ∧ i ≤ R8) (fun q => R8 - (intOf q).toNat)
          case atStart => exact ⟨0, rfl, by omega⟩
          case round =>
            obtain ⟨i, rfl, hi⟩ := hrel
            by_cases hiR : i < R8
            · obtain ⟨r, hr⟩ : ∃ r, s7.raws[i]? = some r := ⟨_, List.getElem?_eq_getElem (by have := HRL.out; omega)⟩
              obtain ⟨rb, ro, rcap, hve, hrb, hrc⟩ := HRS.out.at (by have := HRL.out; omega)
              rw [← HRL.out] at hve
              cases hve
              have r1 := (hrc i r hr).2.1
              have hiI : (i : Int) < (R8 : Int) := by omega
              have HOP0 := Lib.hid (HP7.out r (List.mem_of_getElem? hr))
              obtain ⟨p, hp⟩ : ∃ p, p = r.path := ⟨_, rfl⟩
              have HOP : Hid ((Disk.jp p || ds.any fun d => decide (d.path = p)) = true) := Lib.hid (by rw [hp]; exact HOP0.out)
              rw [← hp] at r1
              clear hrc hr hp HOP0
              have hs1 := str_eq_lit (bs p) [47, 106, 111, 117, 114, 110, 97, 108]
              rw [bs_list] at hs1
              by_cases hpA : p = Disk.jA
              · have q1 : ((bs p).toList == [47, 106, 111, 117, 114, 110, 97, 108]) = true := by rw [hs1]; exact decide_eq_true hpA
                have HJP : Hid (true = Disk.jp p) := Lib.hid (by rw [hpA]; rfl)
                clear hpA hs1
                go_wp2
                go_loop [14, 15] (fun bv q => ∃ (k : Nat) (b : Bool), bv = .bool b ∧ q = .int .i64 k ∧ k ≤ N ∧ b = (Disk.jp p || (ds.take k).any fun d => decide (d.path = p))) (fun _ q => N - (intOf q).toNat)
                case atStart => exact ⟨0, _, rfl, rfl, by omega, by rw [← HJP.out]; simp⟩
                case round =>
                  obtain ⟨k, b, rfl, rfl, hkN, hbv⟩ := hrel
                  have HBV := Lib.hid hbv
                  clear hbv
                  by_cases hkl : k < N
                  · obtain ⟨d, hd⟩ : ∃ d, ds[k]? = some d := ⟨_, List.getElem?_eq_getElem (by have := HN.out; omega)⟩
                    obtain ⟨bk, o, cap, hve, hbk, hbc⟩ := HDE.out.at (by have := HN.out; omega)
                    rw [← HN.out] at hve
                    cases hve
                    have d1 := (hbc k d hd).2.1
                    have hkI : (k : Int) < (N : Int) := by omega
                    have HBN : Hid ((b || decide (d.path = p)) = (Disk.jp p || (ds.take (k + 1)).any fun d => decide (d.path = p))) := Lib.hid (by rw [any_next hd, HBV.out, Bool.or_assoc])
                    have hqd : ((bs d.path).toList == (bs p).toList) = decide (d.path = p) := by
                      rw [bs_toList, bs_toList]
                      by_cases h : d.path = p
                      · rw [h, decide_eq_true rfl]; exact beq_self_eq_true _
                      · rw [decide_eq_false h]; exact beq_eq_false_iff_ne.2 h
                    obtain ⟨dp, hdp⟩ : ∃ x, x = d.path := ⟨_, rfl⟩
                    rw [← hdp] at d1 hqd HBN
                    clear hbc hd hdp
                    obtain ⟨bq, hbq⟩ : ∃ x, x = decide (dp = p) := ⟨_, rfl⟩
                    rw [← hbq] at hqd HBN
                    clear hbq
                    cases b
                    · go_wp2
                      go_round
                      case rel => exact ⟨k + 1, _, rfl, by go_num, by omega, by rw [← HBN.out]; rfl⟩
                      case measure => simp [intOf]; omega
                    · go_wp2
                      go_round
                      case rel => exact ⟨k + 1, _, rfl, by go_num, by omega, by rw [← HBN.out]; rfl⟩
                      case measure => simp [intOf]; omega
                  · have hkI : ¬ (k : Int) < (N : Int) := by omega
                    have hbt : b = true := by
                      rw [HBV.out, List.take_of_length_le (by rw [← HN.out]; omega)]
                      exact HOP.out
                    subst hbt
                    go_wp2
                    go_round
                    case rel => exact ⟨i + 1, by go_num, by omega⟩
                    case measure => simp [intOf]; omega
              have q1 : ((bs p).toList == [47, 106, 111, 117, 114, 110, 97, 108]) = false := by rw [hs1]; exact decide_eq_false hpA
              have hj9 := jp_nine hpA
              have hsz8 : (bs p).size = p.length := by show p.toArray.size = _; simp
              by_cases h8 : 8 < p.length
              · have hz8 : (8 : Int) < ((bs p).size : Int) := by rw [hsz8]; omega
                have hz9 : (9 : Int) ≤ ((bs p).size : Int) := by rw [hsz8]; omega
                have hz9n : 9 ≤ (bs p).size := by rw [hsz8]; omega
                have hx9 : (((bs p).extract 0 9).toList == [47, 106, 111, 117, 114, 110, 97, 108, 47]) = Disk.jp p := by
                  rw [str_eq_lit, hj9, decide_eq_true h8, Bool.true_and]
                  have e : ((bs p).extract 0 9).data.toList = p.take 9 := by
                    rw [ByteArray.data_extract]
                    simp [bs]
                  rw [e]
                  rfl
                obtain ⟨jb, hjb⟩ : ∃ jb, jb = Disk.jp p := ⟨_, rfl⟩
                have HJP : Hid (jb = Disk.jp p) := Lib.hid hjb
                rw [← hjb] at hx9
                clear hjb hj9 hs1 hpA hsz8
                go_wp2
                go_loop [14, 15] (fun bv q => ∃ (k : Nat) (b : Bool), bv = .bool b ∧ q = .int .i64 k ∧ k ≤ N ∧ b = (Disk.jp p || (ds.take k).any fun d => decide (d.path = p))) (fun _ q => N - (intOf q).toNat)
                case atStart => exact ⟨0, _, rfl, rfl, by omega, by rw [← HJP.out]; simp⟩
                case round =>
                  obtain ⟨k, b, rfl, rfl, hkN, hbv⟩ := hrel
                  have HBV := Lib.hid hbv
                  clear hbv
                  by_cases hkl : k < N
                  · obtain ⟨d, hd⟩ : ∃ d, ds[k]? = some d := ⟨_, List.getElem?_eq_getElem (by have := HN.out; omega)⟩
                    obtain ⟨bk, o, cap, hve, hbk, hbc⟩ := HDE.out.at (by have := HN.out; omega)
                    rw [← HN.out] at hve
                    cases hve
                    have d1 := (hbc k d hd).2.1
                    have hkI : (k : Int) < (N : Int) := by omega
                    have HBN : Hid ((b || decide (d.path = p)) = (Disk.jp p || (ds.take (k + 1)).any fun d => decide (d.path = p))) := Lib.hid (by rw [any_next hd, HBV.out, Bool.or_assoc])
                    have hqd : ((bs d.path).toList == (bs p).toList) = decide (d.path = p) := by
                      rw [bs_toList, bs_toList]
                      by_cases h : d.path = p
                      · rw [h, decide_eq_true rfl]; exact beq_self_eq_true _
                      · rw [decide_eq_false h]; exact beq_eq_false_iff_ne.2 h
                    obtain ⟨dp, hdp⟩ : ∃ x, x = d.path := ⟨_, rfl⟩
                    rw [← hdp] at d1 hqd HBN
                    clear hbc hd hdp
                    obtain ⟨bq, hbq⟩ : ∃ x, x = decide (dp = p) := ⟨_, rfl⟩
                    rw [← hbq] at hqd HBN
                    clear hbq
                    cases b
                    · go_wp2
                      go_round
                      case rel => exact ⟨k + 1, _, rfl, by go_num, by omega, by rw [← HBN.out]; rfl⟩
                      case measure => simp [intOf]; omega
                    · go_wp2
                      go_round
                      case rel => exact ⟨k + 1, _, rfl, by go_num, by omega, by rw [← HBN.out]; rfl⟩
                      case measure => simp [intOf]; omega
                  · have hkI : ¬ (k : Int) < (N : Int) := by omega
                    have hbt : b = true := by
                      rw [HBV.out, List.take_of_length_le (by rw [← HN.out]; omega)]
                      exact HOP.out
                    subst hbt
                    go_wp2
                    go_round
                    case rel => exact ⟨i + 1, by go_num, by omega⟩
                    case measure => simp [intOf]; omega
              · have hz8 : ¬ (8 : Int) < ((bs p).size : Int) := by rw [hsz8]; omega
                have HJP : Hid (false = Disk.jp p) := Lib.hid (by rw [hj9, decide_eq_false h8]; rfl)
                clear hj9 hs1 hpA hsz8
                go_wp2
                go_loop [14, 15] (fun bv q => ∃ (k : Nat) (b : Bool), bv = .bool b ∧ q = .int .i64 k ∧ k ≤ N ∧ b = (Disk.jp p || (ds.take k).any fun d => decide (d.path = p))) (fun _ q => N - (intOf q).toNat)
                case atStart => exact ⟨0, _, rfl, rfl, by omega, by rw [← HJP.out]; simp⟩
                case round =>
                  obtain ⟨k, b, rfl, rfl, hkN, hbv⟩ := hrel
                  have HBV := Lib.hid hbv
                  clear hbv
                  by_cases hkl : k < N
                  · obtain ⟨d, hd⟩ : ∃ d, ds[k]? = some d := ⟨_, List.getElem?_eq_getElem (by have := HN.out; omega)⟩
                    obtain ⟨bk, o, cap, hve, hbk, hbc⟩ := HDE.out.at (by have := HN.out; omega)
                    rw [← HN.out] at hve
                    cases hve
                    have d1 := (hbc k d hd).2.1
                    have hkI : (k : Int) < (N : Int) := by omega
                    have HBN : Hid ((b || decide (d.path = p)) = (Disk.jp p || (ds.take (k + 1)).any fun d => decide (d.path = p))) := Lib.hid (by rw [any_next hd, HBV.out, Bool.or_assoc])
                    have hqd : ((bs d.path).toList == (bs p).toList) = decide (d.path = p) := by
                      rw [bs_toList, bs_toList]
                      by_cases h : d.path = p
                      · rw [h, decide_eq_true rfl]; exact beq_self_eq_true _
                      · rw [decide_eq_false h]; exact beq_eq_false_iff_ne.2 h
                    obtain ⟨dp, hdp⟩ : ∃ x, x = d.path := ⟨_, rfl⟩
                    rw [← hdp] at d1 hqd HBN
                    clear hbc hd hdp
                    obtain ⟨bq, hbq⟩ : ∃ x, x = decide (dp = p) := ⟨_, rfl⟩
                    rw [← hbq] at hqd HBN
                    clear hbq
                    cases b
                    · go_wp2
                      go_round
                      case rel => exact ⟨k + 1, _, rfl, by go_num, by omega, by rw [← HBN.out]; rfl⟩
                      case measure => simp [intOf]; omega
                    · go_wp2
                      go_round
                      case rel => exact ⟨k + 1, _, rfl, by go_num, by omega, by rw [← HBN.out]; rfl⟩
                      case measure => simp [intOf]; omega
                  · have hkI : ¬ (k : Int) < (N : Int) := by omega
                    have hbt : b = true := by
                      rw [HBV.out, List.take_of_length_le (by rw [← HN.out]; omega)]
                      exact HOP.out
                    subst hbt
                    go_wp2
                    go_round
                    case rel => exact ⟨i + 1, by go_num, by omega⟩
                    case measure => simp [intOf]; omega
            · have hiI : ¬ (i : Int) < (R8 : Int) := by omega
              have HLV := Lib.hid (lives18_any w8 (HE1.out _ HS8.out.keeps))
              go_wp2_with fail
              refine HLV.out.mono ?_
              rintro e w9 ⟨rfl, hb9⟩
              have HB9 := Lib.hid (HEND.out _ _ _ (HS8.out.then_below hb9))
              clear hb9
              go_wp2
              go_returns
              exact ⟨rfl, HB9.out⟩
        · have hqk : (kk == 0) = false := beq_eq_false_iff_ne.2 hk1
          by_cases hrr : s2.raws = []
          · have HPX := Lib.hid (HPE.out hrr)
            have hrl : s2.raws.length = 0 := by rw [hrr]; rfl
            have HRL0 := Lib.hid hrl
            clear hk1 hrr hrl
            go_wp2_with fail
            refine HKI.out.mono ?_
            rintro e w4' ⟨rfl, hb5⟩
            have HRW5 := Lib.hid (HRW4.out w4' hb5)
            have HB5 := Lib.hid hb5
            clear hb5
            go_wp2_with fail
            refine HRW5.out.mono ?_
            rintro e w5 ⟨v6, rfl, hr6, hb6⟩
            obtain ⟨a6, c6, rfl⟩ := own_form hr6
            have HBQ := Lib.hid (HB5.out.trans (hb6.mono HB5.out.size))
            rw [HRL0.out]
            clear hr6 hb6
            have HUP := Lib.hid (HUPF.out w5 HBQ.out)
            go_wp2_with fail
            refine HUP.out.mono ?_
            rintro e w6 ⟨rfl, hn6⟩
            have HS6 := Lib.hid hn6
            clear hn6
            have HS7 := Lib.hid (HS6.out.more (show 1048576 + N + 6 ≤ 1048576 + N + 6 + 1048576 + 3 by omega))
            have HP7 : Hid (Disk.Pth (fun p => ownP ds p = true) ⟨s2.l, s2.raws, -1⟩) := Lib.hid HPX.out
            obtain ⟨s7, hs7⟩ : ∃ x, x = (⟨s2.l, s2.raws, -1⟩ : Disk.S) := ⟨_, rfl⟩
            rw [← hs7] at HS7 HP7
            clear hs7
            obtain ⟨w7, hw7⟩ : ∃ x, x = w6 := ⟨w6, rfl⟩
            rw [← hw7] at HS7 ⊢
            clear hw7
            obtain ⟨⟨O7, hd7, hO7⟩, hk7⟩ := HS7.out
            have HK7 := Lib.hid hk7
            have HO7 := Lib.hid hO7
            have HD7 := Lib.hid hd7
            clear hd7 hO7 hk7
            have HRW7 := Lib.hid (Dsk.raws HD7.out (by omega))
            have HOFF7 := Lib.hid (HOFF1.out.keeps HK7.out HO7.out)
            go_wp2_with fail
            refine HRW7.out.mono ?_
            rintro e w8 ⟨v8, rfl, hr8, hb8⟩
            have HDE : Hid (PL.Deeds w8 w8.heap.size (.slice a2 N c2) ds) := Lib.hid ((HOFF7.out.deeds.below hb8 (Nat.le_refl _)).mono hb8.size)
            have HRS := Lib.hid (RwRow.rws hr8)
            have HS8 := Lib.hid (HS7.out.then_below hb8)
            obtain ⟨a8, c8, rfl⟩ := own_form hr8
            obtain ⟨R8, hR8⟩ : ∃ x, x = s7.raws.length := ⟨_, rfl⟩
            have HRL := Lib.hid hR8
            have hRb : R8 ≤ 1099511627776 := by
              obtain ⟨bm, m, rv, hm, _⟩ := HD7.out
              have := hm.2.1
              omega
            rw [← hR8]
            clear hr8 hb8 hR8
            go_wp2
            go_loop [12] (fun q => ∃ i : Nat, q = .int .i64 i ∧ i ≤ R8) (fun q => R8 - (intOf q).toNat)
            case atStart => exact ⟨0, rfl, by omega⟩
            case round =>
              obtain ⟨i, rfl, hi⟩ := hrel
              by_cases hiR : i < R8
              · obtain ⟨r, hr⟩ : ∃ r, s7.raws[i]? = some r := ⟨_, List.getElem?_eq_getElem (by have := HRL.out; omega)⟩
                obtain ⟨rb, ro, rcap, hve, hrb, hrc⟩ := HRS.out.at (by have := HRL.out; omega)
                rw [← HRL.out] at hve
                cases hve
                have r1 := (hrc i r hr).2.1
                have hiI : (i : Int) < (R8 : Int) := by omega
                have HOP0 := Lib.hid (HP7.out r (List.mem_of_getElem? hr))
                obtain ⟨p, hp⟩ : ∃ p, p = r.path := ⟨_, rfl⟩
                have HOP : Hid ((Disk.jp p || ds.any fun d => decide (d.path = p)) = true) := Lib.hid (by rw [hp]; exact HOP0.out)
                rw [← hp] at r1
                clear hrc hr hp HOP0
                have hs1 := str_eq_lit (bs p) [47, 106, 111, 117, 114, 110, 97, 108]
                rw [bs_list] at hs1
                by_cases hpA : p = Disk.jA
                · have q1 : ((bs p).toList == [47, 106, 111, 117, 114, 110, 97, 108]) = true := by rw [hs1]; exact decide_eq_true hpA
                  have HJP : Hid (true = Disk.jp p) := Lib.hid (by rw [hpA]; rfl)
                  clear hpA hs1
                  go_wp2
                  go_loop [14, 15] (fun bv q => ∃ (k : Nat) (b : Bool), bv = .bool b ∧ q = .int .i64 k ∧ k ≤ N ∧ b = (Disk.jp p || (ds.take k).any fun d => decide (d.path = p))) (fun _ q => N - (intOf q).toNat)
                  case atStart => exact ⟨0, _, rfl, rfl, by omega, by rw [← HJP.out]; simp⟩
                  case round =>
                    obtain ⟨k, b, rfl, rfl, hkN, hbv⟩ := hrel
                    have HBV := Lib.hid hbv
                    clear hbv
                    by_cases hkl : k < N
                    · obtain ⟨d, hd⟩ : ∃ d, ds[k]? = some d := ⟨_, List.getElem?_eq_getElem (by have := HN.out; omega)⟩
                      obtain ⟨bk, o, cap, hve, hbk, hbc⟩ := HDE.out.at (by have := HN.out; omega)
                      rw [← HN.out] at hve
                      cases hve
                      have d1 := (hbc k d hd).2.1
                      have hkI : (k : Int) < (N : Int) := by omega
                      have HBN : Hid ((b || decide (d.path = p)) = (Disk.jp p || (ds.take (k + 1)).any fun d => decide (d.path = p))) := Lib.hid (by rw [any_next hd, HBV.out, Bool.or_assoc])
                      have hqd : ((bs d.path).toList == (bs p).toList) = decide (d.path = p) := by
                        rw [bs_toList, bs_toList]
                        by_cases h : d.path = p
                        · rw [h, decide_eq_true rfl]; exact beq_self_eq_true _
                        · rw [decide_eq_false h]; exact beq_eq_false_iff_ne.2 h
                      obtain ⟨dp, hdp⟩ : ∃ x, x = d.path := ⟨_, rfl⟩
                      rw [← hdp] at d1 hqd HBN
                      clear hbc hd hdp
                      obtain ⟨bq, hbq⟩ : ∃ x, x = decide (dp = p) := ⟨_, rfl⟩
                      rw [← hbq] at hqd HBN
                      clear hbq
                      cases b
                      · go_wp2
                        go_round
                        case rel => exact ⟨k + 1, _, rfl, by go_num, by omega, by rw [← HBN.out]; rfl⟩
                        case measure => simp [intOf]; omega
                      · go_wp2
                        go_round
                        case rel => exact ⟨k + 1, _, rfl, by go_num, by omega, by rw [← HBN.out]; rfl⟩
                        case measure => simp [intOf]; omega
                    · have hkI : ¬ (k : Int) < (N : Int) := by omega
                      have hbt : b = true := by
                        rw [HBV.out, List.take_of_length_le (by rw [← HN.out]; omega)]
                        exact HOP.out
                      subst hbt
                      go_wp2
                      go_round
                      case rel => exact ⟨i + 1, by go_num, by omega⟩
                      case measure => simp [intOf]; omega
                have q1 : ((bs p).toList == [47, 106, 111, 117, 114, 110, 97, 108]) = false := by rw [hs1]; exact decide_eq_false hpA
                have hj9 := jp_nine hpA
                have hsz8 : (bs p).size = p.length := by show p.toArray.size = _; simp
                by_cases h8 : 8 < p.length
                · have hz8 : (8 : Int) < ((bs p).size : Int) := by rw [hsz8]; omega
                  have hz9 : (9 : Int) ≤ ((bs p).size : Int) := by rw [hsz8]; omega
                  have hz9n : 9 ≤ (bs p).size := by rw [hsz8]; omega
                  have hx9 : (((bs p).extract 0 9).toList == [47, 106, 111, 117, 114, 110, 97, 108, 47]) = Disk.jp p := by
                    rw [str_eq_lit, hj9, decide_eq_true h8, Bool.true_and]
                    have e : ((bs p).extract 0 9).data.toList = p.take 9 := by
                      rw [ByteArray.data_extract]
                      simp [bs]
                    rw [e]
                    rfl
                  obtain ⟨jb, hjb⟩ : ∃ jb, jb = Disk.jp p := ⟨_, rfl⟩
                  have HJP : Hid (jb = Disk.jp p) := Lib.hid hjb
                  rw [← hjb] at hx9
                  clear hjb hj9 hs1 hpA hsz8
                  go_wp2
                  go_loop [14, 15] (fun bv q => ∃ (k : Nat) (b : Bool), bv = .bool b ∧ q = .int .i64 k ∧ k ≤ N ∧ b = (Disk.jp p || (ds.take k).any fun d => decide (d.path = p))) (fun _ q => N - (intOf q).toNat)
                  case atStart => exact ⟨0, _, rfl, rfl, by omega, by rw [← HJP.out]; simp⟩
                  case round =>
                    obtain ⟨k, b, rfl, rfl, hkN, hbv⟩ := hrel
                    have HBV := Lib.hid hbv
                    clear hbv
                    by_cases hkl : k < N
                    · obtain ⟨d, hd⟩ : ∃ d, ds[k]? = some d := ⟨_, List.getElem?_eq_getElem (by have := HN.out; omega)⟩
                      obtain ⟨bk, o, cap, hve, hbk, hbc⟩ := HDE.out.at (by have := HN.out; omega)
                      rw [← HN.out] at hve
                      cases hve
                      have d1 := (hbc k d hd).2.1
                      have hkI : (k : Int) < (N : Int) := by omega
                      have HBN : Hid ((b || decide (d.path = p)) = (Disk.jp p || (ds.take (k + 1)).any fun d => decide (d.path = p))) := Lib.hid (by rw [any_next hd, HBV.out, Bool.or_assoc])
                      have hqd : ((bs d.path).toList == (bs p).toList) = decide (d.path = p) := by
                        rw [bs_toList, bs_toList]
                        by_cases h : d.path = p
                        · rw [h, decide_eq_true rfl]; exact beq_self_eq_true _
                        · rw [decide_eq_false h]; exact beq_eq_false_iff_ne.2 h
                      obtain ⟨dp, hdp⟩ : ∃ x, x = d.path := ⟨_, rfl⟩
                      rw [← hdp] at d1 hqd HBN
                      clear hbc hd hdp
                      obtain ⟨bq, hbq⟩ : ∃ x, x = decide (dp = p) := ⟨_, rfl⟩
                      rw [← hbq] at hqd HBN
                      clear hbq
                      cases b
                      · go_wp2
                        go_round
                        case rel => exact ⟨k + 1, _, rfl, by go_num, by omega, by rw [← HBN.out]; rfl⟩
                        case measure => simp [intOf]; omega
                      · go_wp2
                        go_round
                        case rel => exact ⟨k + 1, _, rfl, by go_num, by omega, by rw [← HBN.out]; rfl⟩
                        case measure => simp [intOf]; omega
                    · have hkI : ¬ (k : Int) < (N : Int) := by omega
                      have hbt : b = true := by
                        rw [HBV.out, List.take_of_length_le (by rw [← HN.out]; omega)]
                        exact HOP.out
                      subst hbt
                      go_wp2
                      go_round
                      case rel => exact ⟨i + 1, by go_num, by omega⟩
                      case measure => simp [intOf]; omega
                · have hz8 : ¬ (8 : Int) < ((bs p).size : Int) := by rw [hsz8]; omega
                  have HJP : Hid (false = Disk.jp p) := Lib.hid (by rw [hj9, decide_eq_false h8]; rfl)
                  clear hj9 hs1 hpA hsz8
                  go_wp2
                  go_loop [14, 15] (fun bv q => ∃ (k : Nat) (b : Bool), bv = .bool b ∧ q = .int .i64 k ∧ k ≤ N ∧ b = (Disk.jp p || (ds.take k).any fun d => decide (d.path = p))) (fun _ q => N - (intOf q).toNat)
                  case atStart => exact ⟨0, _, rfl, rfl, by omega, by rw [← HJP.out]; simp⟩
                  case round =>
                    obtain ⟨k, b, rfl, rfl, hkN, hbv⟩ := hrel
                    have HBV := Lib.hid hbv
                    clear hbv
                    by_cases hkl : k < N
                    · obtain ⟨d, hd⟩ : ∃ d, ds[k]? = some d := ⟨_, List.getElem?_eq_getElem (by have := HN.out; omega)⟩
                      obtain ⟨bk, o, cap, hve, hbk, hbc⟩ := HDE.out.at (by have := HN.out; omega)
                      rw [← HN.out] at hve
                      cases hve
                      have d1 := (hbc k d hd).2.1
                      have hkI : (k : Int) < (N : Int) := by omega
                      have HBN : Hid ((b || decide (d.path = p)) = (Disk.jp p || (ds.take (k + 1)).any fun d => decide (d.path = p))) := Lib.hid (by rw [any_next hd, HBV.out, Bool.or_assoc])
                      have hqd : ((bs d.path).toList == (bs p).toList) = decide (d.path = p) := by
                        rw [bs_toList, bs_toList]
                        by_cases h : d.path = p
                        · rw [h, decide_eq_true rfl]; exact beq_self_eq_true _
                        · rw [decide_eq_false h]; exact beq_eq_false_iff_ne.2 h
                      obtain ⟨dp, hdp⟩ : ∃ x, x = d.path := ⟨_, rfl⟩
                      rw [← hdp] at d1 hqd HBN
                      clear hbc hd hdp
                      obtain ⟨bq, hbq⟩ : ∃ x, x = decide (dp = p) := ⟨_, rfl⟩
                      rw [← hbq] at hqd HBN
                      clear hbq
                      cases b
                      · go_wp2
                        go_round
                        case rel => exact ⟨k + 1, _, rfl, by go_num, by omega, by rw [← HBN.out]; rfl⟩
                        case measure => simp [intOf]; omega
                      · go_wp2
                        go_round
                        case rel => exact ⟨k + 1, _, rfl, by go_num, by omega, by rw [← HBN.out]; rfl⟩
                        case measure => simp [intOf]; omega
                    · have hkI : ¬ (k : Int) < (N : Int) := by omega
                      have hbt : b = true := by
                        rw [HBV.out, List.take_of_length_le (by rw [← HN.out]; omega)]
                        exact HOP.out
                      subst hbt
                      go_wp2
                      go_round
                      case rel => exact ⟨i + 1, by go_num, by omega⟩
                      case measure => simp [intOf]; omega
              · have hiI : ¬ (i : Int) < (R8 : Int) := by omega
                have HLV := Lib.hid (lives18_any w8 (HE1.out _ HS8.out.keeps))
                go_wp2_with fail
                refine HLV.out.mono ?_
                rintro e w9 ⟨rfl, hb9⟩
                have HB9 := Lib.hid (HEND.out _ _ _ (HS8.out.then_below hb9))
                clear hb9
                go_wp2
                go_returns
                exact ⟨rfl, HB9.out⟩
          · have HMI : Hid (Disk.kind s2.l Disk.jA = 0 ∨ s2.raws ≠ []) := Lib.hid (Or.inr hrr)
            obtain ⟨R, hR⟩ : ∃ R, R = s2.raws.length := ⟨_, rfl⟩
            have hRp : (0 : Int) < (R : Int) := by
              have : 0 < s2.raws.length := List.length_pos_iff.2 hrr
              omega
            have hRn : 0 < R := by omega
            have HR := Lib.hid hR
            clear hk1 hrr hR
            go_wp2_with fail
            refine HKI.out.mono ?_
            rintro e w4' ⟨rfl, hb5⟩
            have HRW5 := Lib.hid (HRW4.out w4' hb5)
            have HB5 := Lib.hid hb5
            clear hb5
            go_wp2_with fail
            refine HRW5.out.mono ?_
            rintro e w5 ⟨v6, rfl, hr6, hb6⟩
            obtain ⟨a6, c6, rfl⟩ := own_form hr6
            have HBQ := Lib.hid (HB5.out.trans (hb6.mono HB5.out.size))
            rw [← HR.out]
            clear hr6 hb6
            have HUP := Lib.hid (HUPF.out w5 HBQ.out)
            go_wp2_with fail
            refine HUP.out.mono ?_
            rintro e w6 ⟨rfl, hn6⟩
            have HS6 := Lib.hid hn6
            clear hn6
            obtain ⟨⟨O6, hd6, hO6⟩, hk6⟩ := HS6.out
            have HK6 := Lib.hid hk6
            have HO6 := Lib.hid hO6
            have HD6 := Lib.hid hd6
            clear hd6 hO6 hk6
            have HRC := Lib.hid (recover_any (M := 1048576) HD6.out (HE1.out _ HK6.out) HG.out (by omega) HCT.out.1 HCT.out.2)
            unfold JPost at HRC
            have HPR := Lib.hid (HKC.out HMI.out)
            obtain ⟨r, hr⟩ : ∃ r, r = (⟨s2.l, s2.raws, -1⟩ : Disk.S).recover parseJ := ⟨_, rfl⟩
            rw [← hr] at HRC HPR
            clear hr
            obtain ⟨rc, s7⟩ := r
            dsimp only at HRC
            go_wp2_with fail
            refine HRC.out.mono ?_
            rintro e w7 ⟨rfl, hn7⟩
            have HS7 := Lib.hid (DskNow.after HK6.out HO6.out hn7)
            have HP7 : Hid (Disk.Pth (fun p => ownP ds p = true) s7) := Lib.hid HPR.out
            clear hn7
            obtain ⟨⟨O7, hd7, hO7⟩, hk7⟩ := HS7.out
            have HK7 := Lib.hid hk7
            have HO7 := Lib.hid hO7
            have HD7 := Lib.hid hd7
            clear hd7 hO7 hk7
            have HRW7 := Lib.hid (Dsk.raws HD7.out (by omega))
            have HOFF7 := Lib.hid (HOFF1.out.keeps HK7.out HO7.out)
            go_wp2_with fail
            refine HRW7.out.mono ?_
            rintro e w8 ⟨v8, rfl, hr8, hb8⟩
            have HDE : Hid (PL.Deeds w8 w8.heap.size (.slice a2 N c2) ds) := Lib.hid ((HOFF7.out.deeds.below hb8 (Nat.le_refl _)).mono hb8.size)
            have HRS := Lib.hid (RwRow.rws hr8)
            have HS8 := Lib.hid (HS7.out.then_below hb8)
            obtain ⟨a8, c8, rfl⟩ := own_form hr8
            obtain ⟨R8, hR8⟩ : ∃ x, x = s7.raws.length := ⟨_, rfl⟩
            have HRL := Lib.hid hR8
            have hRb : R8 ≤ 1099511627776 := by
              obtain ⟨bm, m, rv, hm, _⟩ := HD7.out
              have := hm.2.1
              omega
            rw [← hR8]
            clear hr8 hb8 hR8
            go_wp2
            go_loop [12] (fun q => ∃ i : Nat, q = .int .i64 i ∧ i ≤ R8) (fun q => R8 - (intOf q).toNat)
            case atStart => exact ⟨0, rfl, by omega⟩
            case round =>
              obtain ⟨i, rfl, hi⟩ := hrel
              by_cases hiR : i < R8
              · obtain ⟨r, hr⟩ : ∃ r, s7.raws[i]? = some r := ⟨_, List.getElem?_eq_getElem (by have := HRL.out; omega)⟩
                obtain ⟨rb, ro, rcap, hve, hrb, hrc⟩ := HRS.out.at (by have := HRL.out; omega)
                rw [← HRL.out] at hve
                cases hve
                have r1 := (hrc i r hr).2.1
                have hiI : (i : Int) < (R8 : Int) := by omega
                have HOP0 := Lib.hid (HP7.out r (List.mem_of_getElem? hr))
                obtain ⟨p, hp⟩ : ∃ p, p = r.path := ⟨_, rfl⟩
                have HOP : Hid ((Disk.jp p || ds.any fun d => decide (d.path = p)) = true) := Lib.hid (by rw [hp]; exact HOP0.out)
                rw [← hp] at r1
                clear hrc hr hp HOP0
                have hs1 := str_eq_lit (bs p) [47, 106, 111, 117, 114, 110, 97, 108]
                rw [bs_list] at hs1
                by_cases hpA : p = Disk.jA
                · have q1 : ((bs p).toList == [47, 106, 111, 117, 114, 110, 97, 108]) = true := by rw [hs1]; exact decide_eq_true hpA
                  have HJP : Hid (true = Disk.jp p) := Lib.hid (by rw [hpA]; rfl)
                  clear hpA hs1
                  go_wp2
                  go_loop [14, 15] (fun bv q => ∃ (k : Nat) (b : Bool), bv = .bool b ∧ q = .int .i64 k ∧ k ≤ N ∧ b = (Disk.jp p || (ds.take k).any fun d => decide (d.path = p))) (fun _ q => N - (intOf q).toNat)
                  case atStart => exact ⟨0, _, rfl, rfl, by omega, by rw [← HJP.out]; simp⟩
                  case round =>
                    obtain ⟨k, b, rfl, rfl, hkN, hbv⟩ := hrel
                    have HBV := Lib.hid hbv
                    clear hbv
                    by_cases hkl : k < N
                    · obtain ⟨d, hd⟩ : ∃ d, ds[k]? = some d := ⟨_, List.getElem?_eq_getElem (by have := HN.out; omega)⟩
                      obtain ⟨bk, o, cap, hve, hbk, hbc⟩ := HDE.out.at (by have := HN.out; omega)
                      rw [← HN.out] at hve
                      cases hve
                      have d1 := (hbc k d hd).2.1
                      have hkI : (k : Int) < (N : Int) := by omega
                      have HBN : Hid ((b || decide (d.path = p)) = (Disk.jp p || (ds.take (k + 1)).any fun d => decide (d.path = p))) := Lib.hid (by rw [any_next hd, HBV.out, Bool.or_assoc])
                      have hqd : ((bs d.path).toList == (bs p).toList) = decide (d.path = p) := by
                        rw [bs_toList, bs_toList]
                        by_cases h : d.path = p
                        · rw [h, decide_eq_true rfl]; exact beq_self_eq_true _
                        · rw [decide_eq_false h]; exact beq_eq_false_iff_ne.2 h
                      obtain ⟨dp, hdp⟩ : ∃ x, x = d.path := ⟨_, rfl⟩
                      rw [← hdp] at d1 hqd HBN
                      clear hbc hd hdp
                      obtain ⟨bq, hbq⟩ : ∃ x, x = decide (dp = p) := ⟨_, rfl⟩
                      rw [← hbq] at hqd HBN
                      clear hbq
                      cases b
                      · go_wp2
                        go_round
                        case rel => exact ⟨k + 1, _, rfl, by go_num, by omega, by rw [← HBN.out]; rfl⟩
                        case measure => simp [intOf]; omega
                      · go_wp2
                        go_round
                        case rel => exact ⟨k + 1, _, rfl, by go_num, by omega, by rw [← HBN.out]; rfl⟩
                        case measure => simp [intOf]; omega
                    · have hkI : ¬ (k : Int) < (N : Int) := by omega
                      have hbt : b = true := by
                        rw [HBV.out, List.take_of_length_le (by rw [← HN.out]; omega)]
                        exact HOP.out
                      subst hbt
                      go_wp2
                      go_round
                      case rel => exact ⟨i + 1, by go_num, by omega⟩
                      case measure => simp [intOf]; omega
                have q1 : ((bs p).toList == [47, 106, 111, 117, 114, 110, 97, 108]) = false := by rw [hs1]; exact decide_eq_false hpA
                have hj9 := jp_nine hpA
                have hsz8 : (bs p).size = p.length := by show p.toArray.size = _; simp
                by_cases h8 : 8 < p.length
                · have hz8 : (8 : Int) < ((bs p).size : Int) := by rw [hsz8]; omega
                  have hz9 : (9 : Int) ≤ ((bs p).size : Int) := by rw [hsz8]; omega
                  have hz9n : 9 ≤ (bs p).size := by rw [hsz8]; omega
                  have hx9 : (((bs p).extract 0 9).toList == [47, 106, 111, 117, 114, 110, 97, 108, 47]) = Disk.jp p := by
                    rw [str_eq_lit, hj9, decide_eq_true h8, Bool.true_and]
                    have e : ((bs p).extract 0 9).data.toList = p.take 9 := by
                      rw [ByteArray.data_extract]
                      simp [bs]
                    rw [e]
                    rfl
                  obtain ⟨jb, hjb⟩ : ∃ jb, jb = Disk.jp p := ⟨_, rfl⟩
                  have HJP : Hid (jb = Disk.jp p) := Lib.hid hjb
                  rw [← hjb] at hx9
                  clear hjb hj9 hs1 hpA hsz8
                  go_wp2
                  go_loop [14, 15] (fun bv q => ∃ (k : Nat) (b : Bool), bv = .bool b ∧ q = .int .i64 k ∧ k ≤ N ∧ b = (Disk.jp p || (ds.take k).any fun d => decide (d.path = p))) (fun _ q => N - (intOf q).toNat)
                  case atStart => exact ⟨0, _, rfl, rfl, by omega, by rw [← HJP.out]; simp⟩
                  case round =>
                    obtain ⟨k, b, rfl, rfl, hkN, hbv⟩ := hrel
                    have HBV := Lib.hid hbv
                    clear hbv
                    by_cases hkl : k < N
                    · obtain ⟨d, hd⟩ : ∃ d, ds[k]? = some d := ⟨_, List.getElem?_eq_getElem (by have := HN.out; omega)⟩
                      obtain ⟨bk, o, cap, hve, hbk, hbc⟩ := HDE.out.at (by have := HN.out; omega)
                      rw [← HN.out] at hve
                      cases hve
                      have d1 := (hbc k d hd).2.1
                      have hkI : (k : Int) < (N : Int) := by omega
                      have HBN : Hid ((b || decide (d.path = p)) = (Disk.jp p || (ds.take (k + 1)).any fun d => decide (d.path = p))) := Lib.hid (by rw [any_next hd, HBV.out, Bool.or_assoc])
                      have hqd : ((bs d.path).toList == (bs p).toList) = decide (d.path = p) := by
                        rw [bs_toList, bs_toList]
                        by_cases h : d.path = p
                        · rw [h, decide_eq_true rfl]; exact beq_self_eq_true _
                        · rw [decide_eq_false h]; exact beq_eq_false_iff_ne.2 h
                      obtain ⟨dp, hdp⟩ : ∃ x, x = d.path := ⟨_, rfl⟩
                      rw [← hdp] at d1 hqd HBN
                      clear hbc hd hdp
                      obtain ⟨bq, hbq⟩ : ∃ x, x = decide (dp = p) := ⟨_, rfl⟩
                      rw [← hbq] at hqd HBN
                      clear hbq
                      cases b
                      · go_wp2
                        go_round
                        case rel => exact ⟨k + 1, _, rfl, by go_num, by omega, by rw [← HBN.out]; rfl⟩
                        case measure => simp [intOf]; omega
                      · go_wp2
                        go_round
                        case rel => exact ⟨k + 1, _, rfl, by go_num, by omega, by rw [← HBN.out]; rfl⟩
                        case measure => simp [intOf]; omega
                    · have hkI : ¬ (k : Int) < (N : Int) := by omega
                      have hbt : b = true := by
                        rw [HBV.out, List.take_of_length_le (by rw [← HN.out]; omega)]
                        exact HOP.out
                      subst hbt
                      go_wp2
                      go_round
                      case rel => exact ⟨i + 1, by go_num, by omega⟩
                      case measure => simp [intOf]; omega
                · have hz8 : ¬ (8 : Int) < ((bs p).size : Int) := by rw [hsz8]; omega
                  have HJP : Hid (false = Disk.jp p) := Lib.hid (by rw [hj9, decide_eq_false h8]; rfl)
                  clear hj9 hs1 hpA hsz8
                  go_wp2
                  go_loop [14, 15] (fun bv q => ∃ (k : Nat) (b : Bool), bv = .bool b ∧ q = .int .i64 k ∧ k ≤ N ∧ b = (Disk.jp p || (ds.take k).any fun d => decide (d.path = p))) (fun _ q => N - (intOf q).toNat)
                  case atStart => exact ⟨0, _, rfl, rfl, by omega, by rw [← HJP.out]; simp⟩
                  case round =>
                    obtain ⟨k, b, rfl, rfl, hkN, hbv⟩ := hrel
                    have HBV := Lib.hid hbv
                    clear hbv
                    by_cases hkl : k < N
                    · obtain ⟨d, hd⟩ : ∃ d, ds[k]? = some d := ⟨_, List.getElem?_eq_getElem (by have := HN.out; omega)⟩
                      obtain ⟨bk, o, cap, hve, hbk, hbc⟩ := HDE.out.at (by have := HN.out; omega)
                      rw [← HN.out] at hve
                      cases hve
                      have d1 := (hbc k d hd).2.1
                      have hkI : (k : Int) < (N : Int) := by omega
                      have HBN : Hid ((b || decide (d.path = p)) = (Disk.jp p || (ds.take (k + 1)).any fun d => decide (d.path = p))) := Lib.hid (by rw [any_next hd, HBV.out, Bool.or_assoc])
                      have hqd : ((bs d.path).toList == (bs p).toList) = decide (d.path = p) := by
                        rw [bs_toList, bs_toList]
                        by_cases h : d.path = p
                        · rw [h, decide_eq_true rfl]; exact beq_self_eq_true _
                        · rw [decide_eq_false h]; exact beq_eq_false_iff_ne.2 h
                      obtain ⟨dp, hdp⟩ : ∃ x, x = d.path := ⟨_, rfl⟩
                      rw [← hdp] at d1 hqd HBN
                      clear hbc hd hdp
                      obtain ⟨bq, hbq⟩ : ∃ x, x = decide (dp = p) := ⟨_, rfl⟩
                      rw [← hbq] at hqd HBN
                      clear hbq
                      cases b
                      · go_wp2
                        go_round
                        case rel => exact ⟨k + 1, _, rfl, by go_num, by omega, by rw [← HBN.out]; rfl⟩
                        case measure => simp [intOf]; omega
                      · go_wp2
                        go_round
                        case rel => exact ⟨k + 1, _, rfl, by go_num, by omega, by rw [← HBN.out]; rfl⟩
                        case measure => simp [intOf]; omega
                    · have hkI : ¬ (k : Int) < (N : Int) := by omega
                      have hbt : b = true := by
                        rw [HBV.out, List.take_of_length_le (by rw [← HN.out]; omega)]
                        exact HOP.out
                      subst hbt
                      go_wp2
                      go_round
                      case rel => exact ⟨i + 1, by go_num, by omega⟩
                      case measure => simp [intOf]; omega
              · have hiI : ¬ (i : Int) < (R8 : Int) := by omega
                have HLV := Lib.hid (lives18_any w8 (HE1.out _ HS8.out.keeps))
                go_wp2_with fail
                refine HLV.out.mono ?_
                rintro e w9 ⟨rfl, hb9⟩
                have HB9 := Lib.hid (HEND.out _ _ _ (HS8.out.then_below hb9))
                clear hb9
                go_wp2
                go_returns
                exact ⟨rfl, HB9.out⟩
      · have hq0 : ((N : Int) == 0) = false := beq_eq_false_iff_ne.2 (by omega)
        clear hN0
        obtain ⟨w4, hw4⟩ : ∃ x, x = w3 := ⟨w3, rfl⟩
        have HS4 : Hid (DskNow w1 w4 w.heap.size O sd (1048576 + N + 6) s2) := Lib.hid (by rw [hw4]; exact HS3.out)
        rw [← hw4]
        clear hw4
        obtain ⟨⟨O4, hd4, hO4⟩, hk4⟩ := HS4.out
        have HK4 := Lib.hid hk4
        have HO4 := Lib.hid hO4
        have HD4 := Lib.hid hd4
        clear hd4 hO4 hk4
        have HKI : Hid (Calls Tryz.prog 11 #[.pointer (some ⟨sd, 0, none⟩), .string ⟨#[47, 106, 111, 117, 114, 110, 97, 108]⟩] w4 fun e w' => e = .returned (.int .i64 (Disk.kind s2.l Disk.jA)) ∧ Below w4.heap.size w4 w') := Lib.hid (Dsk.kind HD4.out Disk.jA (by decide))
        have HKC : Hid ((Disk.kind s2.l Disk.jA = 0 ∨ s2.raws ≠ []) → Disk.Pth (fun p => ownP ds p = true) ((⟨s2.l, s2.raws, -1⟩ : Disk.S).recover parseJ).2) := Lib.hid (fun hm => by
          rcases HQ2.out with ⟨h1, h2⟩ | ⟨h1, h2, h3⟩
          · rcases hm with hm | hm
            · rw [Disk.recover_none (s := ⟨s2.l, s2.raws, -1⟩) (show ¬ (-1 : Int) = 0 by decide) hm]
              intro r hr
              dsimp only at hr
              rw [h1] at hr
              exact absurd hr (by simp)
            · exact absurd h1 hm
          · refine Disk.recover_quiet (X := PL.Plan.text ds) (ds := ds.map toDd) ?_ h2 h3 (fun d hd => ?_) rfl rfl rfl
            · unfold parseJ; rw [PL.Plan.parse_text (canJ_ok h1)]
            · obtain ⟨x, hx, rfl⟩ := List.mem_map.1 hd
              show (_ || _) = true
              rw [Bool.or_eq_true]
              exact Or.inr (List.any_eq_true.2 ⟨x, hx, decide_eq_true rfl⟩))
        have HPE : Hid (s2.raws = [] → Disk.Pth (fun p => ownP ds p = true) ⟨s2.l, s2.raws, -1⟩) := Lib.hid (fun h r hr => by dsimp only at hr; rw [h] at hr; exact absurd hr (by simp))
        have HRW4 : Hid (∀ V, Below w4.heap.size w4 V → Calls Tryz.prog 10 #[.pointer (some ⟨sd, 0, none⟩)] V fun e w' => ∃ v, e = .returned v ∧ RwRow w' V.heap.size v s2.raws ∧ Below V.heap.size V w') := Lib.hid (fun V hV => Dsk.raws (HD4.out.below hV) (by omega))
        have HUPF : Hid (∀ V, Below w4.heap.size w4 V → Calls Tryz.prog 12 #[.pointer (some ⟨sd, 0, none⟩)] V fun e w' => e = .returned (.tuple #[]) ∧ DskNow w1 w' w.heap.size O sd (1048576 + N + 6) ⟨s2.l, s2.raws, -1⟩) := Lib.hid (fun V hV => (up_any (HD4.out.below hV)).mono fun e w' h => ⟨h.1, DskNow.after (HK4.out.then_below hV) HO4.out h.2⟩)
        obtain ⟨kk, hkk⟩ : ∃ kk, kk = Disk.kind s2.l Disk.jA := ⟨_, rfl⟩
        rw [← hkk] at HKI
        have HKK := Lib.hid hkk
        clear hkk
        by_cases hk1 : kk = 0
        · have HMI : Hid (Disk.kind s2.l Disk.jA = 0 ∨ s2.raws ≠ []) := Lib.hid (Or.inl (by rw [← HKK.out]; exact hk1))
          subst hk1
          go_wp2_with fail
          refine HKI.out.mono ?_
          rintro e w5 ⟨rfl, hb5⟩
          have HBQ := Lib.hid hb5
          clear hb5
          have HUP := Lib.hid (HUPF.out w5 HBQ.out)
          go_wp2_with fail
          refine HUP.out.mono ?_
          rintro e w6 ⟨rfl, hn6⟩
          have HS6 := Lib.hid hn6
          clear hn6
          obtain ⟨⟨O6, hd6, hO6⟩, hk6⟩ := HS6.out
          have HK6 := Lib.hid hk6
          have HO6 := Lib.hid hO6
          have HD6 := Lib.hid hd6
          clear hd6 hO6 hk6
          have HRC := Lib.hid (recover_any (M := 1048576) HD6.out (HE1.out _ HK6.out) HG.out (by omega) HCT.out.1 HCT.out.2)
          unfold JPost at HRC
          have HPR := Lib.hid (HKC.out HMI.out)
          obtain ⟨r, hr⟩ : ∃ r, r = (⟨s2.l, s2.raws, -1⟩ : Disk.S).recover parseJ := ⟨_, rfl⟩
          rw [← hr] at HRC HPR
          clear hr
          obtain ⟨rc, s7⟩ := r
          dsimp only at HRC
          go_wp2_with fail
          refine HRC.out.mono ?_
          rintro e w7 ⟨rfl, hn7⟩
          have HS7 := Lib.hid (DskNow.after HK6.out HO6.out hn7)
          have HP7 : Hid (Disk.Pth (fun p => ownP ds p = true) s7) := Lib.hid HPR.out
          clear hn7
          obtain ⟨⟨O7, hd7, hO7⟩, hk7⟩ := HS7.out
          have HK7 := Lib.hid hk7
          have HO7 := Lib.hid hO7
          have HD7 := Lib.hid hd7
          clear hd7 hO7 hk7
          have HRW7 := Lib.hid (Dsk.raws HD7.out (by omega))
          have HOFF7 := Lib.hid (HOFF1.out.keeps HK7.out HO7.out)
          go_wp2_with fail
          refine HRW7.out.mono ?_
          rintro e w8 ⟨v8, rfl, hr8, hb8⟩
          have HDE : Hid (PL.Deeds w8 w8.heap.size (.slice a2 N c2) ds) := Lib.hid ((HOFF7.out.deeds.below hb8 (Nat.le_refl _)).mono hb8.size)
          have HRS := Lib.hid (RwRow.rws hr8)
          have HS8 := Lib.hid (HS7.out.then_below hb8)
          obtain ⟨a8, c8, rfl⟩ := own_form hr8
          obtain ⟨R8, hR8⟩ : ∃ x, x = s7.raws.length := ⟨_, rfl⟩
          have HRL := Lib.hid hR8
          have hRb : R8 ≤ 1099511627776 := by
            obtain ⟨bm, m, rv, hm, _⟩ := HD7.out
            have := hm.2.1
            omega
          rw [← hR8]
          clear hr8 hb8 hR8
          go_wp2
          go_loop [12] (fun q => ∃ i : Nat, q = .int .i64 i ∧ i ≤ R8) (fun q => R8 - (intOf q).toNat)
          case atStart => exact ⟨0, rfl, by omega⟩
          case round =>
            obtain ⟨i, rfl, hi⟩ := hrel
            by_cases hiR : i < R8
            · obtain ⟨r, hr⟩ : ∃ r, s7.raws[i]? = some r := ⟨_, List.getElem?_eq_getElem (by have := HRL.out; omega)⟩
              obtain ⟨rb, ro, rcap, hve, hrb, hrc⟩ := HRS.out.at (by have := HRL.out; omega)
              rw [← HRL.out] at hve
              cases hve
              have r1 := (hrc i r hr).2.1
              have hiI : (i : Int) < (R8 : Int) := by omega
              have HOP0 := Lib.hid (HP7.out r (List.mem_of_getElem? hr))
              obtain ⟨p, hp⟩ : ∃ p, p = r.path := ⟨_, rfl⟩
              have HOP : Hid ((Disk.jp p || ds.any fun d => decide (d.path = p)) = true) := Lib.hid (by rw [hp]; exact HOP0.out)
              rw [← hp] at r1
              clear hrc hr hp HOP0
              have hs1 := str_eq_lit (bs p) [47, 106, 111, 117, 114, 110, 97, 108]
              rw [bs_list] at hs1
              by_cases hpA : p = Disk.jA
              · have q1 : ((bs p).toList == [47, 106, 111, 117, 114, 110, 97, 108]) = true := by rw [hs1]; exact decide_eq_true hpA
                have HJP : Hid (true = Disk.jp p) := Lib.hid (by rw [hpA]; rfl)
                clear hpA hs1
                go_wp2
                go_loop [14, 15] (fun bv q => ∃ (k : Nat) (b : Bool), bv = .bool b ∧ q = .int .i64 k ∧ k ≤ N ∧ b = (Disk.jp p || (ds.take k).any fun d => decide (d.path = p))) (fun _ q => N - (intOf q).toNat)
                case atStart => exact ⟨0, _, rfl, rfl, by omega, by rw [← HJP.out]; simp⟩
                case round =>
                  obtain ⟨k, b, rfl, rfl, hkN, hbv⟩ := hrel
                  have HBV := Lib.hid hbv
                  clear hbv
                  by_cases hkl : k < N
                  · obtain ⟨d, hd⟩ : ∃ d, ds[k]? = some d := ⟨_, List.getElem?_eq_getElem (by have := HN.out; omega)⟩
                    obtain ⟨bk, o, cap, hve, hbk, hbc⟩ := HDE.out.at (by have := HN.out; omega)
                    rw [← HN.out] at hve
                    cases hve
                    have d1 := (hbc k d hd).2.1
                    have hkI : (k : Int) < (N : Int) := by omega
                    have HBN : Hid ((b || decide (d.path = p)) = (Disk.jp p || (ds.take (k + 1)).any fun d => decide (d.path = p))) := Lib.hid (by rw [any_next hd, HBV.out, Bool.or_assoc])
                    have hqd : ((bs d.path).toList == (bs p).toList) = decide (d.path = p) := by
                      rw [bs_toList, bs_toList]
                      by_cases h : d.path = p
                      · rw [h, decide_eq_true rfl]; exact beq_self_eq_true _
                      · rw [decide_eq_false h]; exact beq_eq_false_iff_ne.2 h
                    obtain ⟨dp, hdp⟩ : ∃ x, x = d.path := ⟨_, rfl⟩
                    rw [← hdp] at d1 hqd HBN
                    clear hbc hd hdp
                    obtain ⟨bq, hbq⟩ : ∃ x, x = decide (dp = p) := ⟨_, rfl⟩
                    rw [← hbq] at hqd HBN
                    clear hbq
                    cases b
                    · go_wp2
                      go_round
                      case rel => exact ⟨k + 1, _, rfl, by go_num, by omega, by rw [← HBN.out]; rfl⟩
                      case measure => simp [intOf]; omega
                    · go_wp2
                      go_round
                      case rel => exact ⟨k + 1, _, rfl, by go_num, by omega, by rw [← HBN.out]; rfl⟩
                      case measure => simp [intOf]; omega
                  · have hkI : ¬ (k : Int) < (N : Int) := by omega
                    have hbt : b = true := by
                      rw [HBV.out, List.take_of_length_le (by rw [← HN.out]; omega)]
                      exact HOP.out
                    subst hbt
                    go_wp2
                    go_round
                    case rel => exact ⟨i + 1, by go_num, by omega⟩
                    case measure => simp [intOf]; omega
              have q1 : ((bs p).toList == [47, 106, 111, 117, 114, 110, 97, 108]) = false := by rw [hs1]; exact decide_eq_false hpA
              have hj9 := jp_nine hpA
              have hsz8 : (bs p).size = p.length := by show p.toArray.size = _; simp
              by_cases h8 : 8 < p.length
              · have hz8 : (8 : Int) < ((bs p).size : Int) := by rw [hsz8]; omega
                have hz9 : (9 : Int) ≤ ((bs p).size : Int) := by rw [hsz8]; omega
                have hz9n : 9 ≤ (bs p).size := by rw [hsz8]; omega
                have hx9 : (((bs p).extract 0 9).toList == [47, 106, 111, 117, 114, 110, 97, 108, 47]) = Disk.jp p := by
                  rw [str_eq_lit, hj9, decide_eq_true h8, Bool.true_and]
                  have e : ((bs p).extract 0 9).data.toList = p.take 9 := by
                    rw [ByteArray.data_extract]
                    simp [bs]
                  rw [e]
                  rfl
                obtain ⟨jb, hjb⟩ : ∃ jb, jb = Disk.jp p := ⟨_, rfl⟩
                have HJP : Hid (jb = Disk.jp p) := Lib.hid hjb
                rw [← hjb] at hx9
                clear hjb hj9 hs1 hpA hsz8
                go_wp2
                go_loop [14, 15] (fun bv q => ∃ (k : Nat) (b : Bool), bv = .bool b ∧ q = .int .i64 k ∧ k ≤ N ∧ b = (Disk.jp p || (ds.take k).any fun d => decide (d.path = p))) (fun _ q => N - (intOf q).toNat)
                case atStart => exact ⟨0, _, rfl, rfl, by omega, by rw [← HJP.out]; simp⟩
                case round =>
                  obtain ⟨k, b, rfl, rfl, hkN, hbv⟩ := hrel
                  have HBV := Lib.hid hbv
                  clear hbv
                  by_cases hkl : k < N
                  · obtain ⟨d, hd⟩ : ∃ d, ds[k]? = some d := ⟨_, List.getElem?_eq_getElem (by have := HN.out; omega)⟩
                    obtain ⟨bk, o, cap, hve, hbk, hbc⟩ := HDE.out.at (by have := HN.out; omega)
                    rw [← HN.out] at hve
                    cases hve
                    have d1 := (hbc k d hd).2.1
                    have hkI : (k : Int) < (N : Int) := by omega
                    have HBN : Hid ((b || decide (d.path = p)) = (Disk.jp p || (ds.take (k + 1)).any fun d => decide (d.path = p))) := Lib.hid (by rw [any_next hd, HBV.out, Bool.or_assoc])
                    have hqd : ((bs d.path).toList == (bs p).toList) = decide (d.path = p) := by
                      rw [bs_toList, bs_toList]
                      by_cases h : d.path = p
                      · rw [h, decide_eq_true rfl]; exact beq_self_eq_true _
                      · rw [decide_eq_false h]; exact beq_eq_false_iff_ne.2 h
                    obtain ⟨dp, hdp⟩ : ∃ x, x = d.path := ⟨_, rfl⟩
                    rw [← hdp] at d1 hqd HBN
                    clear hbc hd hdp
                    obtain ⟨bq, hbq⟩ : ∃ x, x = decide (dp = p) := ⟨_, rfl⟩
                    rw [← hbq] at hqd HBN
                    clear hbq
                    cases b
                    · go_wp2
                      go_round
                      case rel => exact ⟨k + 1, _, rfl, by go_num, by omega, by rw [← HBN.out]; rfl⟩
                      case measure => simp [intOf]; omega
                    · go_wp2
                      go_round
                      case rel => exact ⟨k + 1, _, rfl, by go_num, by omega, by rw [← HBN.out]; rfl⟩
                      case measure => simp [intOf]; omega
                  · have hkI : ¬ (k : Int) < (N : Int) := by omega
                    have hbt : b = true := by
                      rw [HBV.out, List.take_of_length_le (by rw [← HN.out]; omega)]
                      exact HOP.out
                    subst hbt
                    go_wp2
                    go_round
                    case rel => exact ⟨i + 1, by go_num, by omega⟩
                    case measure => simp [intOf]; omega
              · have hz8 : ¬ (8 : Int) < ((bs p).size : Int) := by rw [hsz8]; omega
                have HJP : Hid (false = Disk.jp p) := Lib.hid (by rw [hj9, decide_eq_false h8]; rfl)
                clear hj9 hs1 hpA hsz8
                go_wp2
                go_loop [14, 15] (fun bv q => ∃ (k : Nat) (b : Bool), bv = .bool b ∧ q = .int .i64 k ∧ k ≤ N ∧ b = (Disk.jp p || (ds.take k).any fun d => decide (d.path = p))) (fun _ q => N - (intOf q).toNat)
                case atStart => exact ⟨0, _, rfl, rfl, by omega, by rw [← HJP.out]; simp⟩
                case round =>
                  obtain ⟨k, b, rfl, rfl, hkN, hbv⟩ := hrel
                  have HBV := Lib.hid hbv
                  clear hbv
                  by_cases hkl : k < N
                  · obtain ⟨d, hd⟩ : ∃ d, ds[k]? = some d := ⟨_, List.getElem?_eq_getElem (by have := HN.out; omega)⟩
                    obtain ⟨bk, o, cap, hve, hbk, hbc⟩ := HDE.out.at (by have := HN.out; omega)
                    rw [← HN.out] at hve
                    cases hve
                    have d1 := (hbc k d hd).2.1
                    have hkI : (k : Int) < (N : Int) := by omega
                    have HBN : Hid ((b || decide (d.path = p)) = (Disk.jp p || (ds.take (k + 1)).any fun d => decide (d.path = p))) := Lib.hid (by rw [any_next hd, HBV.out, Bool.or_assoc])
                    have hqd : ((bs d.path).toList == (bs p).toList) = decide (d.path = p) := by
                      rw [bs_toList, bs_toList]
                      by_cases h : d.path = p
                      · rw [h, decide_eq_true rfl]; exact beq_self_eq_true _
                      · rw [decide_eq_false h]; exact beq_eq_false_iff_ne.2 h
                    obtain ⟨dp, hdp⟩ : ∃ x, x = d.path := ⟨_, rfl⟩
                    rw [← hdp] at d1 hqd HBN
                    clear hbc hd hdp
                    obtain ⟨bq, hbq⟩ : ∃ x, x = decide (dp = p) := ⟨_, rfl⟩
                    rw [← hbq] at hqd HBN
                    clear hbq
                    cases b
                    · go_wp2
                      go_round
                      case rel => exact ⟨k + 1, _, rfl, by go_num, by omega, by rw [← HBN.out]; rfl⟩
                      case measure => simp [intOf]; omega
                    · go_wp2
                      go_round
                      case rel => exact ⟨k + 1, _, rfl, by go_num, by omega, by rw [← HBN.out]; rfl⟩
                      case measure => simp [intOf]; omega
                  · have hkI : ¬ (k : Int) < (N : Int) := by omega
                    have hbt : b = true := by
                      rw [HBV.out, List.take_of_length_le (by rw [← HN.out]; omega)]
                      exact HOP.out
                    subst hbt
                    go_wp2
                    go_round
                    case rel => exact ⟨i + 1, by go_num, by omega⟩
                    case measure => simp [intOf]; omega
            · have hiI : ¬ (i : Int) < (R8 : Int) := by omega
              have HLV := Lib.hid (lives18_any w8 (HE1.out _ HS8.out.keeps))
              go_wp2_with fail
              refine HLV.out.mono ?_
              rintro e w9 ⟨rfl, hb9⟩
              have HB9 := Lib.hid (HEND.out _ _ _ (HS8.out.then_below hb9))
              clear hb9
              go_wp2
              go_returns
              exact ⟨rfl, HB9.out⟩
        · have hqk : (kk == 0) = false := beq_eq_false_iff_ne.2 hk1
          by_cases hrr : s2.raws = []
          · have HPX := Lib.hid (HPE.out hrr)
            have hrl : s2.raws.length = 0 := by rw [hrr]; rfl
            have HRL0 := Lib.hid hrl
            clear hk1 hrr hrl
            go_wp2_with fail
            refine HKI.out.mono ?_
            rintro e w4' ⟨rfl, hb5⟩
            have HRW5 := Lib.hid (HRW4.out w4' hb5)
            have HB5 := Lib.hid hb5
            clear hb5
            go_wp2_with fail
            refine HRW5.out.mono ?_
            rintro e w5 ⟨v6, rfl, hr6, hb6⟩
            obtain ⟨a6, c6, rfl⟩ := own_form hr6
            have HBQ := Lib.hid (HB5.out.trans (hb6.mono HB5.out.size))
            rw [HRL0.out]
            clear hr6 hb6
            have HUP := Lib.hid (HUPF.out w5 HBQ.out)
            go_wp2_with fail
            refine HUP.out.mono ?_
            rintro e w6 ⟨rfl, hn6⟩
            have HS6 := Lib.hid hn6
            clear hn6
            have HS7 := Lib.hid (HS6.out.more (show 1048576 + N + 6 ≤ 1048576 + N + 6 + 1048576 + 3 by omega))
            have HP7 : Hid (Disk.Pth (fun p => ownP ds p = true) ⟨s2.l, s2.raws, -1⟩) := Lib.hid HPX.out
            obtain ⟨s7, hs7⟩ : ∃ x, x = (⟨s2.l, s2.raws, -1⟩ : Disk.S) := ⟨_, rfl⟩
            rw [← hs7] at HS7 HP7
            clear hs7
            obtain ⟨w7, hw7⟩ : ∃ x, x = w6 := ⟨w6, rfl⟩
            rw [← hw7] at HS7 ⊢
            clear hw7
            obtain ⟨⟨O7, hd7, hO7⟩, hk7⟩ := HS7.out
            have HK7 := Lib.hid hk7
            have HO7 := Lib.hid hO7
            have HD7 := Lib.hid hd7
            clear hd7 hO7 hk7
            have HRW7 := Lib.hid (Dsk.raws HD7.out (by omega))
            have HOFF7 := Lib.hid (HOFF1.out.keeps HK7.out HO7.out)
            go_wp2_with fail
            refine HRW7.out.mono ?_
            rintro e w8 ⟨v8, rfl, hr8, hb8⟩
            have HDE : Hid (PL.Deeds w8 w8.heap.size (.slice a2 N c2) ds) := Lib.hid ((HOFF7.out.deeds.below hb8 (Nat.le_refl _)).mono hb8.size)
            have HRS := Lib.hid (RwRow.rws hr8)
            have HS8 := Lib.hid (HS7.out.then_below hb8)
            obtain ⟨a8, c8, rfl⟩ := own_form hr8
            obtain ⟨R8, hR8⟩ : ∃ x, x = s7.raws.length := ⟨_, rfl⟩
            have HRL := Lib.hid hR8
            have hRb : R8 ≤ 1099511627776 := by
              obtain ⟨bm, m, rv, hm, _⟩ := HD7.out
              have := hm.2.1
              omega
            rw [← hR8]
            clear hr8 hb8 hR8
            go_wp2
            go_loop [12] (fun q => ∃ i : Nat, q = .int .i64 i ∧ i ≤ R8) (fun q => R8 - (intOf q).toNat)
            case atStart => exact ⟨0, rfl, by omega⟩
            case round =>
              obtain ⟨i, rfl, hi⟩ := hrel
              by_cases hiR : i < R8
              · obtain ⟨r, hr⟩ : ∃ r, s7.raws[i]? = some r := ⟨_, List.getElem?_eq_getElem (by have := HRL.out; omega)⟩
                obtain ⟨rb, ro, rcap, hve, hrb, hrc⟩ := HRS.out.at (by have := HRL.out; omega)
                rw [← HRL.out] at hve
                cases hve
                have r1 := (hrc i r hr).2.1
                have hiI : (i : Int) < (R8 : Int) := by omega
                have HOP0 := Lib.hid (HP7.out r (List.mem_of_getElem? hr))
                obtain ⟨p, hp⟩ : ∃ p, p = r.path := ⟨_, rfl⟩
                have HOP : Hid ((Disk.jp p || ds.any fun d => decide (d.path = p)) = true) := Lib.hid (by rw [hp]; exact HOP0.out)
                rw [← hp] at r1
                clear hrc hr hp HOP0
                have hs1 := str_eq_lit (bs p) [47, 106, 111, 117, 114, 110, 97, 108]
                rw [bs_list] at hs1
                by_cases hpA : p = Disk.jA
                · have q1 : ((bs p).toList == [47, 106, 111, 117, 114, 110, 97, 108]) = true := by rw [hs1]; exact decide_eq_true hpA
                  have HJP : Hid (true = Disk.jp p) := Lib.hid (by rw [hpA]; rfl)
                  clear hpA hs1
                  go_wp2
                  go_loop [14, 15] (fun bv q => ∃ (k : Nat) (b : Bool), bv = .bool b ∧ q = .int .i64 k ∧ k ≤ N ∧ b = (Disk.jp p || (ds.take k).any fun d => decide (d.path = p))) (fun _ q => N - (intOf q).toNat)
                  case atStart => exact ⟨0, _, rfl, rfl, by omega, by rw [← HJP.out]; simp⟩
                  case round =>
                    obtain ⟨k, b, rfl, rfl, hkN, hbv⟩ := hrel
                    have HBV := Lib.hid hbv
                    clear hbv
                    by_cases hkl : k < N
                    · obtain ⟨d, hd⟩ : ∃ d, ds[k]? = some d := ⟨_, List.getElem?_eq_getElem (by have := HN.out; omega)⟩
                      obtain ⟨bk, o, cap, hve, hbk, hbc⟩ := HDE.out.at (by have := HN.out; omega)
                      rw [← HN.out] at hve
                      cases hve
                      have d1 := (hbc k d hd).2.1
                      have hkI : (k : Int) < (N : Int) := by omega
                      have HBN : Hid ((b || decide (d.path = p)) = (Disk.jp p || (ds.take (k + 1)).any fun d => decide (d.path = p))) := Lib.hid (by rw [any_next hd, HBV.out, Bool.or_assoc])
                      have hqd : ((bs d.path).toList == (bs p).toList) = decide (d.path = p) := by
                        rw [bs_toList, bs_toList]
                        by_cases h : d.path = p
                        · rw [h, decide_eq_true rfl]; exact beq_self_eq_true _
                        · rw [decide_eq_false h]; exact beq_eq_false_iff_ne.2 h
                      obtain ⟨dp, hdp⟩ : ∃ x, x = d.path := ⟨_, rfl⟩
                      rw [← hdp] at d1 hqd HBN
                      clear hbc hd hdp
                      obtain ⟨bq, hbq⟩ : ∃ x, x = decide (dp = p) := ⟨_, rfl⟩
                      rw [← hbq] at hqd HBN
                      clear hbq
                      cases b
                      · go_wp2
                        go_round
                        case rel => exact ⟨k + 1, _, rfl, by go_num, by omega, by rw [← HBN.out]; rfl⟩
                        case measure => simp [intOf]; omega
                      · go_wp2
                        go_round
                        case rel => exact ⟨k + 1, _, rfl, by go_num, by omega, by rw [← HBN.out]; rfl⟩
                        case measure => simp [intOf]; omega
                    · have hkI : ¬ (k : Int) < (N : Int) := by omega
                      have hbt : b = true := by
                        rw [HBV.out, List.take_of_length_le (by rw [← HN.out]; omega)]
                        exact HOP.out
                      subst hbt
                      go_wp2
                      go_round
                      case rel => exact ⟨i + 1, by go_num, by omega⟩
                      case measure => simp [intOf]; omega
                have q1 : ((bs p).toList == [47, 106, 111, 117, 114, 110, 97, 108]) = false := by rw [hs1]; exact decide_eq_false hpA
                have hj9 := jp_nine hpA
                have hsz8 : (bs p).size = p.length := by show p.toArray.size = _; simp
                by_cases h8 : 8 < p.length
                · have hz8 : (8 : Int) < ((bs p).size : Int) := by rw [hsz8]; omega
                  have hz9 : (9 : Int) ≤ ((bs p).size : Int) := by rw [hsz8]; omega
                  have hz9n : 9 ≤ (bs p).size := by rw [hsz8]; omega
                  have hx9 : (((bs p).extract 0 9).toList == [47, 106, 111, 117, 114, 110, 97, 108, 47]) = Disk.jp p := by
                    rw [str_eq_lit, hj9, decide_eq_true h8, Bool.true_and]
                    have e : ((bs p).extract 0 9).data.toList = p.take 9 := by
                      rw [ByteArray.data_extract]
                      simp [bs]
                    rw [e]
                    rfl
                  obtain ⟨jb, hjb⟩ : ∃ jb, jb = Disk.jp p := ⟨_, rfl⟩
                  have HJP : Hid (jb = Disk.jp p) := Lib.hid hjb
                  rw [← hjb] at hx9
                  clear hjb hj9 hs1 hpA hsz8
                  go_wp2
                  go_loop [14, 15] (fun bv q => ∃ (k : Nat) (b : Bool), bv = .bool b ∧ q = .int .i64 k ∧ k ≤ N ∧ b = (Disk.jp p || (ds.take k).any fun d => decide (d.path = p))) (fun _ q => N - (intOf q).toNat)
                  case atStart => exact ⟨0, _, rfl, rfl, by omega, by rw [← HJP.out]; simp⟩
                  case round =>
                    obtain ⟨k, b, rfl, rfl, hkN, hbv⟩ := hrel
                    have HBV := Lib.hid hbv
                    clear hbv
                    by_cases hkl : k < N
                    · obtain ⟨d, hd⟩ : ∃ d, ds[k]? = some d := ⟨_, List.getElem?_eq_getElem (by have := HN.out; omega)⟩
                      obtain ⟨bk, o, cap, hve, hbk, hbc⟩ := HDE.out.at (by have := HN.out; omega)
                      rw [← HN.out] at hve
                      cases hve
                      have d1 := (hbc k d hd).2.1
                      have hkI : (k : Int) < (N : Int) := by omega
                      have HBN : Hid ((b || decide (d.path = p)) = (Disk.jp p || (ds.take (k + 1)).any fun d => decide (d.path = p))) := Lib.hid (by rw [any_next hd, HBV.out, Bool.or_assoc])
                      have hqd : ((bs d.path).toList == (bs p).toList) = decide (d.path = p) := by
                        rw [bs_toList, bs_toList]
                        by_cases h : d.path = p
                        · rw [h, decide_eq_true rfl]; exact beq_self_eq_true _
                        · rw [decide_eq_false h]; exact beq_eq_false_iff_ne.2 h
                      obtain ⟨dp, hdp⟩ : ∃ x, x = d.path := ⟨_, rfl⟩
                      rw [← hdp] at d1 hqd HBN
                      clear hbc hd hdp
                      obtain ⟨bq, hbq⟩ : ∃ x, x = decide (dp = p) := ⟨_, rfl⟩
                      rw [← hbq] at hqd HBN
                      clear hbq
                      cases b
                      · go_wp2
                        go_round
                        case rel => exact ⟨k + 1, _, rfl, by go_num, by omega, by rw [← HBN.out]; rfl⟩
                        case measure => simp [intOf]; omega
                      · go_wp2
                        go_round
                        case rel => exact ⟨k + 1, _, rfl, by go_num, by omega, by rw [← HBN.out]; rfl⟩
                        case measure => simp [intOf]; omega
                    · have hkI : ¬ (k : Int) < (N : Int) := by omega
                      have hbt : b = true := by
                        rw [HBV.out, List.take_of_length_le (by rw [← HN.out]; omega)]
                        exact HOP.out
                      subst hbt
                      go_wp2
                      go_round
                      case rel => exact ⟨i + 1, by go_num, by omega⟩
                      case measure => simp [intOf]; omega
                · have hz8 : ¬ (8 : Int) < ((bs p).size : Int) := by rw [hsz8]; omega
                  have HJP : Hid (false = Disk.jp p) := Lib.hid (by rw [hj9, decide_eq_false h8]; rfl)
                  clear hj9 hs1 hpA hsz8
                  go_wp2
                  go_loop [14, 15] (fun bv q => ∃ (k : Nat) (b : Bool), bv = .bool b ∧ q = .int .i64 k ∧ k ≤ N ∧ b = (Disk.jp p || (ds.take k).any fun d => decide (d.path = p))) (fun _ q => N - (intOf q).toNat)
                  case atStart => exact ⟨0, _, rfl, rfl, by omega, by rw [← HJP.out]; simp⟩
                  case round =>
                    obtain ⟨k, b, rfl, rfl, hkN, hbv⟩ := hrel
                    have HBV := Lib.hid hbv
                    clear hbv
                    by_cases hkl : k < N
                    · obtain ⟨d, hd⟩ : ∃ d, ds[k]? = some d := ⟨_, List.getElem?_eq_getElem (by have := HN.out; omega)⟩
                      obtain ⟨bk, o, cap, hve, hbk, hbc⟩ := HDE.out.at (by have := HN.out; omega)
                      rw [← HN.out] at hve
                      cases hve
                      have d1 := (hbc k d hd).2.1
                      have hkI : (k : Int) < (N : Int) := by omega
                      have HBN : Hid ((b || decide (d.path = p)) = (Disk.jp p || (ds.take (k + 1)).any fun d => decide (d.path = p))) := Lib.hid (by rw [any_next hd, HBV.out, Bool.or_assoc])
                      have hqd : ((bs d.path).toList == (bs p).toList) = decide (d.path = p) := by
                        rw [bs_toList, bs_toList]
                        by_cases h : d.path = p
                        · rw [h, decide_eq_true rfl]; exact beq_self_eq_true _
                        · rw [decide_eq_false h]; exact beq_eq_false_iff_ne.2 h
                      obtain ⟨dp, hdp⟩ : ∃ x, x = d.path := ⟨_, rfl⟩
                      rw [← hdp] at d1 hqd HBN
                      clear hbc hd hdp
                      obtain ⟨bq, hbq⟩ : ∃ x, x = decide (dp = p) := ⟨_, rfl⟩
                      rw [← hbq] at hqd HBN
                      clear hbq
                      cases b
                      · go_wp2
                        go_round
                        case rel => exact ⟨k + 1, _, rfl, by go_num, by omega, by rw [← HBN.out]; rfl⟩
                        case measure => simp [intOf]; omega
                      · go_wp2
                        go_round
                        case rel => exact ⟨k + 1, _, rfl, by go_num, by omega, by rw [← HBN.out]; rfl⟩
                        case measure => simp [intOf]; omega
                    · have hkI : ¬ (k : Int) < (N : Int) := by omega
                      have hbt : b = true := by
                        rw [HBV.out, List.take_of_length_le (by rw [← HN.out]; omega)]
                        exact HOP.out
                      subst hbt
                      go_wp2
                      go_round
                      case rel => exact ⟨i + 1, by go_num, by omega⟩
                      case measure => simp [intOf]; omega
              · have hiI : ¬ (i : Int) < (R8 : Int) := by omega
                have HLV := Lib.hid (lives18_any w8 (HE1.out _ HS8.out.keeps))
                go_wp2_with fail
                refine HLV.out.mono ?_
                rintro e w9 ⟨rfl, hb9⟩
                have HB9 := Lib.hid (HEND.out _ _ _ (HS8.out.then_below hb9))
                clear hb9
                go_wp2
                go_returns
                exact ⟨rfl, HB9.out⟩
          · have HMI : Hid (Disk.kind s2.l Disk.jA = 0 ∨ s2.raws ≠ []) := Lib.hid (Or.inr hrr)
            obtain ⟨R, hR⟩ : ∃ R, R = s2.raws.length := ⟨_, rfl⟩
            have hRp : (0 : Int) < (R : Int) := by
              have : 0 < s2.raws.length := List.length_pos_iff.2 hrr
              omega
            have hRn : 0 < R := by omega
            have HR := Lib.hid hR
            clear hk1 hrr hR
            go_wp2_with fail
            refine HKI.out.mono ?_
            rintro e w4' ⟨rfl, hb5⟩
            have HRW5 := Lib.hid (HRW4.out w4' hb5)
            have HB5 := Lib.hid hb5
            clear hb5
            go_wp2_with fail
            refine HRW5.out.mono ?_
            rintro e w5 ⟨v6, rfl, hr6, hb6⟩
            obtain ⟨a6, c6, rfl⟩ := own_form hr6
            have HBQ := Lib.hid (HB5.out.trans (hb6.mono HB5.out.size))
            rw [← HR.out]
            clear hr6 hb6
            have HUP := Lib.hid (HUPF.out w5 HBQ.out)
            go_wp2_with fail
            refine HUP.out.mono ?_
            rintro e w6 ⟨rfl, hn6⟩
            have HS6 := Lib.hid hn6
            clear hn6
            obtain ⟨⟨O6, hd6, hO6⟩, hk6⟩ := HS6.out
            have HK6 := Lib.hid hk6
            have HO6 := Lib.hid hO6
            have HD6 := Lib.hid hd6
            clear hd6 hO6 hk6
            have HRC := Lib.hid (recover_any (M := 1048576) HD6.out (HE1.out _ HK6.out) HG.out (by omega) HCT.out.1 HCT.out.2)
            unfold JPost at HRC
            have HPR := Lib.hid (HKC.out HMI.out)
            obtain ⟨r, hr⟩ : ∃ r, r = (⟨s2.l, s2.raws, -1⟩ : Disk.S).recover parseJ := ⟨_, rfl⟩
            rw [← hr] at HRC HPR
            clear hr
            obtain ⟨rc, s7⟩ := r
            dsimp only at HRC
            go_wp2_with fail
            refine HRC.out.mono ?_
            rintro e w7 ⟨rfl, hn7⟩
            have HS7 := Lib.hid (DskNow.after HK6.out HO6.out hn7)
            have HP7 : Hid (Disk.Pth (fun p => ownP ds p = true) s7) := Lib.hid HPR.out
            clear hn7
            obtain ⟨⟨O7, hd7, hO7⟩, hk7⟩ := HS7.out
            have HK7 := Lib.hid hk7
            have HO7 := Lib.hid hO7
            have HD7 := Lib.hid hd7
            clear hd7 hO7 hk7
            have HRW7 := Lib.hid (Dsk.raws HD7.out (by omega))
            have HOFF7 := Lib.hid (HOFF1.out.keeps HK7.out HO7.out)
            go_wp2_with fail
            refine HRW7.out.mono ?_
            rintro e w8 ⟨v8, rfl, hr8, hb8⟩
            have HDE : Hid (PL.Deeds w8 w8.heap.size (.slice a2 N c2) ds) := Lib.hid ((HOFF7.out.deeds.below hb8 (Nat.le_refl _)).mono hb8.size)
            have HRS := Lib.hid (RwRow.rws hr8)
            have HS8 := Lib.hid (HS7.out.then_below hb8)
            obtain ⟨a8, c8, rfl⟩ := own_form hr8
            obtain ⟨R8, hR8⟩ : ∃ x, x = s7.raws.length := ⟨_, rfl⟩
            have HRL := Lib.hid hR8
            have hRb : R8 ≤ 1099511627776 := by
              obtain ⟨bm, m, rv, hm, _⟩ := HD7.out
              have := hm.2.1
              omega
            rw [← hR8]
            clear hr8 hb8 hR8
            go_wp2
            go_loop [12] (fun q => ∃ i : Nat, q = .int .i64 i ∧ i ≤ R8) (fun q => R8 - (intOf q).toNat)
            case atStart => exact ⟨0, rfl, by omega⟩
            case round =>
              obtain ⟨i, rfl, hi⟩ := hrel
              by_cases hiR : i < R8
              · obtain ⟨r, hr⟩ : ∃ r, s7.raws[i]? = some r := ⟨_, List.getElem?_eq_getElem (by have := HRL.out; omega)⟩
                obtain ⟨rb, ro, rcap, hve, hrb, hrc⟩ := HRS.out.at (by have := HRL.out; omega)
                rw [← HRL.out] at hve
                cases hve
                have r1 := (hrc i r hr).2.1
                have hiI : (i : Int) < (R8 : Int) := by omega
                have HOP0 := Lib.hid (HP7.out r (List.mem_of_getElem? hr))
                obtain ⟨p, hp⟩ : ∃ p, p = r.path := ⟨_, rfl⟩
                have HOP : Hid ((Disk.jp p || ds.any fun d => decide (d.path = p)) = true) := Lib.hid (by rw [hp]; exact HOP0.out)
                rw [← hp] at r1
                clear hrc hr hp HOP0
                have hs1 := str_eq_lit (bs p) [47, 106, 111, 117, 114, 110, 97, 108]
                rw [bs_list] at hs1
                by_cases hpA : p = Disk.jA
                · have q1 : ((bs p).toList == [47, 106, 111, 117, 114, 110, 97, 108]) = true := by rw [hs1]; exact decide_eq_true hpA
                  have HJP : Hid (true = Disk.jp p) := Lib.hid (by rw [hpA]; rfl)
                  clear hpA hs1
                  go_wp2
                  go_loop [14, 15] (fun bv q => ∃ (k : Nat) (b : Bool), bv = .bool b ∧ q = .int .i64 k ∧ k ≤ N ∧ b = (Disk.jp p || (ds.take k).any fun d => decide (d.path = p))) (fun _ q => N - (intOf q).toNat)
                  case atStart => exact ⟨0, _, rfl, rfl, by omega, by rw [← HJP.out]; simp⟩
                  case round =>
                    obtain ⟨k, b, rfl, rfl, hkN, hbv⟩ := hrel
                    have HBV := Lib.hid hbv
                    clear hbv
                    by_cases hkl : k < N
                    · obtain ⟨d, hd⟩ : ∃ d, ds[k]? = some d := ⟨_, List.getElem?_eq_getElem (by have := HN.out; omega)⟩
                      obtain ⟨bk, o, cap, hve, hbk, hbc⟩ := HDE.out.at (by have := HN.out; omega)
                      rw [← HN.out] at hve
                      cases hve
                      have d1 := (hbc k d hd).2.1
                      have hkI : (k : Int) < (N : Int) := by omega
                      have HBN : Hid ((b || decide (d.path = p)) = (Disk.jp p || (ds.take (k + 1)).any fun d => decide (d.path = p))) := Lib.hid (by rw [any_next hd, HBV.out, Bool.or_assoc])
                      have hqd : ((bs d.path).toList == (bs p).toList) = decide (d.path = p) := by
                        rw [bs_toList, bs_toList]
                        by_cases h : d.path = p
                        · rw [h, decide_eq_true rfl]; exact beq_self_eq_true _
                        · rw [decide_eq_false h]; exact beq_eq_false_iff_ne.2 h
                      obtain ⟨dp, hdp⟩ : ∃ x, x = d.path := ⟨_, rfl⟩
                      rw [← hdp] at d1 hqd HBN
                      clear hbc hd hdp
                      obtain ⟨bq, hbq⟩ : ∃ x, x = decide (dp = p) := ⟨_, rfl⟩
                      rw [← hbq] at hqd HBN
                      clear hbq
                      cases b
                      · go_wp2
                        go_round
                        case rel => exact ⟨k + 1, _, rfl, by go_num, by omega, by rw [← HBN.out]; rfl⟩
                        case measure => simp [intOf]; omega
                      · go_wp2
                        go_round
                        case rel => exact ⟨k + 1, _, rfl, by go_num, by omega, by rw [← HBN.out]; rfl⟩
                        case measure => simp [intOf]; omega
                    · have hkI : ¬ (k : Int) < (N : Int) := by omega
                      have hbt : b = true := by
                        rw [HBV.out, List.take_of_length_le (by rw [← HN.out]; omega)]
                        exact HOP.out
                      subst hbt
                      go_wp2
                      go_round
                      case rel => exact ⟨i + 1, by go_num, by omega⟩
                      case measure => simp [intOf]; omega
                have q1 : ((bs p).toList == [47, 106, 111, 117, 114, 110, 97, 108]) = false := by rw [hs1]; exact decide_eq_false hpA
                have hj9 := jp_nine hpA
                have hsz8 : (bs p).size = p.length := by show p.toArray.size = _; simp
                by_cases h8 : 8 < p.length
                · have hz8 : (8 : Int) < ((bs p).size : Int) := by rw [hsz8]; omega
                  have hz9 : (9 : Int) ≤ ((bs p).size : Int) := by rw [hsz8]; omega
                  have hz9n : 9 ≤ (bs p).size := by rw [hsz8]; omega
                  have hx9 : (((bs p).extract 0 9).toList == [47, 106, 111, 117, 114, 110, 97, 108, 47]) = Disk.jp p := by
                    rw [str_eq_lit, hj9, decide_eq_true h8, Bool.true_and]
                    have e : ((bs p).extract 0 9).data.toList = p.take 9 := by
                      rw [ByteArray.data_extract]
                      simp [bs]
                    rw [e]
                    rfl
                  obtain ⟨jb, hjb⟩ : ∃ jb, jb = Disk.jp p := ⟨_, rfl⟩
                  have HJP : Hid (jb = Disk.jp p) := Lib.hid hjb
                  rw [← hjb] at hx9
                  clear hjb hj9 hs1 hpA hsz8
                  go_wp2
                  go_loop [14, 15] (fun bv q => ∃ (k : Nat) (b : Bool), bv = .bool b ∧ q = .int .i64 k ∧ k ≤ N ∧ b = (Disk.jp p || (ds.take k).any fun d => decide (d.path = p))) (fun _ q => N - (intOf q).toNat)
                  case atStart => exact ⟨0, _, rfl, rfl, by omega, by rw [← HJP.out]; simp⟩
                  case round =>
                    obtain ⟨k, b, rfl, rfl, hkN, hbv⟩ := hrel
                    have HBV := Lib.hid hbv
                    clear hbv
                    by_cases hkl : k < N
                    · obtain ⟨d, hd⟩ : ∃ d, ds[k]? = some d := ⟨_, List.getElem?_eq_getElem (by have := HN.out; omega)⟩
                      obtain ⟨bk, o, cap, hve, hbk, hbc⟩ := HDE.out.at (by have := HN.out; omega)
                      rw [← HN.out] at hve
                      cases hve
                      have d1 := (hbc k d hd).2.1
                      have hkI : (k : Int) < (N : Int) := by omega
                      have HBN : Hid ((b || decide (d.path = p)) = (Disk.jp p || (ds.take (k + 1)).any fun d => decide (d.path = p))) := Lib.hid (by rw [any_next hd, HBV.out, Bool.or_assoc])
                      have hqd : ((bs d.path).toList == (bs p).toList) = decide (d.path = p) := by
                        rw [bs_toList, bs_toList]
                        by_cases h : d.path = p
                        · rw [h, decide_eq_true rfl]; exact beq_self_eq_true _
                        · rw [decide_eq_false h]; exact beq_eq_false_iff_ne.2 h
                      obtain ⟨dp, hdp⟩ : ∃ x, x = d.path := ⟨_, rfl⟩
                      rw [← hdp] at d1 hqd HBN
                      clear hbc hd hdp
                      obtain ⟨bq, hbq⟩ : ∃ x, x = decide (dp = p) := ⟨_, rfl⟩
                      rw [← hbq] at hqd HBN
                      clear hbq
                      cases b
                      · go_wp2
                        go_round
                        case rel => exact ⟨k + 1, _, rfl, by go_num, by omega, by rw [← HBN.out]; rfl⟩
                        case measure => simp [intOf]; omega
                      · go_wp2
                        go_round
                        case rel => exact ⟨k + 1, _, rfl, by go_num, by omega, by rw [← HBN.out]; rfl⟩
                        case measure => simp [intOf]; omega
                    · have hkI : ¬ (k : Int) < (N : Int) := by omega
                      have hbt : b = true := by
                        rw [HBV.out, List.take_of_length_le (by rw [← HN.out]; omega)]
                        exact HOP.out
                      subst hbt
                      go_wp2
                      go_round
                      case rel => exact ⟨i + 1, by go_num, by omega⟩
                      case measure => simp [intOf]; omega
                · have hz8 : ¬ (8 : Int) < ((bs p).size : Int) := by rw [hsz8]; omega
                  have HJP : Hid (false = Disk.jp p) := Lib.hid (by rw [hj9, decide_eq_false h8]; rfl)
                  clear hj9 hs1 hpA hsz8
                  go_wp2
                  go_loop [14, 15] (fun bv q => ∃ (k : Nat) (b : Bool), bv = .bool b ∧ q = .int .i64 k ∧ k ≤ N ∧ b = (Disk.jp p || (ds.take k).any fun d => decide (d.path = p))) (fun _ q => N - (intOf q).toNat)
                  case atStart => exact ⟨0, _, rfl, rfl, by omega, by rw [← HJP.out]; simp⟩
                  case round =>
                    obtain ⟨k, b, rfl, rfl, hkN, hbv⟩ := hrel
                    have HBV := Lib.hid hbv
                    clear hbv
                    by_cases hkl : k < N
                    · obtain ⟨d, hd⟩ : ∃ d, ds[k]? = some d := ⟨_, List.getElem?_eq_getElem (by have := HN.out; omega)⟩
                      obtain ⟨bk, o, cap, hve, hbk, hbc⟩ := HDE.out.at (by have := HN.out; omega)
                      rw [← HN.out] at hve
                      cases hve
                      have d1 := (hbc k d hd).2.1
                      have hkI : (k : Int) < (N : Int) := by omega
                      have HBN : Hid ((b || decide (d.path = p)) = (Disk.jp p || (ds.take (k + 1)).any fun d => decide (d.path = p))) := Lib.hid (by rw [any_next hd, HBV.out, Bool.or_assoc])
                      have hqd : ((bs d.path).toList == (bs p).toList) = decide (d.path = p) := by
                        rw [bs_toList, bs_toList]
                        by_cases h : d.path = p
                        · rw [h, decide_eq_true rfl]; exact beq_self_eq_true _
                        · rw [decide_eq_false h]; exact beq_eq_false_iff_ne.2 h
                      obtain ⟨dp, hdp⟩ : ∃ x, x = d.path := ⟨_, rfl⟩
                      rw [← hdp] at d1 hqd HBN
                      clear hbc hd hdp
                      obtain ⟨bq, hbq⟩ : ∃ x, x = decide (dp = p) := ⟨_, rfl⟩
                      rw [← hbq] at hqd HBN
                      clear hbq
                      cases b
                      · go_wp2
                        go_round
                        case rel => exact ⟨k + 1, _, rfl, by go_num, by omega, by rw [← HBN.out]; rfl⟩
                        case measure => simp [intOf]; omega
                      · go_wp2
                        go_round
                        case rel => exact ⟨k + 1, _, rfl, by go_num, by omega, by rw [← HBN.out]; rfl⟩
                        case measure => simp [intOf]; omega
                    · have hkI : ¬ (k : Int) < (N : Int) := by omega
                      have hbt : b = true := by
                        rw [HBV.out, List.take_of_length_le (by rw [← HN.out]; omega)]
                        exact HOP.out
                      subst hbt
                      go_wp2
                      go_round
                      case rel => exact ⟨i + 1, by go_num, by omega⟩
                      case measure => simp [intOf]; omega
              · have hiI : ¬ (i : Int) < (R8 : Int) := by omega
                have HLV := Lib.hid (lives18_any w8 (HE1.out _ HS8.out.keeps))
                go_wp2_with fail
                refine HLV.out.mono ?_
                rintro e w9 ⟨rfl, hb9⟩
                have HB9 := Lib.hid (HEND.out _ _ _ (HS8.out.then_below hb9))
                clear hb9
                go_wp2
                go_returns
                exact ⟨rfl, HB9.out⟩
end Go.Proofs.YtdogacgpfnolfaaGreatDoor
