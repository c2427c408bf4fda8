/- JournalAll: the walk. -/
import Derived.Test.YtdogacgpfnolfaaGreatDoorJrV
import Derived.Deep.RegionHeld3
namespace Go.Proofs.YtdogacgpfnolfaaGreatDoor
open Go.RowKit Go.Maps
set_option linter.unusedSimpArgs false
set_option linter.unusedVariables false
theorem recT2 {m : Disk.M} {ds : List PL.Plan.D} (hok : PL.Plan.ok ds = true) (hm : ds.length ≤ 1048576) (hsz : ∀ d ∈ ds, d.path.length ≤ 1048576 ∧ d.data.length ≤ 1048576) (hl : ds.length ≤ 524288) (h : Disk.LT (PL.Plan.text ds) m) : (Disk.readR m Disk.jT).1.length ≤ 3500000000000 ∧ (PL.Plan.parse (Disk.readR m Disk.jT).1).2.length ≤ 524288 := by
  refine ⟨(recT (Or.inl hok) hm hsz (Or.inl h)).1, ?_⟩
  have small : ∀ T : List UInt8, T.length ≤ 0 → (PL.Plan.parse T).2.length ≤ 524288 := fun T hT => Nat.le_trans (parse_len T) (by omega)
  rcases h with h | h
  · unfold Disk.readR
    split
    · exact small _ (Nat.zero_le _)
    split
    · exact small _ (Nat.zero_le _)
    split
    · exact small _ (Nat.zero_le _)
    · rw [h]; exact small _ (Nat.zero_le _)
  · rw [Disk.of_read Disk.ok_T h, PL.Plan.parse_text hok]
    exact hl
theorem delta_data {a b : Disk.M} {K : Nat} (ha : ∀ p t, SM.look a p = some t → p.length ≤ K ∧ t.data.length ≤ K) (hb : ∀ p t, SM.look b p = some t → p.length ≤ K ∧ t.data.length ≤ K) (ra : SM.Rises a) (rb : SM.Rises b) : ∀ d ∈ Disk.delta a b, d.path.length ≤ K ∧ d.data.length ≤ K := fun d hd => by
  unfold Disk.delta at hd
  rcases List.mem_append.1 hd with hd | hd
  · obtain ⟨t, h1, _, h3⟩ := Disk.pick_mem (f := Disk.unl) (fun x => rfl) ra (List.mem_reverse.1 hd)
    exact ⟨(ha _ _ h1).1, by rw [← h3]; exact Nat.zero_le _⟩
  rcases List.mem_append.1 hd with hd | hd
  · obtain ⟨t, h1, _, h3⟩ := Disk.pick_mem (f := Disk.rmd) (fun x => rfl) ra (List.mem_reverse.1 hd)
    exact ⟨(ha _ _ h1).1, by rw [← h3]; exact Nat.zero_le _⟩
  rcases List.mem_append.1 hd with hd | hd
  · obtain ⟨t, h1, _, h3⟩ := Disk.pick_mem (f := Disk.mkd) (fun x => rfl) rb hd
    exact ⟨(hb _ _ h1).1, by rw [← h3]; exact Nat.zero_le _⟩
  · obtain ⟨t, h1, _, h3⟩ := Disk.pick_mem (f := Disk.putd) (fun x => rfl) rb hd
    exact ⟨(hb _ _ h1).1, by rw [← h3]; exact (hb _ _ h1).2⟩
set_option maxHeartbeats 32000000 in
set_option maxRecDepth 100000 in
theorem journal_all_law {w : World} {v u x : Value} {fa fb : List Disk.Fl} {cs : List Int} (hfa : Files w w.heap.size v fa) (hfb : Files w w.heap.size u fb) (hcs : Cuts w w.heap.size x cs) (hE : Env w) (hn : fa.length + fb.length ≤ 262144) (hc : cs.length ≤ 1048576) (hsa : ∀ f ∈ fa, f.path.length ≤ 1048576 ∧ f.data.length ≤ 1048576) (hsb : ∀ f ∈ fb, f.path.length ≤ 1048576 ∧ f.data.length ≤ 1048576) :
    Calls Tryz.prog 5 #[v, u, x] w fun e w' => e = .returned (.bool true) ∧ Below w.heap.size w w' := by
  obtain ⟨ax, cx, hx, _⟩ := hcs.is
  subst hx
  have HDL := Lib.hid (delta_any hfa hfb (Nat.le_refl _) hE (by omega) hsa (by omega) hsb)
  have HDK := Lib.hid (fun (V : World) (hV : Below w.heap.size w V) => disks_any (hfa.below hV (Nat.le_refl _)) hV.size (hE.below hV (Nat.le_refl _)) (by omega) hsa)
  have HRL := Lib.hid (fun (V : World) (hV : Below w.heap.size w V) => rload_any (hfb.below hV (Nat.le_refl _)) hV.size (by omega) (fun f hf => by have := hsb f hf; omega))
  have HE := Lib.hid hE
  have HG0 := Lib.hid (gMax_lt hE)
  unfold DeltaPost at HDL
  unfold DisksPost at HDK
  unfold RLoadPost at HRL
  obtain ⟨C, hC⟩ : ∃ C, C = cs.length := ⟨_, rfl⟩
  have HCU0 := Lib.hid hcs
  rw [← hC] at hc HCU0 ⊢
  have HCL := Lib.hid hC
  have HNF := Lib.hid hn
  have HSA := Lib.hid hsa
  have HSB := Lib.hid hsb
  clear hfa hfb hcs hE hsa hsb hC
  by_cases hgood : ∃ a b, Disk.read fa = some a ∧ Disk.read fb = some b
  rotate_left 1
  · have hres : Disk.deedsRes fa fb = ([], 1) := by
      unfold Disk.deedsRes
      split
      · rename_i a b h1 h2; exact absurd ⟨a, b, h1, h2⟩ hgood
      · rfl
    rw [hres] at HDL
    clear hgood hres
    cases hla : Disk.load fa with
    | none =>
      rw [hla] at HDK
      clear hla
      cases hlb : Disk.load fb with
      | none =>
        rw [hlb] at HRL
        clear hlb
        go_enter Tryz.func5, Tryz.ntmps5
        go_wp2_with fail
        refine HDL.out.mono ?_
        rintro e w1 ⟨v1, rfl, hr1, hb1⟩
        obtain ⟨a1, c1, rfl⟩ := own_form hr1
        have HB1 := Lib.hid hb1
        have HDK1 := Lib.hid (HDK.out w1 hb1)
        clear hr1 hb1
        go_wp2_with fail
        refine HDK1.out.mono ?_
        rintro e w2 ⟨rfl, hb2⟩
        have HB2 := Lib.hid (HB1.out.trans (hb2.mono HB1.out.size))
        have HRL2 := Lib.hid (HRL.out w2 HB2.out)
        clear hb2
        go_wp2_with fail
        refine HRL2.out.mono ?_
        rintro e w3 ⟨rfl, hb3⟩
        have HB3 := Lib.hid (HB2.out.trans (hb3.mono HB2.out.size))
        have HLV := Lib.hid (lives18_any w3 (HE.out.below HB3.out (Nat.le_refl _)))
        clear hb3
        go_wp2_with fail
        refine HLV.out.mono ?_
        rintro e w4 ⟨rfl, hb4⟩
        have HB4 := Lib.hid (HB3.out.trans (hb4.mono HB3.out.size))
        clear hb4
        go_wp2
        go_returns
        exact ⟨rfl, HB4.out⟩
      | some b =>
        rw [hlb] at HRL
        clear hlb
        go_enter Tryz.func5, Tryz.ntmps5
        go_wp2_with fail
        refine HDL.out.mono ?_
        rintro e w1 ⟨v1, rfl, hr1, hb1⟩
        obtain ⟨a1, c1, rfl⟩ := own_form hr1
        have HB1 := Lib.hid hb1
        have HDK1 := Lib.hid (HDK.out w1 hb1)
        clear hr1 hb1
        go_wp2_with fail
        refine HDK1.out.mono ?_
        rintro e w2 ⟨rfl, hb2⟩
        have HB2 := Lib.hid (HB1.out.trans (hb2.mono HB1.out.size))
        have HRL2 := Lib.hid (HRL.out w2 HB2.out)
        clear hb2
        go_wp2_with fail
        refine HRL2.out.mono ?_
        rintro e w3 ⟨⟨rd2, lv2, rfl, _, _⟩, hb3⟩
        have HB3 := Lib.hid (HB2.out.trans (hb3.mono HB2.out.size))
        have HLV := Lib.hid (lives18_any w3 (HE.out.below HB3.out (Nat.le_refl _)))
        clear hb3
        go_wp2_with fail
        refine HLV.out.mono ?_
        rintro e w4 ⟨rfl, hb4⟩
        have HB4 := Lib.hid (HB3.out.trans (hb4.mono HB3.out.size))
        clear hb4
        go_wp2
        go_returns
        exact ⟨rfl, HB4.out⟩
    | some a =>
      rw [hla] at HDK
      clear hla
      cases hlb : Disk.load fb with
      | none =>
        rw [hlb] at HRL
        clear hlb
        go_enter Tryz.func5, Tryz.ntmps5
        go_wp2_with fail
        refine HDL.out.mono ?_
        rintro e w1 ⟨v1, rfl, hr1, hb1⟩
        obtain ⟨a1, c1, rfl⟩ := own_form hr1
        have HB1 := Lib.hid hb1
        have HDK1 := Lib.hid (HDK.out w1 hb1)
        clear hr1 hb1
        go_wp2_with fail
        refine HDK1.out.mono ?_
        rintro e w2 ⟨⟨sd, rd, O, rfl, _, _⟩, hb2⟩
        have HB2 := Lib.hid (HB1.out.trans (hb2.mono HB1.out.size))
        have HRL2 := Lib.hid (HRL.out w2 HB2.out)
        clear hb2
        go_wp2_with fail
        refine HRL2.out.mono ?_
        rintro e w3 ⟨rfl, hb3⟩
        have HB3 := Lib.hid (HB2.out.trans (hb3.mono HB2.out.size))
        have HLV := Lib.hid (lives18_any w3 (HE.out.below HB3.out (Nat.le_refl _)))
        clear hb3
        go_wp2_with fail
        refine HLV.out.mono ?_
        rintro e w4 ⟨rfl, hb4⟩
        have HB4 := Lib.hid (HB3.out.trans (hb4.mono HB3.out.size))
        clear hb4
        go_wp2
        go_returns
        exact ⟨rfl, HB4.out⟩
      | some b =>
        rw [hlb] at HRL
        clear hlb
        go_enter Tryz.func5, Tryz.ntmps5
        go_wp2_with fail
        refine HDL.out.mono ?_
        rintro e w1 ⟨v1, rfl, hr1, hb1⟩
        obtain ⟨a1, c1, rfl⟩ := own_form hr1
        have HB1 := Lib.hid hb1
        have HDK1 := Lib.hid (HDK.out w1 hb1)
        clear hr1 hb1
        go_wp2_with fail
        refine HDK1.out.mono ?_
        rintro e w2 ⟨⟨sd, rd, O, rfl, _, _⟩, hb2⟩
        have HB2 := Lib.hid (HB1.out.trans (hb2.mono HB1.out.size))
        have HRL2 := Lib.hid (HRL.out w2 HB2.out)
        clear hb2
        go_wp2_with fail
        refine HRL2.out.mono ?_
        rintro e w3 ⟨⟨rd2, lv2, rfl, _, _⟩, hb3⟩
        have HB3 := Lib.hid (HB2.out.trans (hb3.mono HB2.out.size))
        have HLV := Lib.hid (lives18_any w3 (HE.out.below HB3.out (Nat.le_refl _)))
        clear hb3
        go_wp2_with fail
        refine HLV.out.mono ?_
        rintro e w4 ⟨rfl, hb4⟩
        have HB4 := Lib.hid (HB3.out.trans (hb4.mono HB3.out.size))
        clear hb4
        go_wp2
        go_returns
        exact ⟨rfl, HB4.out⟩
  obtain ⟨a, b, hra, hrb⟩ := hgood
  obtain ⟨hla, hja⟩ := read_free hra
  obtain ⟨hlb, hjb⟩ := read_free hrb
  have hha := load_hung hla
  have hhb := load_hung hlb
  obtain ⟨hgd, htr, hrun⟩ := Disk.delta_good hha hhb hja hjb
  have hpl := Disk.delta_plan hha hhb hja hjb
  have hal := (load_ok hla).2
  have hbl := (load_ok hlb).2
  have hdl := delta_len a b
  have hdd := delta_data (K := 1048576) (a := a) (b := b) (fun p t hp => ⟨Nat.le_trans (Disk.pathOk_length (hha.ok p t hp)) (by decide), load_data hla HSA.out p t hp⟩) (fun p t hp => ⟨Nat.le_trans (Disk.pathOk_length (hhb.ok p t hp)) (by decide), load_data hlb HSB.out p t hp⟩) hha.rises hhb.rises
  have hres : Disk.deedsRes fa fb = (Disk.delta a b, 0) := by unfold Disk.deedsRes; rw [hra, hrb]
  rw [hres] at HDL
  rw [hla] at HDK
  rw [hlb] at HRL
  obtain ⟨D, hD⟩ : ∃ D, D = Disk.delta a b := ⟨_, rfl⟩
  rw [← hD] at HDL hgd htr hrun hpl hdl hdd
  obtain ⟨ds, hds⟩ : ∃ ds, ds = D.map ofDd := ⟨_, rfl⟩
  obtain ⟨N, hN⟩ : ∃ N, N = D.length := ⟨_, rfl⟩
  have HMAP : Hid (ds.map toDd = D) := Lib.hid (by rw [hds]; exact to_of D)
  have HLD : Hid (ds.length = N) := Lib.hid (by rw [hds, List.length_map, hN])
  have HLN := Lib.hid hN
  have HOK : Hid (PL.Plan.ok ds = true) := Lib.hid (by rw [hds]; exact hpl)
  have HCAN : Hid (canJ a ds = true) := Lib.hid (by unfold canJ; rw [HOK.out, HMAP.out]; exact htr)
  have HPX : Hid (parseJ (PL.Plan.text ds) = (0, D)) := Lib.hid (by unfold parseJ; rw [PL.Plan.parse_text HOK.out, HMAP.out])
  have HSZ : Hid (∀ d ∈ ds, d.path.length ≤ 1048576 ∧ d.data.length ≤ 1048576) := Lib.hid (fun d hd => by
    rw [hds] at hd
    obtain ⟨y, hy, rfl⟩ := List.mem_map.1 hd
    exact hdd y hy)
  have HCELLS : Hid (PL.deedCells ds = D.flatMap ddCells) := Lib.hid (by rw [hds]; exact deedCells_of D)
  have HGD := Lib.hid hgd
  have HRUN := Lib.hid hrun
  have HKA := Lib.hid (free_kind hja)
  have HKB := Lib.hid (free_kind hjb)
  have HAL : Hid (a.length ≤ 1099511627776) := Lib.hid (by omega)
  have HBLN : Hid (b.length ≤ 1099511627776) := Lib.hid (by omega)
  have hNb : N ≤ 524288 := by omega
  clear hra hrb hla hlb hja hjb hha hhb hgd htr hrun hpl hal hbl hdl hdd hres hD hds
  clear hN
  go_enter Tryz.func5, Tryz.ntmps5
  go_wp2_with fail
  refine HDL.out.mono ?_
  rintro e w1 ⟨v1, rfl, hr1, hb1⟩
  have HB1 := Lib.hid hb1
  have HDK1 := Lib.hid (HDK.out w1 hb1)
  have HDE1 : Hid (PL.Deeds w1 w1.heap.size v1 ds) := Lib.hid (PL.Deeds.of_own (by rw [HLD.out, HCELLS.out, HLN.out]; exact hr1))
  obtain ⟨a1, c1, rfl⟩ := own_form hr1
  rw [← HLN.out] at HDE1 ⊢
  clear hr1 hb1
  go_wp2_with fail
  refine HDK1.out.mono ?_
  rintro e w2 ⟨⟨sd, rd, O, rfl, hd2, hf2⟩, hb2⟩
  have HB2 := Lib.hid (HB1.out.trans (hb2.mono HB1.out.size))
  have HB12 := Lib.hid hb2
  have HD2 := Lib.hid hd2
  have HF2 := Lib.hid hf2
  have HLIM := Lib.hid (fun k hk => HD2.out.lim k hk)
  have HRL2 := Lib.hid (HRL.out w2 HB2.out)
  clear hb2 hd2 hf2
  go_wp2_with fail
  refine HRL2.out.mono ?_
  rintro e w3 ⟨⟨rd2, lv2, rfl, hr3, hn3⟩, hb3⟩
  have HB3 := Lib.hid (HB2.out.trans (hb3.mono HB2.out.size))
  have HD3 := Lib.hid (HD2.out.below hb3)
  have HOFA := Lib.hid (HF2.out.keeps (O1 := O) (Keeps.of_below hb3) (fun k h => Or.inl h))
  have HOFB := Lib.hid (FilesOff.of_ref (O := O) hr3 (fun k hk => (HLIM.out k hk).2))
  have HB13 := Lib.hid (HB12.out.trans (hb3.mono HB12.out.size))
  have HOFF3 : Hid (DeedsOff w3 O (.slice a1 N c1) ds) := Lib.hid (DeedsOff.of_deeds (HDE1.out.below HB13.out (Nat.le_refl _)) HB13.out.size (fun k hk => (HLIM.out k hk).1))
  have HG : Hid (0 < w1.heap.size) := Lib.hid (Nat.lt_of_lt_of_le HG0.out HB1.out.size)
  have HE1 := Lib.hid (fun (V : World) (hv : Keeps O w3 V) => env_keeps (HE.out.below HB3.out (Nat.le_refl _)) hv (fun k hk => (HLIM.out k hk).1) HG.out)
  have HEND2 : Hid (∀ (V : World), Keeps O w3 V → Below w.heap.size w V) := Lib.hid (fun V hV => HB3.out.trans (hV.to_below (fun k hk => Nat.le_trans HB1.out.size (HLIM.out k hk).1) HB3.out.size))
  clear hr3 hn3 hb3
  by_cases hC0 : C = 0
  · have hCI : ¬ (0 : Int) < (C : Int) := by omega
    have HS4 : Hid (DskNow w3 w3 w1.heap.size O sd 1048576 ⟨a, [], -1⟩) := Lib.hid (DskNow.of_below HD3.out (Below.refl _ _))
    obtain ⟨w4, hw4⟩ : ∃ x, x = w3 := ⟨w3, rfl⟩
    have HS4 : Hid (DskNow w3 w4 w1.heap.size O sd 1048576 ⟨a, [], -1⟩) := Lib.hid (by rw [hw4]; exact HS4.out)
    clear hC0
    obtain ⟨⟨O4, hd4, hO4⟩, hk4⟩ := HS4.out
    have HK4 := Lib.hid hk4
    have HO4 := Lib.hid hO4
    have HD4 := Lib.hid hd4
    clear hd4 hO4 hk4
    have HCM := Lib.hid (commit_any HD4.out (HE1.out _ HK4.out) HG.out (HOFF3.out.keeps HK4.out HO4.out) HGD.out.hung (show 1048576 + ds.length + 6 ≤ 1099511627776 by have := HLD.out; omega) (by have := HLD.out; omega) HSZ.out)
    unfold JPost at HCM
    dsimp only at HCM
    rw [HCAN.out, HMAP.out, HLD.out] at HCM
    obtain ⟨Q, q1, q2, q3, q4, q5⟩ := all_plan HGD.out HRUN.out HPX.out (s1 := (⟨a, [], -1⟩ : Disk.S)) rfl rfl
    obtain ⟨r, hr⟩ : ∃ r, r = (⟨a, [], -1⟩ : Disk.S).commit true (PL.Plan.text ds) D := ⟨_, rfl⟩
    rw [← hr] at HCM q1 q2 q3 q5
    clear hr
    obtain ⟨cc, s2⟩ := r
    dsimp only at HCM q1 q2 q3 q5
    have HQI0 := Lib.hid q2
    have HQT : Hid (∀ m, Q m → (Disk.readR m Disk.jT).1.length ≤ 3500000000000 ∧ (PL.Plan.parse (Disk.readR m Disk.jT).1).2.length ≤ 524288) := Lib.hid (fun m hm => recT2 HOK.out (by have := HLD.out; omega) HSZ.out (by have := HLD.out; omega) (q4 m hm))
    obtain ⟨R0, hR0⟩ : ∃ R0, R0 = s2.raws.length := ⟨_, rfl⟩
    rw [← hR0] at q3 q5
    obtain ⟨fin, hfin⟩ : ∃ f, f = if R0 < 3 then a else b := ⟨_, rfl⟩
    rw [← hfin] at q3
    have HFD := Lib.hid hfin
    have HR0 := Lib.hid hR0
    have HQR := Lib.hid q3
    have HQ5 := Lib.hid q5
    have HFK : Hid (Disk.kind fin Disk.jA = 0) := Lib.hid (by rw [hfin]; split; exact HKA.out; exact HKB.out)
    have HFL : Hid (fin.length ≤ 1099511627776) := Lib.hid (by rw [hfin]; split; exact HAL.out; exact HBLN.out)
    clear hR0 hfin q2 q3 q4 q5
    go_wp2_with fail
    try rw [← hw4]
    refine HCM.out.mono ?_
    rintro e w5 ⟨rfl, hn5⟩
    have HS5 := Lib.hid (DskNow.after HK4.out HO4.out hn5)
    clear hn5
    obtain ⟨⟨O5, hd5, hO5⟩, hk5⟩ := HS5.out
    have HK5 := Lib.hid hk5
    have HO5 := Lib.hid hO5
    have HD5 := Lib.hid hd5
    clear hd5 hO5 hk5
    have HRW := Lib.hid (Dsk.raws HD5.out (by omega))
    go_wp2_with fail
    refine HRW.out.mono ?_
    rintro e w6 ⟨v6, rfl, hr6, hb6⟩
    obtain ⟨a6, c6, rfl⟩ := own_form hr6
    have HS6 := Lib.hid (HS5.out.then_below hb6)
    rw [← HR0.out]
    clear hr6 hb6
    rcases q1 with rfl | rfl
    · go_wp2
      go_loopw [16] (fun q wr => ∃ (i n : Nat) (si : Disk.S), q = .int .i64 i ∧ 1 ≤ i ∧ (i ≤ C ∨ i = 1) ∧ n ≤ 1048576 + N + 6 + i * 524291 ∧ DskNow w3 wr w1.heap.size O sd n si ∧ Q si.l) (fun q _ => C - (intOf q).toNat)
      case atStart => exact ⟨1, 1048576 + N + 6, s2, rfl, Nat.le_refl _, Or.inr rfl, by omega, HS6.out, HQI0.out⟩
      case round =>
        obtain ⟨i, n, si, rfl, hi1, hiC2, hnb, hnow, hQi⟩ := hrel
        obtain ⟨wo, rfl⟩ : ∃ x, x = wr := ⟨wr, rfl⟩
        have HS8 := Lib.hid hnow
        have HQI := Lib.hid hQi
        clear hnow hQi
        by_cases hiC : i < C
        · exfalso
          omega
        · have hiI : ¬ (i : Int) < (C : Int) := by omega
          obtain ⟨⟨O8, hd8, hO8⟩, hk8⟩ := HS8.out
          have HK8 := Lib.hid hk8
          have HO8 := Lib.hid hO8
          have HD8 := Lib.hid hd8
          clear hd8 hO8 hk8
          have HUP := Lib.hid (up_any HD8.out)
          go_wp2_with fail
          refine HUP.out.mono ?_
          rintro e wz0 ⟨rfl, hn9⟩
          have HS9 := Lib.hid (DskNow.after HK8.out HO8.out hn9)
          clear hn9
          obtain ⟨⟨O9, hd9, hO9⟩, hk9⟩ := HS9.out
          have HK9 := Lib.hid hk9
          have HO9 := Lib.hid hO9
          have HD9 := Lib.hid hd9
          clear hd9 hO9 hk9
          have HRC := Lib.hid (recover_any (M := 524288) HD9.out (HE1.out _ HK9.out) HG.out (by omega) (HQT.out _ HQI.out).1 (HQT.out _ HQI.out).2)
          unfold JPost at HRC
          have HRF := Lib.hid (HQR.out ⟨si.l, si.raws, -1⟩ HQI.out)
          obtain ⟨r, hr⟩ : ∃ r, r = (⟨si.l, si.raws, -1⟩ : Disk.S).recover parseJ := ⟨_, rfl⟩
          rw [← hr] at HRC HRF
          clear hr
          obtain ⟨rc, sx⟩ := r
          dsimp only at HRC HRF
          go_wp2_with fail
          refine HRC.out.mono ?_
          rintro e wy ⟨rfl, hnx⟩
          have HSX := Lib.hid (DskNow.after HK9.out HO9.out hnx)
          clear hnx
          obtain ⟨e0, HFINe⟩ := HRF.out.2.2 (by trivial)
          subst e0
          have HFIN := Lib.hid HFINe
          clear HFINe
          obtain ⟨⟨OW, hdw, hOW⟩, hkw⟩ := HSX.out
          have HOW := Lib.hid hOW
          have HKI : Hid (Calls Tryz.prog 11 #[.pointer (some ⟨sd, 0, none⟩), .string ⟨#[47, 106, 111, 117, 114, 110, 97, 108]⟩] wy fun e w' => e = .returned (.int .i64 0) ∧ Below wy.heap.size wy w') := Lib.hid (by
            have h := Dsk.kind hdw Disk.jA (by decide)
            rw [HFIN.out, HFK.out] at h
            exact h)
          have HDY := Lib.hid hdw
          have HKY := Lib.hid hkw
          clear hdw hOW hkw
          go_wp2_with fail
          refine HKI.out.mono ?_
          rintro e wz ⟨rfl, hbz⟩
          have HDW := Lib.hid (HDY.out.below hbz)
          have HKW := Lib.hid (HKY.out.then_below hbz)
          have HBEL : Hid (wz = wz) := Lib.hid rfl
          clear hbz
          by_cases hr3 : R0 < 3
          · have HFA : Hid (fin = a) := Lib.hid (by rw [HFD.out, if_pos hr3])
            have h3 : ¬ (3 : Int) ≤ (R0 : Int) := by omega
            have hN0 : N = 0 := by
              rcases HQ5.out hr3 with h | h
              · exact absurd rfl h
              · rw [HLN.out, h]; rfl
            have hNI : ¬ (0 : Int) < (N : Int) := by omega
            have HOFN : Hid (FilesOff wz OW rd (fls fin)) := Lib.hid (by rw [HFA.out]; exact HOFA.out.keeps HKW.out HOW.out)
            clear hr3
            obtain ⟨wo, hwo⟩ : ∃ x, x = wz := ⟨wz, rfl⟩
            rw [← hwo] at HDW HKW HOFN HBEL ⊢
            clear hwo
            have HALL : Hid (∀ W, W.heap = wo.heap → W.os = wo.os → W.tape = wo.tape → W.output = wo.output → Calls Tryz.prog 15 #[.pointer (some ⟨sd, 0, none⟩)] W fun e w' => ∃ v, e = .returned v ∧ FRow w' wo.heap.size v (fls fin) ∧ Below wo.heap.size wo w') := Lib.hid (fun W hW h1 h2 h3 => by
              have hb : Below wo.heap.size wo W := ⟨h1, h2, h3, by rw [hW]; exact Nat.le_refl _, fun k _ => by rw [hW]⟩
              have h := Dsk.all (HDW.out.below hb) (by rw [HFIN.out]; exact HFL.out)
              rw [HFIN.out, hW] at h
              exact h.mono fun e w' ⟨v, h4, h5, h6⟩ => ⟨v, h4, h5, hb.trans (by rw [← hW]; rw [← hW] at h6; exact h6)⟩)
            obtain ⟨lv, ⟨hrdl, _⟩, hc0, hfat⟩ := HOFN.out
            have HLI := Lib.hid hfat.files
            obtain ⟨av, cv, hlv, _⟩ := id hfat
            subst hlv
            clear hfat HOFN
            go_wp2
            go_region_held3 (fun w' => w'.cell? ⟨rd, 0, none⟩ = some (.slice av (fls fin).length cv)) (first | exact hc0 | exact hc1) (first
              | (go_at_call 15; refine (HALL.out wo.drew rfl rfl rfl rfl).mono ?_; rintro e w7 ⟨v7, rfl, hr7, hb7⟩; have hc1 := (hb7.cell (p := ⟨rd, 0, none⟩) hrdl).trans hc0; have HC7 := Lib.hid (files_any hr7.files ((HLI.out.below hb7 (Nat.le_refl _)).mono hb7.size) (by rw [fls_length]; exact Nat.le_trans HFL.out (by decide))); have HB7 := Lib.hid hb7; clear hr7 hb7)
              | (go_at_call 16; refine HC7.out.mono ?_; rintro e w8 ⟨rfl, m8, rfl⟩))
            all_goals
              have HB8 := Lib.hid (bdrew HB7.out m8)
              obtain ⟨w8, hw8⟩ : ∃ x, x = w7.drewN m8 := ⟨_, rfl⟩
              rw [← hw8] at HB8 ⊢
              clear hw8
              have HLV := Lib.hid (lives18_any w8 (HE1.out _ (HKW.out.then_below HB8.out)))
              go_wp2_with fail
              refine HLV.out.mono ?_
              rintro e wl ⟨rfl, hbl⟩
              have HBL := Lib.hid (HEND2.out _ (HKW.out.then_below (HB8.out.trans (hbl.mono HB8.out.size))))
              clear hbl
              go_wp2
              go_returns
              exact ⟨rfl, HBL.out⟩
          · have HFA : Hid (fin = b) := Lib.hid (by rw [HFD.out, if_neg hr3])
            have h3 : (3 : Int) ≤ (R0 : Int) := by omega
            have HOFN : Hid (FilesOff wz OW rd (fls a)) := Lib.hid (HOFA.out.keeps HKW.out HOW.out)
            have HOFM : Hid (FilesOff wz OW rd2 (fls fin)) := Lib.hid (by rw [HFA.out]; exact HOFB.out.keeps HKW.out HOW.out)
            clear hr3
            obtain ⟨wo, hwo⟩ : ∃ x, x = wz := ⟨wz, rfl⟩
            rw [← hwo] at HDW HKW HOFN HOFM HBEL ⊢
            clear hwo
            have HALL : Hid (∀ W, W.heap = wo.heap → W.os = wo.os → W.tape = wo.tape → W.output = wo.output → Calls Tryz.prog 15 #[.pointer (some ⟨sd, 0, none⟩)] W fun e w' => ∃ v, e = .returned v ∧ FRow w' wo.heap.size v (fls fin) ∧ Below wo.heap.size wo w') := Lib.hid (fun W hW h1 h2 h3 => by
              have hb : Below wo.heap.size wo W := ⟨h1, h2, h3, by rw [hW]; exact Nat.le_refl _, fun k _ => by rw [hW]⟩
              have h := Dsk.all (HDW.out.below hb) (by rw [HFIN.out]; exact HFL.out)
              rw [HFIN.out, hW] at h
              exact h.mono fun e w' ⟨v, h4, h5, h6⟩ => ⟨v, h4, h5, hb.trans (by rw [← hW]; rw [← hW] at h6; exact h6)⟩)
            obtain ⟨lv, ⟨hrdl, _⟩, hc0, hfat⟩ := HOFN.out
            have HLI := Lib.hid hfat.files
            obtain ⟨av, cv, hlv, _⟩ := id hfat
            subst hlv
            clear hfat HOFN
            go_wp2
            go_region_held3 (fun w' => w'.cell? ⟨rd, 0, none⟩ = some (.slice av (fls a).length cv)) (first | exact hc0 | exact hc1) (first
              | (go_at_call 15; refine (HALL.out wo.drew rfl rfl rfl rfl).mono ?_; rintro e w7 ⟨v7, rfl, hr7, hb7⟩; have hc1 := (hb7.cell (p := ⟨rd, 0, none⟩) hrdl).trans hc0; have HC7 := Lib.hid (files_bool hr7.files ((HLI.out.below hb7 (Nat.le_refl _)).mono hb7.size) (by rw [fls_length]; exact Nat.le_trans HFL.out (by decide)) (by rw [fls_length]; exact Nat.le_trans HAL.out (by decide))); have HB7 := Lib.hid hb7; clear hr7 hb7)
              | (go_at_call 16; refine HC7.out.mono ?_; rintro e w8 ⟨b8, rfl, m8, rfl⟩))
            all_goals
              have HB8 := Lib.hid (bdrew HB7.out m8)
              obtain ⟨w8, hw8⟩ : ∃ x, x = w7.drewN m8 := ⟨_, rfl⟩
              rw [← hw8] at HB8 ⊢
              clear hw8
              have HDW2 := Lib.hid (HDW.out.below HB8.out)
              have HKW2 := Lib.hid (HKW.out.then_below HB8.out)
              have HOFN : Hid (FilesOff w8 OW rd2 (fls fin)) := Lib.hid (HOFM.out.keeps (Keeps.of_below HB8.out) (fun k h => Or.inl h))
              clear HDW HKW HALL HLI HC7 hc0 hrdl HB7 HB8 HOFM
              have HDW := HDW2
              have HKW := HKW2
              clear HDW2 HKW2
              obtain ⟨wp, hwp⟩ : ∃ x, x = w8 := ⟨w8, rfl⟩
              rw [← hwp] at HDW HKW HOFN ⊢
              clear hwp
              have HALL : Hid (∀ W, W.heap = wp.heap → W.os = wp.os → W.tape = wp.tape → W.output = wp.output → Calls Tryz.prog 15 #[.pointer (some ⟨sd, 0, none⟩)] W fun e w' => ∃ v, e = .returned v ∧ FRow w' wp.heap.size v (fls fin) ∧ Below wp.heap.size wp w') := Lib.hid (fun W hW h1 h2 h3 => by
                have hb : Below wp.heap.size wp W := ⟨h1, h2, h3, by rw [hW]; exact Nat.le_refl _, fun k _ => by rw [hW]⟩
                have h := Dsk.all (HDW.out.below hb) (by rw [HFIN.out]; exact HFL.out)
                rw [HFIN.out, hW] at h
                exact h.mono fun e w' ⟨v, h4, h5, h6⟩ => ⟨v, h4, h5, hb.trans (by rw [← hW]; rw [← hW] at h6; exact h6)⟩)
              obtain ⟨lv, ⟨hrdl, _⟩, hc0, hfat⟩ := HOFN.out
              have HLI := Lib.hid hfat.files
              obtain ⟨av, cv, hlv, _⟩ := id hfat
              subst hlv
              clear hfat HOFN
              go_wp2
              go_region_held3 (fun w' => w'.cell? ⟨rd2, 0, none⟩ = some (.slice av (fls fin).length cv)) (first | exact hc0 | exact hc1) (first
                | (go_at_call 15; refine (HALL.out wp.drew rfl rfl rfl rfl).mono ?_; rintro e x7 ⟨v7, rfl, hr7, hb7⟩; have hc1 := (hb7.cell (p := ⟨rd2, 0, none⟩) hrdl).trans hc0; have HC7 := Lib.hid (files_any hr7.files ((HLI.out.below hb7 (Nat.le_refl _)).mono hb7.size) (by rw [fls_length]; exact Nat.le_trans HFL.out (by decide))); have HB7 := Lib.hid hb7; clear hr7 hb7)
                | (go_at_call 16; refine HC7.out.mono ?_; rintro e x8 ⟨rfl, m8, rfl⟩))
              all_goals
                have HB8 := Lib.hid (bdrew HB7.out m8)
                obtain ⟨x8, hw8⟩ : ∃ x, x = x7.drewN m8 := ⟨_, rfl⟩
                rw [← hw8] at HB8 ⊢
                clear hw8
                have HLV := Lib.hid (lives18_any x8 (HE1.out _ (HKW.out.then_below HB8.out)))
                go_wp2_with fail
                refine HLV.out.mono ?_
                rintro e wl ⟨rfl, hbl⟩
                have HBL := Lib.hid (HEND2.out _ (HKW.out.then_below (HB8.out.trans (hbl.mono HB8.out.size))))
                clear hbl
                go_wp2
                go_returns
                exact ⟨rfl, HBL.out⟩
    · go_wp2
      go_loopw [16] (fun q wr => ∃ (i n : Nat) (si : Disk.S), q = .int .i64 i ∧ 1 ≤ i ∧ (i ≤ C ∨ i = 1) ∧ n ≤ 1048576 + N + 6 + i * 524291 ∧ DskNow w3 wr w1.heap.size O sd n si ∧ Q si.l) (fun q _ => C - (intOf q).toNat)
      case atStart => exact ⟨1, 1048576 + N + 6, s2, rfl, Nat.le_refl _, Or.inr rfl, by omega, HS6.out, HQI0.out⟩
      case round =>
        obtain ⟨i, n, si, rfl, hi1, hiC2, hnb, hnow, hQi⟩ := hrel
        obtain ⟨wo, rfl⟩ : ∃ x, x = wr := ⟨wr, rfl⟩
        have HS8 := Lib.hid hnow
        have HQI := Lib.hid hQi
        clear hnow hQi
        by_cases hiC : i < C
        · exfalso
          omega
        · have hiI : ¬ (i : Int) < (C : Int) := by omega
          obtain ⟨⟨O8, hd8, hO8⟩, hk8⟩ := HS8.out
          have HK8 := Lib.hid hk8
          have HO8 := Lib.hid hO8
          have HD8 := Lib.hid hd8
          clear hd8 hO8 hk8
          have HUP := Lib.hid (up_any HD8.out)
          go_wp2_with fail
          refine HUP.out.mono ?_
          rintro e wz0 ⟨rfl, hn9⟩
          have HS9 := Lib.hid (DskNow.after HK8.out HO8.out hn9)
          clear hn9
          obtain ⟨⟨O9, hd9, hO9⟩, hk9⟩ := HS9.out
          have HK9 := Lib.hid hk9
          have HO9 := Lib.hid hO9
          have HD9 := Lib.hid hd9
          clear hd9 hO9 hk9
          have HRC := Lib.hid (recover_any (M := 524288) HD9.out (HE1.out _ HK9.out) HG.out (by omega) (HQT.out _ HQI.out).1 (HQT.out _ HQI.out).2)
          unfold JPost at HRC
          have HRF := Lib.hid (HQR.out ⟨si.l, si.raws, -1⟩ HQI.out)
          obtain ⟨r, hr⟩ : ∃ r, r = (⟨si.l, si.raws, -1⟩ : Disk.S).recover parseJ := ⟨_, rfl⟩
          rw [← hr] at HRC HRF
          clear hr
          obtain ⟨rc, sx⟩ := r
          dsimp only at HRC HRF
          go_wp2_with fail
          refine HRC.out.mono ?_
          rintro e wy ⟨rfl, hnx⟩
          have HSX := Lib.hid (DskNow.after HK9.out HO9.out hnx)
          clear hnx
          obtain ⟨e0, HFINe⟩ := HRF.out.2.2 (by trivial)
          subst e0
          have HFIN := Lib.hid HFINe
          clear HFINe
          obtain ⟨⟨OW, hdw, hOW⟩, hkw⟩ := HSX.out
          have HOW := Lib.hid hOW
          have HKI : Hid (Calls Tryz.prog 11 #[.pointer (some ⟨sd, 0, none⟩), .string ⟨#[47, 106, 111, 117, 114, 110, 97, 108]⟩] wy fun e w' => e = .returned (.int .i64 0) ∧ Below wy.heap.size wy w') := Lib.hid (by
            have h := Dsk.kind hdw Disk.jA (by decide)
            rw [HFIN.out, HFK.out] at h
            exact h)
          have HDY := Lib.hid hdw
          have HKY := Lib.hid hkw
          clear hdw hOW hkw
          go_wp2_with fail
          refine HKI.out.mono ?_
          rintro e wz ⟨rfl, hbz⟩
          have HDW := Lib.hid (HDY.out.below hbz)
          have HKW := Lib.hid (HKY.out.then_below hbz)
          have HBEL : Hid (wz = wz) := Lib.hid rfl
          clear hbz
          by_cases hr3 : R0 < 3
          · have HFA : Hid (fin = a) := Lib.hid (by rw [HFD.out, if_pos hr3])
            have h3 : ¬ (3 : Int) ≤ (R0 : Int) := by omega
            have HOFN : Hid (FilesOff wz OW rd (fls fin)) := Lib.hid (by rw [HFA.out]; exact HOFA.out.keeps HKW.out HOW.out)
            clear hr3
            obtain ⟨wo, hwo⟩ : ∃ x, x = wz := ⟨wz, rfl⟩
            rw [← hwo] at HDW HKW HOFN HBEL ⊢
            clear hwo
            have HALL : Hid (∀ W, W.heap = wo.heap → W.os = wo.os → W.tape = wo.tape → W.output = wo.output → Calls Tryz.prog 15 #[.pointer (some ⟨sd, 0, none⟩)] W fun e w' => ∃ v, e = .returned v ∧ FRow w' wo.heap.size v (fls fin) ∧ Below wo.heap.size wo w') := Lib.hid (fun W hW h1 h2 h3 => by
              have hb : Below wo.heap.size wo W := ⟨h1, h2, h3, by rw [hW]; exact Nat.le_refl _, fun k _ => by rw [hW]⟩
              have h := Dsk.all (HDW.out.below hb) (by rw [HFIN.out]; exact HFL.out)
              rw [HFIN.out, hW] at h
              exact h.mono fun e w' ⟨v, h4, h5, h6⟩ => ⟨v, h4, h5, hb.trans (by rw [← hW]; rw [← hW] at h6; exact h6)⟩)
            obtain ⟨lv, ⟨hrdl, _⟩, hc0, hfat⟩ := HOFN.out
            have HLI := Lib.hid hfat.files
            obtain ⟨av, cv, hlv, _⟩ := id hfat
            subst hlv
            clear hfat HOFN
            go_wp2
            go_region_held3 (fun w' => w'.cell? ⟨rd, 0, none⟩ = some (.slice av (fls fin).length cv)) (first | exact hc0 | exact hc1) (first
              | (go_at_call 15; refine (HALL.out wo.drew rfl rfl rfl rfl).mono ?_; rintro e w7 ⟨v7, rfl, hr7, hb7⟩; have hc1 := (hb7.cell (p := ⟨rd, 0, none⟩) hrdl).trans hc0; have HC7 := Lib.hid (files_any hr7.files ((HLI.out.below hb7 (Nat.le_refl _)).mono hb7.size) (by rw [fls_length]; exact Nat.le_trans HFL.out (by decide))); have HB7 := Lib.hid hb7; clear hr7 hb7)
              | (go_at_call 16; refine HC7.out.mono ?_; rintro e w8 ⟨rfl, m8, rfl⟩))
            all_goals
              have HB8 := Lib.hid (bdrew HB7.out m8)
              obtain ⟨w8, hw8⟩ : ∃ x, x = w7.drewN m8 := ⟨_, rfl⟩
              rw [← hw8] at HB8 ⊢
              clear hw8
              have HLV := Lib.hid (lives18_any w8 (HE1.out _ (HKW.out.then_below HB8.out)))
              go_wp2_with fail
              refine HLV.out.mono ?_
              rintro e wl ⟨rfl, hbl⟩
              have HBL := Lib.hid (HEND2.out _ (HKW.out.then_below (HB8.out.trans (hbl.mono HB8.out.size))))
              clear hbl
              go_wp2
              go_returns
              exact ⟨rfl, HBL.out⟩
          · have HFA : Hid (fin = b) := Lib.hid (by rw [HFD.out, if_neg hr3])
            have h3 : (3 : Int) ≤ (R0 : Int) := by omega
            have HOFN : Hid (FilesOff wz OW rd (fls a)) := Lib.hid (HOFA.out.keeps HKW.out HOW.out)
            have HOFM : Hid (FilesOff wz OW rd2 (fls fin)) := Lib.hid (by rw [HFA.out]; exact HOFB.out.keeps HKW.out HOW.out)
            clear hr3
            obtain ⟨wo, hwo⟩ : ∃ x, x = wz := ⟨wz, rfl⟩
            rw [← hwo] at HDW HKW HOFN HOFM HBEL ⊢
            clear hwo
            have HALL : Hid (∀ W, W.heap = wo.heap → W.os = wo.os → W.tape = wo.tape → W.output = wo.output → Calls Tryz.prog 15 #[.pointer (some ⟨sd, 0, none⟩)] W fun e w' => ∃ v, e = .returned v ∧ FRow w' wo.heap.size v (fls fin) ∧ Below wo.heap.size wo w') := Lib.hid (fun W hW h1 h2 h3 => by
              have hb : Below wo.heap.size wo W := ⟨h1, h2, h3, by rw [hW]; exact Nat.le_refl _, fun k _ => by rw [hW]⟩
              have h := Dsk.all (HDW.out.below hb) (by rw [HFIN.out]; exact HFL.out)
              rw [HFIN.out, hW] at h
              exact h.mono fun e w' ⟨v, h4, h5, h6⟩ => ⟨v, h4, h5, hb.trans (by rw [← hW]; rw [← hW] at h6; exact h6)⟩)
            obtain ⟨lv, ⟨hrdl, _⟩, hc0, hfat⟩ := HOFN.out
            have HLI := Lib.hid hfat.files
            obtain ⟨av, cv, hlv, _⟩ := id hfat
            subst hlv
            clear hfat HOFN
            go_wp2
            go_region_held3 (fun w' => w'.cell? ⟨rd, 0, none⟩ = some (.slice av (fls a).length cv)) (first | exact hc0 | exact hc1) (first
              | (go_at_call 15; refine (HALL.out wo.drew rfl rfl rfl rfl).mono ?_; rintro e w7 ⟨v7, rfl, hr7, hb7⟩; have hc1 := (hb7.cell (p := ⟨rd, 0, none⟩) hrdl).trans hc0; have HC7 := Lib.hid (files_bool hr7.files ((HLI.out.below hb7 (Nat.le_refl _)).mono hb7.size) (by rw [fls_length]; exact Nat.le_trans HFL.out (by decide)) (by rw [fls_length]; exact Nat.le_trans HAL.out (by decide))); have HB7 := Lib.hid hb7; clear hr7 hb7)
              | (go_at_call 16; refine HC7.out.mono ?_; rintro e w8 ⟨b8, rfl, m8, rfl⟩))
            all_goals
              have HB8 := Lib.hid (bdrew HB7.out m8)
              obtain ⟨w8, hw8⟩ : ∃ x, x = w7.drewN m8 := ⟨_, rfl⟩
              rw [← hw8] at HB8 ⊢
              clear hw8
              have HDW2 := Lib.hid (HDW.out.below HB8.out)
              have HKW2 := Lib.hid (HKW.out.then_below HB8.out)
              have HOFN : Hid (FilesOff w8 OW rd2 (fls fin)) := Lib.hid (HOFM.out.keeps (Keeps.of_below HB8.out) (fun k h => Or.inl h))
              clear HDW HKW HALL HLI HC7 hc0 hrdl HB7 HB8 HOFM
              have HDW := HDW2
              have HKW := HKW2
              clear HDW2 HKW2
              obtain ⟨wp, hwp⟩ : ∃ x, x = w8 := ⟨w8, rfl⟩
              rw [← hwp] at HDW HKW HOFN ⊢
              clear hwp
              have HALL : Hid (∀ W, W.heap = wp.heap → W.os = wp.os → W.tape = wp.tape → W.output = wp.output → Calls Tryz.prog 15 #[.pointer (some ⟨sd, 0, none⟩)] W fun e w' => ∃ v, e = .returned v ∧ FRow w' wp.heap.size v (fls fin) ∧ Below wp.heap.size wp w') := Lib.hid (fun W hW h1 h2 h3 => by
                have hb : Below wp.heap.size wp W := ⟨h1, h2, h3, by rw [hW]; exact Nat.le_refl _, fun k _ => by rw [hW]⟩
                have h := Dsk.all (HDW.out.below hb) (by rw [HFIN.out]; exact HFL.out)
                rw [HFIN.out, hW] at h
                exact h.mono fun e w' ⟨v, h4, h5, h6⟩ => ⟨v, h4, h5, hb.trans (by rw [← hW]; rw [← hW] at h6; exact h6)⟩)
              obtain ⟨lv, ⟨hrdl, _⟩, hc0, hfat⟩ := HOFN.out
              have HLI := Lib.hid hfat.files
              obtain ⟨av, cv, hlv, _⟩ := id hfat
              subst hlv
              clear hfat HOFN
              go_wp2
              go_region_held3 (fun w' => w'.cell? ⟨rd2, 0, none⟩ = some (.slice av (fls fin).length cv)) (first | exact hc0 | exact hc1) (first
                | (go_at_call 15; refine (HALL.out wp.drew rfl rfl rfl rfl).mono ?_; rintro e x7 ⟨v7, rfl, hr7, hb7⟩; have hc1 := (hb7.cell (p := ⟨rd2, 0, none⟩) hrdl).trans hc0; have HC7 := Lib.hid (files_any hr7.files ((HLI.out.below hb7 (Nat.le_refl _)).mono hb7.size) (by rw [fls_length]; exact Nat.le_trans HFL.out (by decide))); have HB7 := Lib.hid hb7; clear hr7 hb7)
                | (go_at_call 16; refine HC7.out.mono ?_; rintro e x8 ⟨rfl, m8, rfl⟩))
              all_goals
                have HB8 := Lib.hid (bdrew HB7.out m8)
                obtain ⟨x8, hw8⟩ : ∃ x, x = x7.drewN m8 := ⟨_, rfl⟩
                rw [← hw8] at HB8 ⊢
                clear hw8
                have HLV := Lib.hid (lives18_any x8 (HE1.out _ (HKW.out.then_below HB8.out)))
                go_wp2_with fail
                refine HLV.out.mono ?_
                rintro e wl ⟨rfl, hbl⟩
                have HBL := Lib.hid (HEND2.out _ (HKW.out.then_below (HB8.out.trans (hbl.mono HB8.out.size))))
                clear hbl
                go_wp2
                go_returns
                exact ⟨rfl, HBL.out⟩
  have hCI : (0 : Int) < (C : Int) := by omega
  have hCN : 0 < C := by omega
  obtain ⟨c, hcc⟩ : ∃ c, cs[0]? = some c := ⟨_, List.getElem?_eq_getElem (by have := HCL.out; omega)⟩
  obtain ⟨bk, o, cap, hve, hbk, hcat⟩ := HCU0.out.at (by have := HCL.out; omega)
  rw [← HCL.out] at hve
  cases hve
  obtain ⟨e1, hcb⟩ := hcat 0 c hcc
  rw [Nat.add_zero] at e1
  have e0 := (HB3.out.cell (p := ⟨bk, o, none⟩) hbk).trans e1
  have HCB := Lib.hid hcb
  clear hcat hcc hcb e1 hC0
  by_cases hc0 : 0 ≤ c
  · have HCT := Lib.hid (cut_any HD3.out c HCB.out)
    have hcut : (loadS a).cut c = (0, ⟨a, [], c⟩) := by
      unfold Disk.S.cut
      rw [if_neg (show ¬ (loadS a).left = 0 by show ¬ (-1 : Int) = 0; decide), if_neg (by omega)]
      rfl
    rw [hcut] at HCT
    clear hcut
    go_wp2_with fail
    refine HCT.out.mono ?_
    rintro e w4 ⟨rfl, hn4⟩
    have HS4 := Lib.hid hn4
    clear hn4 e0
    obtain ⟨⟨O4, hd4, hO4⟩, hk4⟩ := HS4.out
    have HK4 := Lib.hid hk4
    have HO4 := Lib.hid hO4
    have HD4 := Lib.hid hd4
    clear hd4 hO4 hk4
    have HCM := Lib.hid (commit_any HD4.out (HE1.out _ HK4.out) HG.out (HOFF3.out.keeps HK4.out HO4.out) HGD.out.hung (show 1048576 + ds.length + 6 ≤ 1099511627776 by have := HLD.out; omega) (by have := HLD.out; omega) HSZ.out)
    unfold JPost at HCM
    dsimp only at HCM
    rw [HCAN.out, HMAP.out, HLD.out] at HCM
    obtain ⟨Q, q1, q2, q3, q4, q5⟩ := all_plan HGD.out HRUN.out HPX.out (s1 := (⟨a, [], c⟩ : Disk.S)) rfl rfl
    obtain ⟨r, hr⟩ : ∃ r, r = (⟨a, [], c⟩ : Disk.S).commit true (PL.Plan.text ds) D := ⟨_, rfl⟩
    rw [← hr] at HCM q1 q2 q3 q5
    clear hr
    obtain ⟨cc, s2⟩ := r
    dsimp only at HCM q1 q2 q3 q5
    have HQI0 := Lib.hid q2
    have HQT : Hid (∀ m, Q m → (Disk.readR m Disk.jT).1.length ≤ 3500000000000 ∧ (PL.Plan.parse (Disk.readR m Disk.jT).1).2.length ≤ 524288) := Lib.hid (fun m hm => recT2 HOK.out (by have := HLD.out; omega) HSZ.out (by have := HLD.out; omega) (q4 m hm))
    obtain ⟨R0, hR0⟩ : ∃ R0, R0 = s2.raws.length := ⟨_, rfl⟩
    rw [← hR0] at q3 q5
    obtain ⟨fin, hfin⟩ : ∃ f, f = if R0 < 3 then a else b := ⟨_, rfl⟩
    rw [← hfin] at q3
    have HFD := Lib.hid hfin
    have HR0 := Lib.hid hR0
    have HQR := Lib.hid q3
    have HQ5 := Lib.hid q5
    have HFK : Hid (Disk.kind fin Disk.jA = 0) := Lib.hid (by rw [hfin]; split; exact HKA.out; exact HKB.out)
    have HFL : Hid (fin.length ≤ 1099511627776) := Lib.hid (by rw [hfin]; split; exact HAL.out; exact HBLN.out)
    clear hR0 hfin q2 q3 q4 q5
    go_wp2_with fail
    refine HCM.out.mono ?_
    rintro e w5 ⟨rfl, hn5⟩
    have HS5 := Lib.hid (DskNow.after HK4.out HO4.out hn5)
    clear hn5
    obtain ⟨⟨O5, hd5, hO5⟩, hk5⟩ := HS5.out
    have HK5 := Lib.hid hk5
    have HO5 := Lib.hid hO5
    have HD5 := Lib.hid hd5
    clear hd5 hO5 hk5
    have HRW := Lib.hid (Dsk.raws HD5.out (by omega))
    go_wp2_with fail
    refine HRW.out.mono ?_
    rintro e w6 ⟨v6, rfl, hr6, hb6⟩
    obtain ⟨a6, c6, rfl⟩ := own_form hr6
    have HS6 := Lib.hid (HS5.out.then_below hb6)
    rw [← HR0.out]
    clear hr6 hb6
    rcases q1 with rfl | rfl
    · go_wp2
      go_loopw [16] (fun q wr => ∃ (i n : Nat) (si : Disk.S), q = .int .i64 i ∧ 1 ≤ i ∧ (i ≤ C ∨ i = 1) ∧ n ≤ 1048576 + N + 6 + i * 524291 ∧ DskNow w3 wr w1.heap.size O sd n si ∧ Q si.l) (fun q _ => C - (intOf q).toNat)
      case atStart => exact ⟨1, 1048576 + N + 6, s2, rfl, Nat.le_refl _, Or.inr rfl, by omega, HS6.out, HQI0.out⟩
      case round =>
        obtain ⟨i, n, si, rfl, hi1, hiC2, hnb, hnow, hQi⟩ := hrel
        obtain ⟨wo, rfl⟩ : ∃ x, x = wr := ⟨wr, rfl⟩
        have HS8 := Lib.hid hnow
        have HQI := Lib.hid hQi
        clear hnow hQi
        by_cases hiC : i < C
        · obtain ⟨c, hc⟩ : ∃ c, cs[i]? = some c := ⟨_, List.getElem?_eq_getElem (by have := HCL.out; omega)⟩
          obtain ⟨bk, o, cap, hve, hbk, hcc⟩ := HCU0.out.at (by have := HCL.out; omega)
          rw [← HCL.out] at hve
          cases hve
          obtain ⟨e1, hcb⟩ := hcc i c hc
          have HCB := Lib.hid hcb
          have HCE : Hid (∀ V, Keeps O w3 V → V.cell? ⟨bk, o + i, none⟩ = some (.int .i64 c)) := Lib.hid (fun V hV => ((HEND2.out V hV).cell (p := ⟨bk, o + i, none⟩) hbk).trans e1)
          have hiI : (i : Int) < (C : Int) := by omega
          clear hcc hc hcb e1
          obtain ⟨⟨O8, hd8, hO8⟩, hk8⟩ := HS8.out
          have HK8 := Lib.hid hk8
          have HO8 := Lib.hid hO8
          have HD8 := Lib.hid hd8
          clear hd8 hO8 hk8
          have HUP := Lib.hid (up_any HD8.out)
          go_wp2_with fail
          refine HUP.out.mono ?_
          rintro e wa ⟨rfl, hn9⟩
          have HS9 := Lib.hid (DskNow.after HK8.out HO8.out hn9)
          clear hn9
          obtain ⟨⟨O9, hd9, hO9⟩, hk9⟩ := HS9.out
          have HK9 := Lib.hid hk9
          have HO9 := Lib.hid hO9
          have HD9 := Lib.hid hd9
          clear hd9 hO9 hk9
          have e1 := HCE.out _ HK9.out
          by_cases hc0 : 0 ≤ c
          · have HCT := Lib.hid (cut_any HD9.out c HCB.out)
            have hcut : (⟨si.l, si.raws, -1⟩ : Disk.S).cut c = (0, ⟨si.l, si.raws, c⟩) := by
              unfold Disk.S.cut
              rw [if_neg (show ¬ (-1 : Int) = 0 by decide), if_neg (by omega)]
            rw [hcut] at HCT
            clear hcut
            go_wp2_with fail
            refine HCT.out.mono ?_
            rintro e wb ⟨rfl, hnb⟩
            have HS10 := Lib.hid (DskNow.after HK9.out HO9.out hnb)
            clear hnb e1
            obtain ⟨⟨O10, hd10, hO10⟩, hk10⟩ := HS10.out
            have HK10 := Lib.hid hk10
            have HO10 := Lib.hid hO10
            have HD10 := Lib.hid hd10
            clear hd10 hO10 hk10
            have HRC := Lib.hid (recover_any (M := 524288) HD10.out (HE1.out _ HK10.out) HG.out (by omega) (HQT.out _ HQI.out).1 (HQT.out _ HQI.out).2)
            unfold JPost at HRC
            have HRF := Lib.hid (HQR.out ⟨si.l, si.raws, c⟩ HQI.out)
            obtain ⟨r, hr⟩ : ∃ r, r = (⟨si.l, si.raws, c⟩ : Disk.S).recover parseJ := ⟨_, rfl⟩
            rw [← hr] at HRC HRF
            clear hr
            obtain ⟨rc, sx⟩ := r
            dsimp only at HRC HRF
            go_wp2_with fail
            refine HRC.out.mono ?_
            rintro e wx ⟨rfl, hnx⟩
            have HSX := Lib.hid (DskNow.after HK10.out HO10.out hnx)
            clear hnx
            have hrc2 := HRF.out.1
            rcases hrc2 with rfl | rfl
            all_goals
              go_wp2
              go_roundw
              case rel => exact ⟨i + 1, n + 524288 + 3, sx, by go_num, by omega, by omega, by omega, HSX.out, HRF.out.2.1⟩
              case measure => simp [intOf]; omega
          · have HDX := HD9
            have HRC := Lib.hid (recover_any (M := 524288) HD9.out (HE1.out _ HK9.out) HG.out (by omega) (HQT.out _ HQI.out).1 (HQT.out _ HQI.out).2)
            unfold JPost at HRC
            have HRF := Lib.hid (HQR.out ⟨si.l, si.raws, -1⟩ HQI.out)
            obtain ⟨r, hr⟩ : ∃ r, r = (⟨si.l, si.raws, -1⟩ : Disk.S).recover parseJ := ⟨_, rfl⟩
            rw [← hr] at HRC HRF
            clear hr
            obtain ⟨rc, sx⟩ := r
            dsimp only at HRC HRF
            go_wp2_with fail
            refine HRC.out.mono ?_
            rintro e wx ⟨rfl, hnx⟩
            have HSX := Lib.hid (DskNow.after HK9.out HO9.out hnx)
            clear hnx
            have hrc2 := HRF.out.1
            rcases hrc2 with rfl | rfl
            all_goals
              go_wp2
              go_roundw
              case rel => exact ⟨i + 1, n + 524288 + 3, sx, by go_num, by omega, by omega, by omega, HSX.out, HRF.out.2.1⟩
              case measure => simp [intOf]; omega
        · have hiI : ¬ (i : Int) < (C : Int) := by omega
          obtain ⟨⟨O8, hd8, hO8⟩, hk8⟩ := HS8.out
          have HK8 := Lib.hid hk8
          have HO8 := Lib.hid hO8
          have HD8 := Lib.hid hd8
          clear hd8 hO8 hk8
          have HUP := Lib.hid (up_any HD8.out)
          go_wp2_with fail
          refine HUP.out.mono ?_
          rintro e wz0 ⟨rfl, hn9⟩
          have HS9 := Lib.hid (DskNow.after HK8.out HO8.out hn9)
          clear hn9
          obtain ⟨⟨O9, hd9, hO9⟩, hk9⟩ := HS9.out
          have HK9 := Lib.hid hk9
          have HO9 := Lib.hid hO9
          have HD9 := Lib.hid hd9
          clear hd9 hO9 hk9
          have HRC := Lib.hid (recover_any (M := 524288) HD9.out (HE1.out _ HK9.out) HG.out (by omega) (HQT.out _ HQI.out).1 (HQT.out _ HQI.out).2)
          unfold JPost at HRC
          have HRF := Lib.hid (HQR.out ⟨si.l, si.raws, -1⟩ HQI.out)
          obtain ⟨r, hr⟩ : ∃ r, r = (⟨si.l, si.raws, -1⟩ : Disk.S).recover parseJ := ⟨_, rfl⟩
          rw [← hr] at HRC HRF
          clear hr
          obtain ⟨rc, sx⟩ := r
          dsimp only at HRC HRF
          go_wp2_with fail
          refine HRC.out.mono ?_
          rintro e wy ⟨rfl, hnx⟩
          have HSX := Lib.hid (DskNow.after HK9.out HO9.out hnx)
          clear hnx
          obtain ⟨e0, HFINe⟩ := HRF.out.2.2 (by trivial)
          subst e0
          have HFIN := Lib.hid HFINe
          clear HFINe
          obtain ⟨⟨OW, hdw, hOW⟩, hkw⟩ := HSX.out
          have HOW := Lib.hid hOW
          have HKI : Hid (Calls Tryz.prog 11 #[.pointer (some ⟨sd, 0, none⟩), .string ⟨#[47, 106, 111, 117, 114, 110, 97, 108]⟩] wy fun e w' => e = .returned (.int .i64 0) ∧ Below wy.heap.size wy w') := Lib.hid (by
            have h := Dsk.kind hdw Disk.jA (by decide)
            rw [HFIN.out, HFK.out] at h
            exact h)
          have HDY := Lib.hid hdw
          have HKY := Lib.hid hkw
          clear hdw hOW hkw
          go_wp2_with fail
          refine HKI.out.mono ?_
          rintro e wz ⟨rfl, hbz⟩
          have HDW := Lib.hid (HDY.out.below hbz)
          have HKW := Lib.hid (HKY.out.then_below hbz)
          have HBEL : Hid (wz = wz) := Lib.hid rfl
          clear hbz
          by_cases hr3 : R0 < 3
          · have HFA : Hid (fin = a) := Lib.hid (by rw [HFD.out, if_pos hr3])
            have h3 : ¬ (3 : Int) ≤ (R0 : Int) := by omega
            have hN0 : N = 0 := by
              rcases HQ5.out hr3 with h | h
              · exact absurd rfl h
              · rw [HLN.out, h]; rfl
            have hNI : ¬ (0 : Int) < (N : Int) := by omega
            have HOFN : Hid (FilesOff wz OW rd (fls fin)) := Lib.hid (by rw [HFA.out]; exact HOFA.out.keeps HKW.out HOW.out)
            clear hr3
            obtain ⟨wo, hwo⟩ : ∃ x, x = wz := ⟨wz, rfl⟩
            rw [← hwo] at HDW HKW HOFN HBEL ⊢
            clear hwo
            have HALL : Hid (∀ W, W.heap = wo.heap → W.os = wo.os → W.tape = wo.tape → W.output = wo.output → Calls Tryz.prog 15 #[.pointer (some ⟨sd, 0, none⟩)] W fun e w' => ∃ v, e = .returned v ∧ FRow w' wo.heap.size v (fls fin) ∧ Below wo.heap.size wo w') := Lib.hid (fun W hW h1 h2 h3 => by
              have hb : Below wo.heap.size wo W := ⟨h1, h2, h3, by rw [hW]; exact Nat.le_refl _, fun k _ => by rw [hW]⟩
              have h := Dsk.all (HDW.out.below hb) (by rw [HFIN.out]; exact HFL.out)
              rw [HFIN.out, hW] at h
              exact h.mono fun e w' ⟨v, h4, h5, h6⟩ => ⟨v, h4, h5, hb.trans (by rw [← hW]; rw [← hW] at h6; exact h6)⟩)
            obtain ⟨lv, ⟨hrdl, _⟩, hc0, hfat⟩ := HOFN.out
            have HLI := Lib.hid hfat.files
            obtain ⟨av, cv, hlv, _⟩ := id hfat
            subst hlv
            clear hfat HOFN
            go_wp2
            go_region_held3 (fun w' => w'.cell? ⟨rd, 0, none⟩ = some (.slice av (fls fin).length cv)) (first | exact hc0 | exact hc1) (first
              | (go_at_call 15; refine (HALL.out wo.drew rfl rfl rfl rfl).mono ?_; rintro e w7 ⟨v7, rfl, hr7, hb7⟩; have hc1 := (hb7.cell (p := ⟨rd, 0, none⟩) hrdl).trans hc0; have HC7 := Lib.hid (files_any hr7.files ((HLI.out.below hb7 (Nat.le_refl _)).mono hb7.size) (by rw [fls_length]; exact Nat.le_trans HFL.out (by decide))); have HB7 := Lib.hid hb7; clear hr7 hb7)
              | (go_at_call 16; refine HC7.out.mono ?_; rintro e w8 ⟨rfl, m8, rfl⟩))
            all_goals
              have HB8 := Lib.hid (bdrew HB7.out m8)
              obtain ⟨w8, hw8⟩ : ∃ x, x = w7.drewN m8 := ⟨_, rfl⟩
              rw [← hw8] at HB8 ⊢
              clear hw8
              have HLV := Lib.hid (lives18_any w8 (HE1.out _ (HKW.out.then_below HB8.out)))
              go_wp2_with fail
              refine HLV.out.mono ?_
              rintro e wl ⟨rfl, hbl⟩
              have HBL := Lib.hid (HEND2.out _ (HKW.out.then_below (HB8.out.trans (hbl.mono HB8.out.size))))
              clear hbl
              go_wp2
              go_returns
              exact ⟨rfl, HBL.out⟩
          · have HFA : Hid (fin = b) := Lib.hid (by rw [HFD.out, if_neg hr3])
            have h3 : (3 : Int) ≤ (R0 : Int) := by omega
            have HOFN : Hid (FilesOff wz OW rd (fls a)) := Lib.hid (HOFA.out.keeps HKW.out HOW.out)
            have HOFM : Hid (FilesOff wz OW rd2 (fls fin)) := Lib.hid (by rw [HFA.out]; exact HOFB.out.keeps HKW.out HOW.out)
            clear hr3
            obtain ⟨wo, hwo⟩ : ∃ x, x = wz := ⟨wz, rfl⟩
            rw [← hwo] at HDW HKW HOFN HOFM HBEL ⊢
            clear hwo
            have HALL : Hid (∀ W, W.heap = wo.heap → W.os = wo.os → W.tape = wo.tape → W.output = wo.output → Calls Tryz.prog 15 #[.pointer (some ⟨sd, 0, none⟩)] W fun e w' => ∃ v, e = .returned v ∧ FRow w' wo.heap.size v (fls fin) ∧ Below wo.heap.size wo w') := Lib.hid (fun W hW h1 h2 h3 => by
              have hb : Below wo.heap.size wo W := ⟨h1, h2, h3, by rw [hW]; exact Nat.le_refl _, fun k _ => by rw [hW]⟩
              have h := Dsk.all (HDW.out.below hb) (by rw [HFIN.out]; exact HFL.out)
              rw [HFIN.out, hW] at h
              exact h.mono fun e w' ⟨v, h4, h5, h6⟩ => ⟨v, h4, h5, hb.trans (by rw [← hW]; rw [← hW] at h6; exact h6)⟩)
            obtain ⟨lv, ⟨hrdl, _⟩, hc0, hfat⟩ := HOFN.out
            have HLI := Lib.hid hfat.files
            obtain ⟨av, cv, hlv, _⟩ := id hfat
            subst hlv
            clear hfat HOFN
            go_wp2
            go_region_held3 (fun w' => w'.cell? ⟨rd, 0, none⟩ = some (.slice av (fls a).length cv)) (first | exact hc0 | exact hc1) (first
              | (go_at_call 15; refine (HALL.out wo.drew rfl rfl rfl rfl).mono ?_; rintro e w7 ⟨v7, rfl, hr7, hb7⟩; have hc1 := (hb7.cell (p := ⟨rd, 0, none⟩) hrdl).trans hc0; have HC7 := Lib.hid (files_bool hr7.files ((HLI.out.below hb7 (Nat.le_refl _)).mono hb7.size) (by rw [fls_length]; exact Nat.le_trans HFL.out (by decide)) (by rw [fls_length]; exact Nat.le_trans HAL.out (by decide))); have HB7 := Lib.hid hb7; clear hr7 hb7)
              | (go_at_call 16; refine HC7.out.mono ?_; rintro e w8 ⟨b8, rfl, m8, rfl⟩))
            all_goals
              have HB8 := Lib.hid (bdrew HB7.out m8)
              obtain ⟨w8, hw8⟩ : ∃ x, x = w7.drewN m8 := ⟨_, rfl⟩
              rw [← hw8] at HB8 ⊢
              clear hw8
              have HDW2 := Lib.hid (HDW.out.below HB8.out)
              have HKW2 := Lib.hid (HKW.out.then_below HB8.out)
              have HOFN : Hid (FilesOff w8 OW rd2 (fls fin)) := Lib.hid (HOFM.out.keeps (Keeps.of_below HB8.out) (fun k h => Or.inl h))
              clear HDW HKW HALL HLI HC7 hc0 hrdl HB7 HB8 HOFM
              have HDW := HDW2
              have HKW := HKW2
              clear HDW2 HKW2
              obtain ⟨wp, hwp⟩ : ∃ x, x = w8 := ⟨w8, rfl⟩
              rw [← hwp] at HDW HKW HOFN ⊢
              clear hwp
              have HALL : Hid (∀ W, W.heap = wp.heap → W.os = wp.os → W.tape = wp.tape → W.output = wp.output → Calls Tryz.prog 15 #[.pointer (some ⟨sd, 0, none⟩)] W fun e w' => ∃ v, e = .returned v ∧ FRow w' wp.heap.size v (fls fin) ∧ Below wp.heap.size wp w') := Lib.hid (fun W hW h1 h2 h3 => by
                have hb : Below wp.heap.size wp W := ⟨h1, h2, h3, by rw [hW]; exact Nat.le_refl _, fun k _ => by rw [hW]⟩
                have h := Dsk.all (HDW.out.below hb) (by rw [HFIN.out]; exact HFL.out)
                rw [HFIN.out, hW] at h
                exact h.mono fun e w' ⟨v, h4, h5, h6⟩ => ⟨v, h4, h5, hb.trans (by rw [← hW]; rw [← hW] at h6; exact h6)⟩)
              obtain ⟨lv, ⟨hrdl, _⟩, hc0, hfat⟩ := HOFN.out
              have HLI := Lib.hid hfat.files
              obtain ⟨av, cv, hlv, _⟩ := id hfat
              subst hlv
              clear hfat HOFN
              go_wp2
              go_region_held3 (fun w' => w'.cell? ⟨rd2, 0, none⟩ = some (.slice av (fls fin).length cv)) (first | exact hc0 | exact hc1) (first
                | (go_at_call 15; refine (HALL.out wp.drew rfl rfl rfl rfl).mono ?_; rintro e x7 ⟨v7, rfl, hr7, hb7⟩; have hc1 := (hb7.cell (p := ⟨rd2, 0, none⟩) hrdl).trans hc0; have HC7 := Lib.hid (files_any hr7.files ((HLI.out.below hb7 (Nat.le_refl _)).mono hb7.size) (by rw [fls_length]; exact Nat.le_trans HFL.out (by decide))); have HB7 := Lib.hid hb7; clear hr7 hb7)
                | (go_at_call 16; refine HC7.out.mono ?_; rintro e x8 ⟨rfl, m8, rfl⟩))
              all_goals
                have HB8 := Lib.hid (bdrew HB7.out m8)
                obtain ⟨x8, hw8⟩ : ∃ x, x = x7.drewN m8 := ⟨_, rfl⟩
                rw [← hw8] at HB8 ⊢
                clear hw8
                have HLV := Lib.hid (lives18_any x8 (HE1.out _ (HKW.out.then_below HB8.out)))
                go_wp2_with fail
                refine HLV.out.mono ?_
                rintro e wl ⟨rfl, hbl⟩
                have HBL := Lib.hid (HEND2.out _ (HKW.out.then_below (HB8.out.trans (hbl.mono HB8.out.size))))
                clear hbl
                go_wp2
                go_returns
                exact ⟨rfl, HBL.out⟩
    · go_wp2
      go_loopw [16] (fun q wr => ∃ (i n : Nat) (si : Disk.S), q = .int .i64 i ∧ 1 ≤ i ∧ (i ≤ C ∨ i = 1) ∧ n ≤ 1048576 + N + 6 + i * 524291 ∧ DskNow w3 wr w1.heap.size O sd n si ∧ Q si.l) (fun q _ => C - (intOf q).toNat)
      case atStart => exact ⟨1, 1048576 + N + 6, s2, rfl, Nat.le_refl _, Or.inr rfl, by omega, HS6.out, HQI0.out⟩
      case round =>
        obtain ⟨i, n, si, rfl, hi1, hiC2, hnb, hnow, hQi⟩ := hrel
        obtain ⟨wo, rfl⟩ : ∃ x, x = wr := ⟨wr, rfl⟩
        have HS8 := Lib.hid hnow
        have HQI := Lib.hid hQi
        clear hnow hQi
        by_cases hiC : i < C
        · obtain ⟨c, hc⟩ : ∃ c, cs[i]? = some c := ⟨_, List.getElem?_eq_getElem (by have := HCL.out; omega)⟩
          obtain ⟨bk, o, cap, hve, hbk, hcc⟩ := HCU0.out.at (by have := HCL.out; omega)
          rw [← HCL.out] at hve
          cases hve
          obtain ⟨e1, hcb⟩ := hcc i c hc
          have HCB := Lib.hid hcb
          have HCE : Hid (∀ V, Keeps O w3 V → V.cell? ⟨bk, o + i, none⟩ = some (.int .i64 c)) := Lib.hid (fun V hV => ((HEND2.out V hV).cell (p := ⟨bk, o + i, none⟩) hbk).trans e1)
          have hiI : (i : Int) < (C : Int) := by omega
          clear hcc hc hcb e1
          obtain ⟨⟨O8, hd8, hO8⟩, hk8⟩ := HS8.out
          have HK8 := Lib.hid hk8
          have HO8 := Lib.hid hO8
          have HD8 := Lib.hid hd8
          clear hd8 hO8 hk8
          have HUP := Lib.hid (up_any HD8.out)
          go_wp2_with fail
          refine HUP.out.mono ?_
          rintro e wa ⟨rfl, hn9⟩
          have HS9 := Lib.hid (DskNow.after HK8.out HO8.out hn9)
          clear hn9
          obtain ⟨⟨O9, hd9, hO9⟩, hk9⟩ := HS9.out
          have HK9 := Lib.hid hk9
          have HO9 := Lib.hid hO9
          have HD9 := Lib.hid hd9
          clear hd9 hO9 hk9
          have e1 := HCE.out _ HK9.out
          by_cases hc0 : 0 ≤ c
          · have HCT := Lib.hid (cut_any HD9.out c HCB.out)
            have hcut : (⟨si.l, si.raws, -1⟩ : Disk.S).cut c = (0, ⟨si.l, si.raws, c⟩) := by
              unfold Disk.S.cut
              rw [if_neg (show ¬ (-1 : Int) = 0 by decide), if_neg (by omega)]
            rw [hcut] at HCT
            clear hcut
            go_wp2_with fail
            refine HCT.out.mono ?_
            rintro e wb ⟨rfl, hnb⟩
            have HS10 := Lib.hid (DskNow.after HK9.out HO9.out hnb)
            clear hnb e1
            obtain ⟨⟨O10, hd10, hO10⟩, hk10⟩ := HS10.out
            have HK10 := Lib.hid hk10
            have HO10 := Lib.hid hO10
            have HD10 := Lib.hid hd10
            clear hd10 hO10 hk10
            have HRC := Lib.hid (recover_any (M := 524288) HD10.out (HE1.out _ HK10.out) HG.out (by omega) (HQT.out _ HQI.out).1 (HQT.out _ HQI.out).2)
            unfold JPost at HRC
            have HRF := Lib.hid (HQR.out ⟨si.l, si.raws, c⟩ HQI.out)
            obtain ⟨r, hr⟩ : ∃ r, r = (⟨si.l, si.raws, c⟩ : Disk.S).recover parseJ := ⟨_, rfl⟩
            rw [← hr] at HRC HRF
            clear hr
            obtain ⟨rc, sx⟩ := r
            dsimp only at HRC HRF
            go_wp2_with fail
            refine HRC.out.mono ?_
            rintro e wx ⟨rfl, hnx⟩
            have HSX := Lib.hid (DskNow.after HK10.out HO10.out hnx)
            clear hnx
            have hrc2 := HRF.out.1
            rcases hrc2 with rfl | rfl
            all_goals
              go_wp2
              go_roundw
              case rel => exact ⟨i + 1, n + 524288 + 3, sx, by go_num, by omega, by omega, by omega, HSX.out, HRF.out.2.1⟩
              case measure => simp [intOf]; omega
          · have HDX := HD9
            have HRC := Lib.hid (recover_any (M := 524288) HD9.out (HE1.out _ HK9.out) HG.out (by omega) (HQT.out _ HQI.out).1 (HQT.out _ HQI.out).2)
            unfold JPost at HRC
            have HRF := Lib.hid (HQR.out ⟨si.l, si.raws, -1⟩ HQI.out)
            obtain ⟨r, hr⟩ : ∃ r, r = (⟨si.l, si.raws, -1⟩ : Disk.S).recover parseJ := ⟨_, rfl⟩
            rw [← hr] at HRC HRF
            clear hr
            obtain ⟨rc, sx⟩ := r
            dsimp only at HRC HRF
            go_wp2_with fail
            refine HRC.out.mono ?_
            rintro e wx ⟨rfl, hnx⟩
            have HSX := Lib.hid (DskNow.after HK9.out HO9.out hnx)
            clear hnx
            have hrc2 := HRF.out.1
            rcases hrc2 with rfl | rfl
            all_goals
              go_wp2
              go_roundw
              case rel => exact ⟨i + 1, n + 524288 + 3, sx, by go_num, by omega, by omega, by omega, HSX.out, HRF.out.2.1⟩
              case measure => simp [intOf]; omega
        · have hiI : ¬ (i : Int) < (C : Int) := by omega
          obtain ⟨⟨O8, hd8, hO8⟩, hk8⟩ := HS8.out
          have HK8 := Lib.hid hk8
          have HO8 := Lib.hid hO8
          have HD8 := Lib.hid hd8
          clear hd8 hO8 hk8
          have HUP := Lib.hid (up_any HD8.out)
          go_wp2_with fail
          refine HUP.out.mono ?_
          rintro e wz0 ⟨rfl, hn9⟩
          have HS9 := Lib.hid (DskNow.after HK8.out HO8.out hn9)
          clear hn9
          obtain ⟨⟨O9, hd9, hO9⟩, hk9⟩ := HS9.out
          have HK9 := Lib.hid hk9
          have HO9 := Lib.hid hO9
          have HD9 := Lib.hid hd9
          clear hd9 hO9 hk9
          have HRC := Lib.hid (recover_any (M := 524288) HD9.out (HE1.out _ HK9.out) HG.out (by omega) (HQT.out _ HQI.out).1 (HQT.out _ HQI.out).2)
          unfold JPost at HRC
          have HRF := Lib.hid (HQR.out ⟨si.l, si.raws, -1⟩ HQI.out)
          obtain ⟨r, hr⟩ : ∃ r, r = (⟨si.l, si.raws, -1⟩ : Disk.S).recover parseJ := ⟨_, rfl⟩
          rw [← hr] at HRC HRF
          clear hr
          obtain ⟨rc, sx⟩ := r
          dsimp only at HRC HRF
          go_wp2_with fail
          refine HRC.out.mono ?_
          rintro e wy ⟨rfl, hnx⟩
          have HSX := Lib.hid (DskNow.after HK9.out HO9.out hnx)
          clear hnx
          obtain ⟨e0, HFINe⟩ := HRF.out.2.2 (by trivial)
          subst e0
          have HFIN := Lib.hid HFINe
          clear HFINe
          obtain ⟨⟨OW, hdw, hOW⟩, hkw⟩ := HSX.out
          have HOW := Lib.hid hOW
          have HKI : Hid (Calls Tryz.prog 11 #[.pointer (some ⟨sd, 0, none⟩), .string ⟨#[47, 106, 111, 117, 114, 110, 97, 108]⟩] wy fun e w' => e = .returned (.int .i64 0) ∧ Below wy.heap.size wy w') := Lib.hid (by
            have h := Dsk.kind hdw Disk.jA (by decide)
            rw [HFIN.out, HFK.out] at h
            exact h)
          have HDY := Lib.hid hdw
          have HKY := Lib.hid hkw
          clear hdw hOW hkw
          go_wp2_with fail
          refine HKI.out.mono ?_
          rintro e wz ⟨rfl, hbz⟩
          have HDW := Lib.hid (HDY.out.below hbz)
          have HKW := Lib.hid (HKY.out.then_below hbz)
          have HBEL : Hid (wz = wz) := Lib.hid rfl
          clear hbz
          by_cases hr3 : R0 < 3
          · have HFA : Hid (fin = a) := Lib.hid (by rw [HFD.out, if_pos hr3])
            have h3 : ¬ (3 : Int) ≤ (R0 : Int) := by omega
            have HOFN : Hid (FilesOff wz OW rd (fls fin)) := Lib.hid (by rw [HFA.out]; exact HOFA.out.keeps HKW.out HOW.out)
            clear hr3
            obtain ⟨wo, hwo⟩ : ∃ x, x = wz := ⟨wz, rfl⟩
            rw [← hwo] at HDW HKW HOFN HBEL ⊢
            clear hwo
            have HALL : Hid (∀ W, W.heap = wo.heap → W.os = wo.os → W.tape = wo.tape → W.output = wo.output → Calls Tryz.prog 15 #[.pointer (some ⟨sd, 0, none⟩)] W fun e w' => ∃ v, e = .returned v ∧ FRow w' wo.heap.size v (fls fin) ∧ Below wo.heap.size wo w') := Lib.hid (fun W hW h1 h2 h3 => by
              have hb : Below wo.heap.size wo W := ⟨h1, h2, h3, by rw [hW]; exact Nat.le_refl _, fun k _ => by rw [hW]⟩
              have h := Dsk.all (HDW.out.below hb) (by rw [HFIN.out]; exact HFL.out)
              rw [HFIN.out, hW] at h
              exact h.mono fun e w' ⟨v, h4, h5, h6⟩ => ⟨v, h4, h5, hb.trans (by rw [← hW]; rw [← hW] at h6; exact h6)⟩)
            obtain ⟨lv, ⟨hrdl, _⟩, hc0, hfat⟩ := HOFN.out
            have HLI := Lib.hid hfat.files
            obtain ⟨av, cv, hlv, _⟩ := id hfat
            subst hlv
            clear hfat HOFN
            go_wp2
            go_region_held3 (fun w' => w'.cell? ⟨rd, 0, none⟩ = some (.slice av (fls fin).length cv)) (first | exact hc0 | exact hc1) (first
              | (go_at_call 15; refine (HALL.out wo.drew rfl rfl rfl rfl).mono ?_; rintro e w7 ⟨v7, rfl, hr7, hb7⟩; have hc1 := (hb7.cell (p := ⟨rd, 0, none⟩) hrdl).trans hc0; have HC7 := Lib.hid (files_any hr7.files ((HLI.out.below hb7 (Nat.le_refl _)).mono hb7.size) (by rw [fls_length]; exact Nat.le_trans HFL.out (by decide))); have HB7 := Lib.hid hb7; clear hr7 hb7)
              | (go_at_call 16; refine HC7.out.mono ?_; rintro e w8 ⟨rfl, m8, rfl⟩))
            all_goals
              have HB8 := Lib.hid (bdrew HB7.out m8)
              obtain ⟨w8, hw8⟩ : ∃ x, x = w7.drewN m8 := ⟨_, rfl⟩
              rw [← hw8] at HB8 ⊢
              clear hw8
              have HLV := Lib.hid (lives18_any w8 (HE1.out _ (HKW.out.then_below HB8.out)))
              go_wp2_with fail
              refine HLV.out.mono ?_
              rintro e wl ⟨rfl, hbl⟩
              have HBL := Lib.hid (HEND2.out _ (HKW.out.then_below (HB8.out.trans (hbl.mono HB8.out.size))))
              clear hbl
              go_wp2
              go_returns
              exact ⟨rfl, HBL.out⟩
          · have HFA : Hid (fin = b) := Lib.hid (by rw [HFD.out, if_neg hr3])
            have h3 : (3 : Int) ≤ (R0 : Int) := by omega
            have HOFN : Hid (FilesOff wz OW rd (fls a)) := Lib.hid (HOFA.out.keeps HKW.out HOW.out)
            have HOFM : Hid (FilesOff wz OW rd2 (fls fin)) := Lib.hid (by rw [HFA.out]; exact HOFB.out.keeps HKW.out HOW.out)
            clear hr3
            obtain ⟨wo, hwo⟩ : ∃ x, x = wz := ⟨wz, rfl⟩
            rw [← hwo] at HDW HKW HOFN HOFM HBEL ⊢
            clear hwo
            have HALL : Hid (∀ W, W.heap = wo.heap → W.os = wo.os → W.tape = wo.tape → W.output = wo.output → Calls Tryz.prog 15 #[.pointer (some ⟨sd, 0, none⟩)] W fun e w' => ∃ v, e = .returned v ∧ FRow w' wo.heap.size v (fls fin) ∧ Below wo.heap.size wo w') := Lib.hid (fun W hW h1 h2 h3 => by
              have hb : Below wo.heap.size wo W := ⟨h1, h2, h3, by rw [hW]; exact Nat.le_refl _, fun k _ => by rw [hW]⟩
              have h := Dsk.all (HDW.out.below hb) (by rw [HFIN.out]; exact HFL.out)
              rw [HFIN.out, hW] at h
              exact h.mono fun e w' ⟨v, h4, h5, h6⟩ => ⟨v, h4, h5, hb.trans (by rw [← hW]; rw [← hW] at h6; exact h6)⟩)
            obtain ⟨lv, ⟨hrdl, _⟩, hc0, hfat⟩ := HOFN.out
            have HLI := Lib.hid hfat.files
            obtain ⟨av, cv, hlv, _⟩ := id hfat
            subst hlv
            clear hfat HOFN
            go_wp2
            go_region_held3 (fun w' => w'.cell? ⟨rd, 0, none⟩ = some (.slice av (fls a).length cv)) (first | exact hc0 | exact hc1) (first
              | (go_at_call 15; refine (HALL.out wo.drew rfl rfl rfl rfl).mono ?_; rintro e w7 ⟨v7, rfl, hr7, hb7⟩; have hc1 := (hb7.cell (p := ⟨rd, 0, none⟩) hrdl).trans hc0; have HC7 := Lib.hid (files_bool hr7.files ((HLI.out.below hb7 (Nat.le_refl _)).mono hb7.size) (by rw [fls_length]; exact Nat.le_trans HFL.out (by decide)) (by rw [fls_length]; exact Nat.le_trans HAL.out (by decide))); have HB7 := Lib.hid hb7; clear hr7 hb7)
              | (go_at_call 16; refine HC7.out.mono ?_; rintro e w8 ⟨b8, rfl, m8, rfl⟩))
            all_goals
              have HB8 := Lib.hid (bdrew HB7.out m8)
              obtain ⟨w8, hw8⟩ : ∃ x, x = w7.drewN m8 := ⟨_, rfl⟩
              rw [← hw8] at HB8 ⊢
              clear hw8
              have HDW2 := Lib.hid (HDW.out.below HB8.out)
              have HKW2 := Lib.hid (HKW.out.then_below HB8.out)
              have HOFN : Hid (FilesOff w8 OW rd2 (fls fin)) := Lib.hid (HOFM.out.keeps (Keeps.of_below HB8.out) (fun k h => Or.inl h))
              clear HDW HKW HALL HLI HC7 hc0 hrdl HB7 HB8 HOFM
              have HDW := HDW2
              have HKW := HKW2
              clear HDW2 HKW2
              obtain ⟨wp, hwp⟩ : ∃ x, x = w8 := ⟨w8, rfl⟩
              rw [← hwp] at HDW HKW HOFN ⊢
              clear hwp
              have HALL : Hid (∀ W, W.heap = wp.heap → W.os = wp.os → W.tape = wp.tape → W.output = wp.output → Calls Tryz.prog 15 #[.pointer (some ⟨sd, 0, none⟩)] W fun e w' => ∃ v, e = .returned v ∧ FRow w' wp.heap.size v (fls fin) ∧ Below wp.heap.size wp w') := Lib.hid (fun W hW h1 h2 h3 => by
                have hb : Below wp.heap.size wp W := ⟨h1, h2, h3, by rw [hW]; exact Nat.le_refl _, fun k _ => by rw [hW]⟩
                have h := Dsk.all (HDW.out.below hb) (by rw [HFIN.out]; exact HFL.out)
                rw [HFIN.out, hW] at h
                exact h.mono fun e w' ⟨v, h4, h5, h6⟩ => ⟨v, h4, h5, hb.trans (by rw [← hW]; rw [← hW] at h6; exact h6)⟩)
              obtain ⟨lv, ⟨hrdl, _⟩, hc0, hfat⟩ := HOFN.out
              have HLI := Lib.hid hfat.files
              obtain ⟨av, cv, hlv, _⟩ := id hfat
              subst hlv
              clear hfat HOFN
              go_wp2
              go_region_held3 (fun w' => w'.cell? ⟨rd2, 0, none⟩ = some (.slice av (fls fin).length cv)) (first | exact hc0 | exact hc1) (first
                | (go_at_call 15; refine (HALL.out wp.drew rfl rfl rfl rfl).mono ?_; rintro e x7 ⟨v7, rfl, hr7, hb7⟩; have hc1 := (hb7.cell (p := ⟨rd2, 0, none⟩) hrdl).trans hc0; have HC7 := Lib.hid (files_any hr7.files ((HLI.out.below hb7 (Nat.le_refl _)).mono hb7.size) (by rw [fls_length]; exact Nat.le_trans HFL.out (by decide))); have HB7 := Lib.hid hb7; clear hr7 hb7)
                | (go_at_call 16; refine HC7.out.mono ?_; rintro e x8 ⟨rfl, m8, rfl⟩))
              all_goals
                have HB8 := Lib.hid (bdrew HB7.out m8)
                obtain ⟨x8, hw8⟩ : ∃ x, x = x7.drewN m8 := ⟨_, rfl⟩
                rw [← hw8] at HB8 ⊢
                clear hw8
                have HLV := Lib.hid (lives18_any x8 (HE1.out _ (HKW.out.then_below HB8.out)))
                go_wp2_with fail
                refine HLV.out.mono ?_
                rintro e wl ⟨rfl, hbl⟩
                have HBL := Lib.hid (HEND2.out _ (HKW.out.then_below (HB8.out.trans (hbl.mono HB8.out.size))))
                clear hbl
                go_wp2
                go_returns
                exact ⟨rfl, HBL.out⟩
  · have HS4 : Hid (DskNow w3 w3 w1.heap.size O sd 1048576 ⟨a, [], -1⟩) := Lib.hid (DskNow.of_below HD3.out (Below.refl _ _))
    obtain ⟨w4, hw4⟩ : ∃ x, x = w3 := ⟨w3, rfl⟩
    have HS4 : Hid (DskNow w3 w4 w1.heap.size O sd 1048576 ⟨a, [], -1⟩) := Lib.hid (by rw [hw4]; exact HS4.out)
    obtain ⟨⟨O4, hd4, hO4⟩, hk4⟩ := HS4.out
    have HK4 := Lib.hid hk4
    have HO4 := Lib.hid hO4
    have HD4 := Lib.hid hd4
    clear hd4 hO4 hk4
    have HCM := Lib.hid (commit_any HD4.out (HE1.out _ HK4.out) HG.out (HOFF3.out.keeps HK4.out HO4.out) HGD.out.hung (show 1048576 + ds.length + 6 ≤ 1099511627776 by have := HLD.out; omega) (by have := HLD.out; omega) HSZ.out)
    unfold JPost at HCM
    dsimp only at HCM
    rw [HCAN.out, HMAP.out, HLD.out] at HCM
    obtain ⟨Q, q1, q2, q3, q4, q5⟩ := all_plan HGD.out HRUN.out HPX.out (s1 := (⟨a, [], -1⟩ : Disk.S)) rfl rfl
    obtain ⟨r, hr⟩ : ∃ r, r = (⟨a, [], -1⟩ : Disk.S).commit true (PL.Plan.text ds) D := ⟨_, rfl⟩
    rw [← hr] at HCM q1 q2 q3 q5
    clear hr
    obtain ⟨cc, s2⟩ := r
    dsimp only at HCM q1 q2 q3 q5
    have HQI0 := Lib.hid q2
    have HQT : Hid (∀ m, Q m → (Disk.readR m Disk.jT).1.length ≤ 3500000000000 ∧ (PL.Plan.parse (Disk.readR m Disk.jT).1).2.length ≤ 524288) := Lib.hid (fun m hm => recT2 HOK.out (by have := HLD.out; omega) HSZ.out (by have := HLD.out; omega) (q4 m hm))
    obtain ⟨R0, hR0⟩ : ∃ R0, R0 = s2.raws.length := ⟨_, rfl⟩
    rw [← hR0] at q3 q5
    obtain ⟨fin, hfin⟩ : ∃ f, f = if R0 < 3 then a else b := ⟨_, rfl⟩
    rw [← hfin] at q3
    have HFD := Lib.hid hfin
    have HR0 := Lib.hid hR0
    have HQR := Lib.hid q3
    have HQ5 := Lib.hid q5
    have HFK : Hid (Disk.kind fin Disk.jA = 0) := Lib.hid (by rw [hfin]; split; exact HKA.out; exact HKB.out)
    have HFL : Hid (fin.length ≤ 1099511627776) := Lib.hid (by rw [hfin]; split; exact HAL.out; exact HBLN.out)
    clear hR0 hfin q2 q3 q4 q5
    go_wp2_with fail
    try rw [← hw4]
    refine HCM.out.mono ?_
    rintro e w5 ⟨rfl, hn5⟩
    have HS5 := Lib.hid (DskNow.after HK4.out HO4.out hn5)
    clear hn5
    obtain ⟨⟨O5, hd5, hO5⟩, hk5⟩ := HS5.out
    have HK5 := Lib.hid hk5
    have HO5 := Lib.hid hO5
    have HD5 := Lib.hid hd5
    clear hd5 hO5 hk5
    have HRW := Lib.hid (Dsk.raws HD5.out (by omega))
    go_wp2_with fail
    refine HRW.out.mono ?_
    rintro e w6 ⟨v6, rfl, hr6, hb6⟩
    obtain ⟨a6, c6, rfl⟩ := own_form hr6
    have HS6 := Lib.hid (HS5.out.then_below hb6)
    rw [← HR0.out]
    clear hr6 hb6
    rcases q1 with rfl | rfl
    · go_wp2
      go_loopw [16] (fun q wr => ∃ (i n : Nat) (si : Disk.S), q = .int .i64 i ∧ 1 ≤ i ∧ (i ≤ C ∨ i = 1) ∧ n ≤ 1048576 + N + 6 + i * 524291 ∧ DskNow w3 wr w1.heap.size O sd n si ∧ Q si.l) (fun q _ => C - (intOf q).toNat)
      case atStart => exact ⟨1, 1048576 + N + 6, s2, rfl, Nat.le_refl _, Or.inr rfl, by omega, HS6.out, HQI0.out⟩
      case round =>
        obtain ⟨i, n, si, rfl, hi1, hiC2, hnb, hnow, hQi⟩ := hrel
        obtain ⟨wo, rfl⟩ : ∃ x, x = wr := ⟨wr, rfl⟩
        have HS8 := Lib.hid hnow
        have HQI := Lib.hid hQi
        clear hnow hQi
        by_cases hiC : i < C
        · obtain ⟨c, hc⟩ : ∃ c, cs[i]? = some c := ⟨_, List.getElem?_eq_getElem (by have := HCL.out; omega)⟩
          obtain ⟨bk, o, cap, hve, hbk, hcc⟩ := HCU0.out.at (by have := HCL.out; omega)
          rw [← HCL.out] at hve
          cases hve
          obtain ⟨e1, hcb⟩ := hcc i c hc
          have HCB := Lib.hid hcb
          have HCE : Hid (∀ V, Keeps O w3 V → V.cell? ⟨bk, o + i, none⟩ = some (.int .i64 c)) := Lib.hid (fun V hV => ((HEND2.out V hV).cell (p := ⟨bk, o + i, none⟩) hbk).trans e1)
          have hiI : (i : Int) < (C : Int) := by omega
          clear hcc hc hcb e1
          obtain ⟨⟨O8, hd8, hO8⟩, hk8⟩ := HS8.out
          have HK8 := Lib.hid hk8
          have HO8 := Lib.hid hO8
          have HD8 := Lib.hid hd8
          clear hd8 hO8 hk8
          have HUP := Lib.hid (up_any HD8.out)
          go_wp2_with fail
          refine HUP.out.mono ?_
          rintro e wa ⟨rfl, hn9⟩
          have HS9 := Lib.hid (DskNow.after HK8.out HO8.out hn9)
          clear hn9
          obtain ⟨⟨O9, hd9, hO9⟩, hk9⟩ := HS9.out
          have HK9 := Lib.hid hk9
          have HO9 := Lib.hid hO9
          have HD9 := Lib.hid hd9
          clear hd9 hO9 hk9
          have e1 := HCE.out _ HK9.out
          by_cases hc0 : 0 ≤ c
          · have HCT := Lib.hid (cut_any HD9.out c HCB.out)
            have hcut : (⟨si.l, si.raws, -1⟩ : Disk.S).cut c = (0, ⟨si.l, si.raws, c⟩) := by
              unfold Disk.S.cut
              rw [if_neg (show ¬ (-1 : Int) = 0 by decide), if_neg (by omega)]
            rw [hcut] at HCT
            clear hcut
            go_wp2_with fail
            refine HCT.out.mono ?_
            rintro e wb ⟨rfl, hnb⟩
            have HS10 := Lib.hid (DskNow.after HK9.out HO9.out hnb)
            clear hnb e1
            obtain ⟨⟨O10, hd10, hO10⟩, hk10⟩ := HS10.out
            have HK10 := Lib.hid hk10
            have HO10 := Lib.hid hO10
            have HD10 := Lib.hid hd10
            clear hd10 hO10 hk10
            have HRC := Lib.hid (recover_any (M := 524288) HD10.out (HE1.out _ HK10.out) HG.out (by omega) (HQT.out _ HQI.out).1 (HQT.out _ HQI.out).2)
            unfold JPost at HRC
            have HRF := Lib.hid (HQR.out ⟨si.l, si.raws, c⟩ HQI.out)
            obtain ⟨r, hr⟩ : ∃ r, r = (⟨si.l, si.raws, c⟩ : Disk.S).recover parseJ := ⟨_, rfl⟩
            rw [← hr] at HRC HRF
            clear hr
            obtain ⟨rc, sx⟩ := r
            dsimp only at HRC HRF
            go_wp2_with fail
            refine HRC.out.mono ?_
            rintro e wx ⟨rfl, hnx⟩
            have HSX := Lib.hid (DskNow.after HK10.out HO10.out hnx)
            clear hnx
            have hrc2 := HRF.out.1
            rcases hrc2 with rfl | rfl
            all_goals
              go_wp2
              go_roundw
              case rel => exact ⟨i + 1, n + 524288 + 3, sx, by go_num, by omega, by omega, by omega, HSX.out, HRF.out.2.1⟩
              case measure => simp [intOf]; omega
          · have HDX := HD9
            have HRC := Lib.hid (recover_any (M := 524288) HD9.out (HE1.out _ HK9.out) HG.out (by omega) (HQT.out _ HQI.out).1 (HQT.out _ HQI.out).2)
            unfold JPost at HRC
            have HRF := Lib.hid (HQR.out ⟨si.l, si.raws, -1⟩ HQI.out)
            obtain ⟨r, hr⟩ : ∃ r, r = (⟨si.l, si.raws, -1⟩ : Disk.S).recover parseJ := ⟨_, rfl⟩
            rw [← hr] at HRC HRF
            clear hr
            obtain ⟨rc, sx⟩ := r
            dsimp only at HRC HRF
            go_wp2_with fail
            refine HRC.out.mono ?_
            rintro e wx ⟨rfl, hnx⟩
            have HSX := Lib.hid (DskNow.after HK9.out HO9.out hnx)
            clear hnx
            have hrc2 := HRF.out.1
            rcases hrc2 with rfl | rfl
            all_goals
              go_wp2
              go_roundw
              case rel => exact ⟨i + 1, n + 524288 + 3, sx, by go_num, by omega, by omega, by omega, HSX.out, HRF.out.2.1⟩
              case measure => simp [intOf]; omega
        · have hiI : ¬ (i : Int) < (C : Int) := by omega
          obtain ⟨⟨O8, hd8, hO8⟩, hk8⟩ := HS8.out
          have HK8 := Lib.hid hk8
          have HO8 := Lib.hid hO8
          have HD8 := Lib.hid hd8
          clear hd8 hO8 hk8
          have HUP := Lib.hid (up_any HD8.out)
          go_wp2_with fail
          refine HUP.out.mono ?_
          rintro e wz0 ⟨rfl, hn9⟩
          have HS9 := Lib.hid (DskNow.after HK8.out HO8.out hn9)
          clear hn9
          obtain ⟨⟨O9, hd9, hO9⟩, hk9⟩ := HS9.out
          have HK9 := Lib.hid hk9
          have HO9 := Lib.hid hO9
          have HD9 := Lib.hid hd9
          clear hd9 hO9 hk9
          have HRC := Lib.hid (recover_any (M := 524288) HD9.out (HE1.out _ HK9.out) HG.out (by omega) (HQT.out _ HQI.out).1 (HQT.out _ HQI.out).2)
          unfold JPost at HRC
          have HRF := Lib.hid (HQR.out ⟨si.l, si.raws, -1⟩ HQI.out)
          obtain ⟨r, hr⟩ : ∃ r, r = (⟨si.l, si.raws, -1⟩ : Disk.S).recover parseJ := ⟨_, rfl⟩
          rw [← hr] at HRC HRF
          clear hr
          obtain ⟨rc, sx⟩ := r
          dsimp only at HRC HRF
          go_wp2_with fail
          refine HRC.out.mono ?_
          rintro e wy ⟨rfl, hnx⟩
          have HSX := Lib.hid (DskNow.after HK9.out HO9.out hnx)
          clear hnx
          obtain ⟨e0, HFINe⟩ := HRF.out.2.2 (by trivial)
          subst e0
          have HFIN := Lib.hid HFINe
          clear HFINe
          obtain ⟨⟨OW, hdw, hOW⟩, hkw⟩ := HSX.out
          have HOW := Lib.hid hOW
          have HKI : Hid (Calls Tryz.prog 11 #[.pointer (some ⟨sd, 0, none⟩), .string ⟨#[47, 106, 111, 117, 114, 110, 97, 108]⟩] wy fun e w' => e = .returned (.int .i64 0) ∧ Below wy.heap.size wy w') := Lib.hid (by
            have h := Dsk.kind hdw Disk.jA (by decide)
            rw [HFIN.out, HFK.out] at h
            exact h)
          have HDY := Lib.hid hdw
          have HKY := Lib.hid hkw
          clear hdw hOW hkw
          go_wp2_with fail
          refine HKI.out.mono ?_
          rintro e wz ⟨rfl, hbz⟩
          have HDW := Lib.hid (HDY.out.below hbz)
          have HKW := Lib.hid (HKY.out.then_below hbz)
          have HBEL : Hid (wz = wz) := Lib.hid rfl
          clear hbz
          by_cases hr3 : R0 < 3
          · have HFA : Hid (fin = a) := Lib.hid (by rw [HFD.out, if_pos hr3])
            have h3 : ¬ (3 : Int) ≤ (R0 : Int) := by omega
            have hN0 : N = 0 := by
              rcases HQ5.out hr3 with h | h
              · exact absurd rfl h
              · rw [HLN.out, h]; rfl
            have hNI : ¬ (0 : Int) < (N : Int) := by omega
            have HOFN : Hid (FilesOff wz OW rd (fls fin)) := Lib.hid (by rw [HFA.out]; exact HOFA.out.keeps HKW.out HOW.out)
            clear hr3
            obtain ⟨wo, hwo⟩ : ∃ x, x = wz := ⟨wz, rfl⟩
            rw [← hwo] at HDW HKW HOFN HBEL ⊢
            clear hwo
            have HALL : Hid (∀ W, W.heap = wo.heap → W.os = wo.os → W.tape = wo.tape → W.output = wo.output → Calls Tryz.prog 15 #[.pointer (some ⟨sd, 0, none⟩)] W fun e w' => ∃ v, e = .returned v ∧ FRow w' wo.heap.size v (fls fin) ∧ Below wo.heap.size wo w') := Lib.hid (fun W hW h1 h2 h3 => by
              have hb : Below wo.heap.size wo W := ⟨h1, h2, h3, by rw [hW]; exact Nat.le_refl _, fun k _ => by rw [hW]⟩
              have h := Dsk.all (HDW.out.below hb) (by rw [HFIN.out]; exact HFL.out)
              rw [HFIN.out, hW] at h
              exact h.mono fun e w' ⟨v, h4, h5, h6⟩ => ⟨v, h4, h5, hb.trans (by rw [← hW]; rw [← hW] at h6; exact h6)⟩)
            obtain ⟨lv, ⟨hrdl, _⟩, hc0, hfat⟩ := HOFN.out
            have HLI := Lib.hid hfat.files
            obtain ⟨av, cv, hlv, _⟩ := id hfat
            subst hlv
            clear hfat HOFN
            go_wp2
            go_region_held3 (fun w' => w'.cell? ⟨rd, 0, none⟩ = some (.slice av (fls fin).length cv)) (first | exact hc0 | exact hc1) (first
              | (go_at_call 15; refine (HALL.out wo.drew rfl rfl rfl rfl).mono ?_; rintro e w7 ⟨v7, rfl, hr7, hb7⟩; have hc1 := (hb7.cell (p := ⟨rd, 0, none⟩) hrdl).trans hc0; have HC7 := Lib.hid (files_any hr7.files ((HLI.out.below hb7 (Nat.le_refl _)).mono hb7.size) (by rw [fls_length]; exact Nat.le_trans HFL.out (by decide))); have HB7 := Lib.hid hb7; clear hr7 hb7)
              | (go_at_call 16; refine HC7.out.mono ?_; rintro e w8 ⟨rfl, m8, rfl⟩))
            all_goals
              have HB8 := Lib.hid (bdrew HB7.out m8)
              obtain ⟨w8, hw8⟩ : ∃ x, x = w7.drewN m8 := ⟨_, rfl⟩
              rw [← hw8] at HB8 ⊢
              clear hw8
              have HLV := Lib.hid (lives18_any w8 (HE1.out _ (HKW.out.then_below HB8.out)))
              go_wp2_with fail
              refine HLV.out.mono ?_
              rintro e wl ⟨rfl, hbl⟩
              have HBL := Lib.hid (HEND2.out _ (HKW.out.then_below (HB8.out.trans (hbl.mono HB8.out.size))))
              clear hbl
              go_wp2
              go_returns
              exact ⟨rfl, HBL.out⟩
          · have HFA : Hid (fin = b) := Lib.hid (by rw [HFD.out, if_neg hr3])
            have h3 : (3 : Int) ≤ (R0 : Int) := by omega
            have HOFN : Hid (FilesOff wz OW rd (fls a)) := Lib.hid (HOFA.out.keeps HKW.out HOW.out)
            have HOFM : Hid (FilesOff wz OW rd2 (fls fin)) := Lib.hid (by rw [HFA.out]; exact HOFB.out.keeps HKW.out HOW.out)
            clear hr3
            obtain ⟨wo, hwo⟩ : ∃ x, x = wz := ⟨wz, rfl⟩
            rw [← hwo] at HDW HKW HOFN HOFM HBEL ⊢
            clear hwo
            have HALL : Hid (∀ W, W.heap = wo.heap → W.os = wo.os → W.tape = wo.tape → W.output = wo.output → Calls Tryz.prog 15 #[.pointer (some ⟨sd, 0, none⟩)] W fun e w' => ∃ v, e = .returned v ∧ FRow w' wo.heap.size v (fls fin) ∧ Below wo.heap.size wo w') := Lib.hid (fun W hW h1 h2 h3 => by
              have hb : Below wo.heap.size wo W := ⟨h1, h2, h3, by rw [hW]; exact Nat.le_refl _, fun k _ => by rw [hW]⟩
              have h := Dsk.all (HDW.out.below hb) (by rw [HFIN.out]; exact HFL.out)
              rw [HFIN.out, hW] at h
              exact h.mono fun e w' ⟨v, h4, h5, h6⟩ => ⟨v, h4, h5, hb.trans (by rw [← hW]; rw [← hW] at h6; exact h6)⟩)
            obtain ⟨lv, ⟨hrdl, _⟩, hc0, hfat⟩ := HOFN.out
            have HLI := Lib.hid hfat.files
            obtain ⟨av, cv, hlv, _⟩ := id hfat
            subst hlv
            clear hfat HOFN
            go_wp2
            go_region_held3 (fun w' => w'.cell? ⟨rd, 0, none⟩ = some (.slice av (fls a).length cv)) (first | exact hc0 | exact hc1) (first
              | (go_at_call 15; refine (HALL.out wo.drew rfl rfl rfl rfl).mono ?_; rintro e w7 ⟨v7, rfl, hr7, hb7⟩; have hc1 := (hb7.cell (p := ⟨rd, 0, none⟩) hrdl).trans hc0; have HC7 := Lib.hid (files_bool hr7.files ((HLI.out.below hb7 (Nat.le_refl _)).mono hb7.size) (by rw [fls_length]; exact Nat.le_trans HFL.out (by decide)) (by rw [fls_length]; exact Nat.le_trans HAL.out (by decide))); have HB7 := Lib.hid hb7; clear hr7 hb7)
              | (go_at_call 16; refine HC7.out.mono ?_; rintro e w8 ⟨b8, rfl, m8, rfl⟩))
            all_goals
              have HB8 := Lib.hid (bdrew HB7.out m8)
              obtain ⟨w8, hw8⟩ : ∃ x, x = w7.drewN m8 := ⟨_, rfl⟩
              rw [← hw8] at HB8 ⊢
              clear hw8
              have HDW2 := Lib.hid (HDW.out.below HB8.out)
              have HKW2 := Lib.hid (HKW.out.then_below HB8.out)
              have HOFN : Hid (FilesOff w8 OW rd2 (fls fin)) := Lib.hid (HOFM.out.keeps (Keeps.of_below HB8.out) (fun k h => Or.inl h))
              clear HDW HKW HALL HLI HC7 hc0 hrdl HB7 HB8 HOFM
              have HDW := HDW2
              have HKW := HKW2
              clear HDW2 HKW2
              obtain ⟨wp, hwp⟩ : ∃ x, x = w8 := ⟨w8, rfl⟩
              rw [← hwp] at HDW HKW HOFN ⊢
              clear hwp
              have HALL : Hid (∀ W, W.heap = wp.heap → W.os = wp.os → W.tape = wp.tape → W.output = wp.output → Calls Tryz.prog 15 #[.pointer (some ⟨sd, 0, none⟩)] W fun e w' => ∃ v, e = .returned v ∧ FRow w' wp.heap.size v (fls fin) ∧ Below wp.heap.size wp w') := Lib.hid (fun W hW h1 h2 h3 => by
                have hb : Below wp.heap.size wp W := ⟨h1, h2, h3, by rw [hW]; exact Nat.le_refl _, fun k _ => by rw [hW]⟩
                have h := Dsk.all (HDW.out.below hb) (by rw [HFIN.out]; exact HFL.out)
                rw [HFIN.out, hW] at h
                exact h.mono fun e w' ⟨v, h4, h5, h6⟩ => ⟨v, h4, h5, hb.trans (by rw [← hW]; rw [← hW] at h6; exact h6)⟩)
              obtain ⟨lv, ⟨hrdl, _⟩, hc0, hfat⟩ := HOFN.out
              have HLI := Lib.hid hfat.files
              obtain ⟨av, cv, hlv, _⟩ := id hfat
              subst hlv
              clear hfat HOFN
              go_wp2
              go_region_held3 (fun w' => w'.cell? ⟨rd2, 0, none⟩ = some (.slice av (fls fin).length cv)) (first | exact hc0 | exact hc1) (first
                | (go_at_call 15; refine (HALL.out wp.drew rfl rfl rfl rfl).mono ?_; rintro e x7 ⟨v7, rfl, hr7, hb7⟩; have hc1 := (hb7.cell (p := ⟨rd2, 0, none⟩) hrdl).trans hc0; have HC7 := Lib.hid (files_any hr7.files ((HLI.out.below hb7 (Nat.le_refl _)).mono hb7.size) (by rw [fls_length]; exact Nat.le_trans HFL.out (by decide))); have HB7 := Lib.hid hb7; clear hr7 hb7)
                | (go_at_call 16; refine HC7.out.mono ?_; rintro e x8 ⟨rfl, m8, rfl⟩))
              all_goals
                have HB8 := Lib.hid (bdrew HB7.out m8)
                obtain ⟨x8, hw8⟩ : ∃ x, x = x7.drewN m8 := ⟨_, rfl⟩
                rw [← hw8] at HB8 ⊢
                clear hw8
                have HLV := Lib.hid (lives18_any x8 (HE1.out _ (HKW.out.then_below HB8.out)))
                go_wp2_with fail
                refine HLV.out.mono ?_
                rintro e wl ⟨rfl, hbl⟩
                have HBL := Lib.hid (HEND2.out _ (HKW.out.then_below (HB8.out.trans (hbl.mono HB8.out.size))))
                clear hbl
                go_wp2
                go_returns
                exact ⟨rfl, HBL.out⟩
    · go_wp2
      go_loopw [16] (fun q wr => ∃ (i n : Nat) (si : Disk.S), q = .int .i64 i ∧ 1 ≤ i ∧ (i ≤ C ∨ i = 1) ∧ n ≤ 1048576 + N + 6 + i * 524291 ∧ DskNow w3 wr w1.heap.size O sd n si ∧ Q si.l) (fun q _ => C - (intOf q).toNat)
      case atStart => exact ⟨1, 1048576 + N + 6, s2, rfl, Nat.le_refl _, Or.inr rfl, by omega, HS6.out, HQI0.out⟩
      case round =>
        obtain ⟨i, n, si, rfl, hi1, hiC2, hnb, hnow, hQi⟩ := hrel
        obtain ⟨wo, rfl⟩ : ∃ x, x = wr := ⟨wr, rfl⟩
        have HS8 := Lib.hid hnow
        have HQI := Lib.hid hQi
        clear hnow hQi
        by_cases hiC : i < C
        · obtain ⟨c, hc⟩ : ∃ c, cs[i]? = some c := ⟨_, List.getElem?_eq_getElem (by have := HCL.out; omega)⟩
          obtain ⟨bk, o, cap, hve, hbk, hcc⟩ := HCU0.out.at (by have := HCL.out; omega)
          rw [← HCL.out] at hve
          cases hve
          obtain ⟨e1, hcb⟩ := hcc i c hc
          have HCB := Lib.hid hcb
          have HCE : Hid (∀ V, Keeps O w3 V → V.cell? ⟨bk, o + i, none⟩ = some (.int .i64 c)) := Lib.hid (fun V hV => ((HEND2.out V hV).cell (p := ⟨bk, o + i, none⟩) hbk).trans e1)
          have hiI : (i : Int) < (C : Int) := by omega
          clear hcc hc hcb e1
          obtain ⟨⟨O8, hd8, hO8⟩, hk8⟩ := HS8.out
          have HK8 := Lib.hid hk8
          have HO8 := Lib.hid hO8
          have HD8 := Lib.hid hd8
          clear hd8 hO8 hk8
          have HUP := Lib.hid (up_any HD8.out)
          go_wp2_with fail
          refine HUP.out.mono ?_
          rintro e wa ⟨rfl, hn9⟩
          have HS9 := Lib.hid (DskNow.after HK8.out HO8.out hn9)
          clear hn9
          obtain ⟨⟨O9, hd9, hO9⟩, hk9⟩ := HS9.out
          have HK9 := Lib.hid hk9
          have HO9 := Lib.hid hO9
          have HD9 := Lib.hid hd9
          clear hd9 hO9 hk9
          have e1 := HCE.out _ HK9.out
          by_cases hc0 : 0 ≤ c
          · have HCT := Lib.hid (cut_any HD9.out c HCB.out)
            have hcut : (⟨si.l, si.raws, -1⟩ : Disk.S).cut c = (0, ⟨si.l, si.raws, c⟩) := by
              unfold Disk.S.cut
              rw [if_neg (show ¬ (-1 : Int) = 0 by decide), if_neg (by omega)]
            rw [hcut] at HCT
            clear hcut
            go_wp2_with fail
            refine HCT.out.mono ?_
            rintro e wb ⟨rfl, hnb⟩
            have HS10 := Lib.hid (DskNow.after HK9.out HO9.out hnb)
            clear hnb e1
            obtain ⟨⟨O10, hd10, hO10⟩, hk10⟩ := HS10.out
            have HK10 := Lib.hid hk10
            have HO10 := Lib.hid hO10
            have HD10 := Lib.hid hd10
            clear hd10 hO10 hk10
            have HRC := Lib.hid (recover_any (M := 524288) HD10.out (HE1.out _ HK10.out) HG.out (by omega) (HQT.out _ HQI.out).1 (HQT.out _ HQI.out).2)
            unfold JPost at HRC
            have HRF := Lib.hid (HQR.out ⟨si.l, si.raws, c⟩ HQI.out)
            obtain ⟨r, hr⟩ : ∃ r, r = (⟨si.l, si.raws, c⟩ : Disk.S).recover parseJ := ⟨_, rfl⟩
            rw [← hr] at HRC HRF
            clear hr
            obtain ⟨rc, sx⟩ := r
            dsimp only at HRC HRF
            go_wp2_with fail
            refine HRC.out.mono ?_
            rintro e wx ⟨rfl, hnx⟩
            have HSX := Lib.hid (DskNow.after HK10.out HO10.out hnx)
            clear hnx
            have hrc2 := HRF.out.1
            rcases hrc2 with rfl | rfl
            all_goals
              go_wp2
              go_roundw
              case rel => exact ⟨i + 1, n + 524288 + 3, sx, by go_num, by omega, by omega, by omega, HSX.out, HRF.out.2.1⟩
              case measure => simp [intOf]; omega
          · have HDX := HD9
            have HRC := Lib.hid (recover_any (M := 524288) HD9.out (HE1.out _ HK9.out) HG.out (by omega) (HQT.out _ HQI.out).1 (HQT.out _ HQI.out).2)
            unfold JPost at HRC
            have HRF := Lib.hid (HQR.out ⟨si.l, si.raws, -1⟩ HQI.out)
            obtain ⟨r, hr⟩ : ∃ r, r = (⟨si.l, si.raws, -1⟩ : Disk.S).recover parseJ := ⟨_, rfl⟩
            rw [← hr] at HRC HRF
            clear hr
            obtain ⟨rc, sx⟩ := r
            dsimp only at HRC HRF
            go_wp2_with fail
            refine HRC.out.mono ?_
            rintro e wx ⟨rfl, hnx⟩
            have HSX := Lib.hid (DskNow.after HK9.out HO9.out hnx)
            clear hnx
            have hrc2 := HRF.out.1
            rcases hrc2 with rfl | rfl
            all_goals
              go_wp2
              go_roundw
              case rel => exact ⟨i + 1, n + 524288 + 3, sx, by go_num, by omega, by omega, by omega, HSX.out, HRF.out.2.1⟩
              case measure => simp [intOf]; omega
        · have hiI : ¬ (i : Int) < (C : Int) := by omega
          obtain ⟨⟨O8, hd8, hO8⟩, hk8⟩ := HS8.out
          have HK8 := Lib.hid hk8
          have HO8 := Lib.hid hO8
          have HD8 := Lib.hid hd8
          clear hd8 hO8 hk8
          have HUP := Lib.hid (up_any HD8.out)
          go_wp2_with fail
          refine HUP.out.mono ?_
          rintro e wz0 ⟨rfl, hn9⟩
          have HS9 := Lib.hid (DskNow.after HK8.out HO8.out hn9)
          clear hn9
          obtain ⟨⟨O9, hd9, hO9⟩, hk9⟩ := HS9.out
          have HK9 := Lib.hid hk9
          have HO9 := Lib.hid hO9
          have HD9 := Lib.hid hd9
          clear hd9 hO9 hk9
          have HRC := Lib.hid (recover_any (M := 524288) HD9.out (HE1.out _ HK9.out) HG.out (by omega) (HQT.out _ HQI.out).1 (HQT.out _ HQI.out).2)
          unfold JPost at HRC
          have HRF := Lib.hid (HQR.out ⟨si.l, si.raws, -1⟩ HQI.out)
          obtain ⟨r, hr⟩ : ∃ r, r = (⟨si.l, si.raws, -1⟩ : Disk.S).recover parseJ := ⟨_, rfl⟩
          rw [← hr] at HRC HRF
          clear hr
          obtain ⟨rc, sx⟩ := r
          dsimp only at HRC HRF
          go_wp2_with fail
          refine HRC.out.mono ?_
          rintro e wy ⟨rfl, hnx⟩
          have HSX := Lib.hid (DskNow.after HK9.out HO9.out hnx)
          clear hnx
          obtain ⟨e0, HFINe⟩ := HRF.out.2.2 (by trivial)
          subst e0
          have HFIN := Lib.hid HFINe
          clear HFINe
          obtain ⟨⟨OW, hdw, hOW⟩, hkw⟩ := HSX.out
          have HOW := Lib.hid hOW
          have HKI : Hid (Calls Tryz.prog 11 #[.pointer (some ⟨sd, 0, none⟩), .string ⟨#[47, 106, 111, 117, 114, 110, 97, 108]⟩] wy fun e w' => e = .returned (.int .i64 0) ∧ Below wy.heap.size wy w') := Lib.hid (by
            have h := Dsk.kind hdw Disk.jA (by decide)
            rw [HFIN.out, HFK.out] at h
            exact h)
          have HDY := Lib.hid hdw
          have HKY := Lib.hid hkw
          clear hdw hOW hkw
          go_wp2_with fail
          refine HKI.out.mono ?_
          rintro e wz ⟨rfl, hbz⟩
          have HDW := Lib.hid (HDY.out.below hbz)
          have HKW := Lib.hid (HKY.out.then_below hbz)
          have HBEL : Hid (wz = wz) := Lib.hid rfl
          clear hbz
          by_cases hr3 : R0 < 3
          · have HFA : Hid (fin = a) := Lib.hid (by rw [HFD.out, if_pos hr3])
            have h3 : ¬ (3 : Int) ≤ (R0 : Int) := by omega
            have HOFN : Hid (FilesOff wz OW rd (fls fin)) := Lib.hid (by rw [HFA.out]; exact HOFA.out.keeps HKW.out HOW.out)
            clear hr3
            obtain ⟨wo, hwo⟩ : ∃ x, x = wz := ⟨wz, rfl⟩
            rw [← hwo] at HDW HKW HOFN HBEL ⊢
            clear hwo
            have HALL : Hid (∀ W, W.heap = wo.heap → W.os = wo.os → W.tape = wo.tape → W.output = wo.output → Calls Tryz.prog 15 #[.pointer (some ⟨sd, 0, none⟩)] W fun e w' => ∃ v, e = .returned v ∧ FRow w' wo.heap.size v (fls fin) ∧ Below wo.heap.size wo w') := Lib.hid (fun W hW h1 h2 h3 => by
              have hb : Below wo.heap.size wo W := ⟨h1, h2, h3, by rw [hW]; exact Nat.le_refl _, fun k _ => by rw [hW]⟩
              have h := Dsk.all (HDW.out.below hb) (by rw [HFIN.out]; exact HFL.out)
              rw [HFIN.out, hW] at h
              exact h.mono fun e w' ⟨v, h4, h5, h6⟩ => ⟨v, h4, h5, hb.trans (by rw [← hW]; rw [← hW] at h6; exact h6)⟩)
            obtain ⟨lv, ⟨hrdl, _⟩, hc0, hfat⟩ := HOFN.out
            have HLI := Lib.hid hfat.files
            obtain ⟨av, cv, hlv, _⟩ := id hfat
            subst hlv
            clear hfat HOFN
            go_wp2
            go_region_held3 (fun w' => w'.cell? ⟨rd, 0, none⟩ = some (.slice av (fls fin).length cv)) (first | exact hc0 | exact hc1) (first
              | (go_at_call 15; refine (HALL.out wo.drew rfl rfl rfl rfl).mono ?_; rintro e w7 ⟨v7, rfl, hr7, hb7⟩; have hc1 := (hb7.cell (p := ⟨rd, 0, none⟩) hrdl).trans hc0; have HC7 := Lib.hid (files_any hr7.files ((HLI.out.below hb7 (Nat.le_refl _)).mono hb7.size) (by rw [fls_length]; exact Nat.le_trans HFL.out (by decide))); have HB7 := Lib.hid hb7; clear hr7 hb7)
              | (go_at_call 16; refine HC7.out.mono ?_; rintro e w8 ⟨rfl, m8, rfl⟩))
            all_goals
              have HB8 := Lib.hid (bdrew HB7.out m8)
              obtain ⟨w8, hw8⟩ : ∃ x, x = w7.drewN m8 := ⟨_, rfl⟩
              rw [← hw8] at HB8 ⊢
              clear hw8
              have HLV := Lib.hid (lives18_any w8 (HE1.out _ (HKW.out.then_below HB8.out)))
              go_wp2_with fail
              refine HLV.out.mono ?_
              rintro e wl ⟨rfl, hbl⟩
              have HBL := Lib.hid (HEND2.out _ (HKW.out.then_below (HB8.out.trans (hbl.mono HB8.out.size))))
              clear hbl
              go_wp2
              go_returns
              exact ⟨rfl, HBL.out⟩
          · have HFA : Hid (fin = b) := Lib.hid (by rw [HFD.out, if_neg hr3])
            have h3 : (3 : Int) ≤ (R0 : Int) := by omega
            have HOFN : Hid (FilesOff wz OW rd (fls a)) := Lib.hid (HOFA.out.keeps HKW.out HOW.out)
            have HOFM : Hid (FilesOff wz OW rd2 (fls fin)) := Lib.hid (by rw [HFA.out]; exact HOFB.out.keeps HKW.out HOW.out)
            clear hr3
            obtain ⟨wo, hwo⟩ : ∃ x, x = wz := ⟨wz, rfl⟩
            rw [← hwo] at HDW HKW HOFN HOFM HBEL ⊢
            clear hwo
            have HALL : Hid (∀ W, W.heap = wo.heap → W.os = wo.os → W.tape = wo.tape → W.output = wo.output → Calls Tryz.prog 15 #[.pointer (some ⟨sd, 0, none⟩)] W fun e w' => ∃ v, e = .returned v ∧ FRow w' wo.heap.size v (fls fin) ∧ Below wo.heap.size wo w') := Lib.hid (fun W hW h1 h2 h3 => by
              have hb : Below wo.heap.size wo W := ⟨h1, h2, h3, by rw [hW]; exact Nat.le_refl _, fun k _ => by rw [hW]⟩
              have h := Dsk.all (HDW.out.below hb) (by rw [HFIN.out]; exact HFL.out)
              rw [HFIN.out, hW] at h
              exact h.mono fun e w' ⟨v, h4, h5, h6⟩ => ⟨v, h4, h5, hb.trans (by rw [← hW]; rw [← hW] at h6; exact h6)⟩)
            obtain ⟨lv, ⟨hrdl, _⟩, hc0, hfat⟩ := HOFN.out
            have HLI := Lib.hid hfat.files
            obtain ⟨av, cv, hlv, _⟩ := id hfat
            subst hlv
            clear hfat HOFN
            go_wp2
            go_region_held3 (fun w' => w'.cell? ⟨rd, 0, none⟩ = some (.slice av (fls a).length cv)) (first | exact hc0 | exact hc1) (first
              | (go_at_call 15; refine (HALL.out wo.drew rfl rfl rfl rfl).mono ?_; rintro e w7 ⟨v7, rfl, hr7, hb7⟩; have hc1 := (hb7.cell (p := ⟨rd, 0, none⟩) hrdl).trans hc0; have HC7 := Lib.hid (files_bool hr7.files ((HLI.out.below hb7 (Nat.le_refl _)).mono hb7.size) (by rw [fls_length]; exact Nat.le_trans HFL.out (by decide)) (by rw [fls_length]; exact Nat.le_trans HAL.out (by decide))); have HB7 := Lib.hid hb7; clear hr7 hb7)
              | (go_at_call 16; refine HC7.out.mono ?_; rintro e w8 ⟨b8, rfl, m8, rfl⟩))
            all_goals
              have HB8 := Lib.hid (bdrew HB7.out m8)
              obtain ⟨w8, hw8⟩ : ∃ x, x = w7.drewN m8 := ⟨_, rfl⟩
              rw [← hw8] at HB8 ⊢
              clear hw8
              have HDW2 := Lib.hid (HDW.out.below HB8.out)
              have HKW2 := Lib.hid (HKW.out.then_below HB8.out)
              have HOFN : Hid (FilesOff w8 OW rd2 (fls fin)) := Lib.hid (HOFM.out.keeps (Keeps.of_below HB8.out) (fun k h => Or.inl h))
              clear HDW HKW HALL HLI HC7 hc0 hrdl HB7 HB8 HOFM
              have HDW := HDW2
              have HKW := HKW2
              clear HDW2 HKW2
              obtain ⟨wp, hwp⟩ : ∃ x, x = w8 := ⟨w8, rfl⟩
              rw [← hwp] at HDW HKW HOFN ⊢
              clear hwp
              have HALL : Hid (∀ W, W.heap = wp.heap → W.os = wp.os → W.tape = wp.tape → W.output = wp.output → Calls Tryz.prog 15 #[.pointer (some ⟨sd, 0, none⟩)] W fun e w' => ∃ v, e = .returned v ∧ FRow w' wp.heap.size v (fls fin) ∧ Below wp.heap.size wp w') := Lib.hid (fun W hW h1 h2 h3 => by
                have hb : Below wp.heap.size wp W := ⟨h1, h2, h3, by rw [hW]; exact Nat.le_refl _, fun k _ => by rw [hW]⟩
                have h := Dsk.all (HDW.out.below hb) (by rw [HFIN.out]; exact HFL.out)
                rw [HFIN.out, hW] at h
                exact h.mono fun e w' ⟨v, h4, h5, h6⟩ => ⟨v, h4, h5, hb.trans (by rw [← hW]; rw [← hW] at h6; exact h6)⟩)
              obtain ⟨lv, ⟨hrdl, _⟩, hc0, hfat⟩ := HOFN.out
              have HLI := Lib.hid hfat.files
              obtain ⟨av, cv, hlv, _⟩ := id hfat
              subst hlv
              clear hfat HOFN
              go_wp2
              go_region_held3 (fun w' => w'.cell? ⟨rd2, 0, none⟩ = some (.slice av (fls fin).length cv)) (first | exact hc0 | exact hc1) (first
                | (go_at_call 15; refine (HALL.out wp.drew rfl rfl rfl rfl).mono ?_; rintro e x7 ⟨v7, rfl, hr7, hb7⟩; have hc1 := (hb7.cell (p := ⟨rd2, 0, none⟩) hrdl).trans hc0; have HC7 := Lib.hid (files_any hr7.files ((HLI.out.below hb7 (Nat.le_refl _)).mono hb7.size) (by rw [fls_length]; exact Nat.le_trans HFL.out (by decide))); have HB7 := Lib.hid hb7; clear hr7 hb7)
                | (go_at_call 16; refine HC7.out.mono ?_; rintro e x8 ⟨rfl, m8, rfl⟩))
              all_goals
                have HB8 := Lib.hid (bdrew HB7.out m8)
                obtain ⟨x8, hw8⟩ : ∃ x, x = x7.drewN m8 := ⟨_, rfl⟩
                rw [← hw8] at HB8 ⊢
                clear hw8
                have HLV := Lib.hid (lives18_any x8 (HE1.out _ (HKW.out.then_below HB8.out)))
                go_wp2_with fail
                refine HLV.out.mono ?_
                rintro e wl ⟨rfl, hbl⟩
                have HBL := Lib.hid (HEND2.out _ (HKW.out.then_below (HB8.out.trans (hbl.mono HB8.out.size))))
                clear hbl
                go_wp2
                go_returns
                exact ⟨rfl, HBL.out⟩
end Go.Proofs.YtdogacgpfnolfaaGreatDoor
