/- JournalStill: the walk. -/
import Derived.Test.YtdogacgpfnolfaaGreatDoorJrB
namespace Go.Proofs.YtdogacgpfnolfaaGreatDoor
open Go.RowKit Go.Maps
set_option linter.unusedSimpArgs false
set_option linter.unusedVariables false
theorem free_jp' (p : List UInt8) : PL.Plan.free p = !Disk.jp p := by
  show (!decide (p = Disk.jA) && !(Disk.jA ++ [47]).isPrefixOf p) = !(decide (p = Disk.jA) || (Disk.jA ++ [47]).isPrefixOf p)
  rw [Bool.not_or]
/-- What a recovery reads is a plan of bounded size. -/
theorem recT {m : Disk.M} {ds : List PL.Plan.D} (hok : PL.Plan.ok ds = true ∨ ds = []) (hm : ds.length ≤ 1048576) (hsz : ∀ d ∈ ds, d.path.length ≤ 1048576 ∧ d.data.length ≤ 1048576)
    (h : Disk.LT (PL.Plan.text ds) m ∨ ∀ t, SM.look m Disk.jT = some t → t.data.length ≤ 1048576) : (Disk.readR m Disk.jT).1.length ≤ 3500000000000 ∧ (PL.Plan.parse (Disk.readR m Disk.jT).1).2.length ≤ 1048576 := by
  have small : ∀ T : List UInt8, T.length ≤ 1048576 → T.length ≤ 3500000000000 ∧ (PL.Plan.parse T).2.length ≤ 1048576 := fun T hT => ⟨by omega, Nat.le_trans (parse_len T) hT⟩
  unfold Disk.readR
  split
  · exact small _ (Nat.zero_le _)
  split
  · exact small _ (Nat.zero_le _)
  split
  · exact small _ (Nat.zero_le _)
  · rename_i h0 h1 h2
    rcases h with (h | h) | h
    · rw [h]; exact small _ (Nat.zero_le _)
    · rw [h]
      show (PL.Plan.text ds).length ≤ _ ∧ (PL.Plan.parse (PL.Plan.text ds)).2.length ≤ _
      rcases hok with hok | hok
      · have := PL.Plan.text_le hsz hm ds.length
        rw [List.take_length] at this
        rw [PL.Plan.parse_text hok]
        exact ⟨by omega, hm⟩
      · rw [hok]; exact small _ (by decide)
    · cases hl : SM.look m Disk.jT with
      | none => exact small _ (Nat.zero_le _)
      | some t => exact small _ (h t hl)
theorem canJ_ok {l : Disk.M} {ds : List PL.Plan.D} (h : canJ l ds = true) : PL.Plan.ok ds = true := by
  unfold canJ at h
  rw [Bool.and_eq_true] at h
  exact h.1
theorem ok_free {ds : List PL.Plan.D} (h : PL.Plan.ok ds = true) : ∀ d ∈ ds.map toDd, Disk.jp d.path = false := fun d hd => by
  obtain ⟨x, hx, rfl⟩ := List.mem_map.1 hd
  have := (PL.Plan.ok_all h x hx).2.2.2.2
  rw [free_jp'] at this
  show Disk.jp x.path = false
  simpa using this
theorem parse_free (T : List UInt8) (ds : List Disk.Dd) (h : parseJ T = (0, ds)) : ∀ d ∈ ds, Disk.jp d.path = false := by
  unfold parseJ at h
  have h1 : (PL.Plan.parse T).1 = 0 := congrArg (·.1) h
  have h2 : (PL.Plan.parse T).2.map toDd = ds := congrArg (·.2) h
  rw [← h2]
  exact ok_free (PL.Plan.text_parse (T := T) (ds := (PL.Plan.parse T).2) (by rw [← h1])).2
/-- Behind a commit: what a recovery will read. -/
theorem commit_T {l : Disk.M} {ds : List PL.Plan.D} {s1 : Disk.S} (hh : Disk.Hung l) (h1 : s1.l = l) (h2 : s1.raws = []) (hm : ds.length ≤ 1048576) (hsz : ∀ d ∈ ds, d.path.length ≤ 1048576 ∧ d.data.length ≤ 1048576) (hl : ∀ p t, SM.look l p = some t → t.data.length ≤ 1048576) :
    (Disk.readR (s1.commit (canJ l ds) (PL.Plan.text ds) (ds.map toDd)).2.l Disk.jT).1.length ≤ 3500000000000 ∧ (PL.Plan.parse (Disk.readR (s1.commit (canJ l ds) (PL.Plan.text ds) (ds.map toDd)).2.l Disk.jT).1).2.length ≤ 1048576 := by
  rcases Disk.commit_quiet (P := fun _ => True) (ok := canJ l ds) (X := PL.Plan.text ds) (s := s1) (ds := ds.map toDd) (by rw [h1]; exact hh) h2 (fun h => ok_free (canJ_ok h)) (fun _ _ => trivial) trivial trivial trivial with h | ⟨_, hok, _, h⟩
  · rw [h, h1]
    exact recT (ds := []) (Or.inr rfl) (Nat.zero_le _) (fun d hd => by simp at hd) (Or.inr (hl _))
  · exact recT (Or.inl (canJ_ok hok)) hm hsz (Or.inl h)
theorem load_data {fs : List Disk.Fl} {l : Disk.M} (h : Disk.load fs = some l) (hsz : ∀ f ∈ fs, f.path.length ≤ 1048576 ∧ f.data.length ≤ 1048576) : ∀ p t, SM.look l p = some t → t.data.length ≤ 1048576 := fun p t hp => by
  unfold Disk.load at h
  cases hf : Disk.fill [] fs with
  | none => rw [hf] at h; exact absurd h (by simp)
  | some m =>
    rw [hf] at h
    dsimp only at h
    split at h
    · cases h
      rcases (Disk.fill_look hf).1 p t hp with hh | ⟨f, hf2, _, rfl⟩
      · simp [SM.look_nil] at hh
      · exact (hsz f hf2).2
    · exact absurd h (by simp)
set_option maxHeartbeats 8000000 in
set_option maxRecDepth 100000 in
theorem journal_still_law {w : World} {v u : Value} {fs : List Disk.Fl} {ds : List PL.Plan.D} (hf : Files w w.heap.size v fs) (hd : PL.Deeds w w.heap.size u ds) (hE : Env w) (hn : fs.length ≤ 1048576) (hm : ds.length ≤ 1048576) (hsf : ∀ f ∈ fs, f.path.length ≤ 1048576 ∧ f.data.length ≤ 1048576) (hsz : ∀ d ∈ ds, d.path.length ≤ 1048576 ∧ d.data.length ≤ 1048576) (k : Int) (hk : k ≤ 9223372036854775807) :
    Calls Tryz.prog 4 #[v, u, .int .i64 k] w fun e w' => e = .returned (.bool true) ∧ Below w.heap.size w w' := by
  obtain ⟨a2, c2, rfl⟩ := hd.form
  obtain ⟨N, hN⟩ : ∃ N, N = ds.length := ⟨_, rfl⟩
  have HDS := Lib.hid (disks_any hf (Nat.le_refl _) hE hn hsf)
  have HE := Lib.hid hE
  have HG := Lib.hid (gMax_lt hE)
  have HDD := Lib.hid hd
  have HSZ := Lib.hid hsz
  have HSF := Lib.hid hsf
  unfold DisksPost at HDS
  rw [← hN] at hm HDD ⊢
  have HN := Lib.hid hN
  clear hf hd hE hn hsf hsz hN
  cases hl : Disk.load fs with
  | none =>
    rw [hl] at HDS
    clear hl
    go_enter Tryz.func4, Tryz.ntmps4
    go_wp2_with fail
    refine HDS.out.mono ?_
    rintro e w1 ⟨rfl, hb1⟩
    have HB1 := Lib.hid hb1
    have HLV := Lib.hid (lives18_any w1 (HE.out.below hb1 (Nat.le_refl _)))
    clear hb1
    go_wp2_with fail
    refine HLV.out.mono ?_
    rintro e w2 ⟨rfl, hb2⟩
    have HB2 := Lib.hid (HB1.out.trans (hb2.mono HB1.out.size))
    clear hb2
    go_wp2
    go_returns
    exact ⟨rfl, HB2.out⟩
  | some l =>
    have HHU : Hid (Disk.Hung l) := Lib.hid (load_hung hl)
    have HDA := Lib.hid (load_data hl HSF.out)
    rw [hl] at HDS
    clear hl
    go_enter Tryz.func4, Tryz.ntmps4
    go_wp2_with fail
    refine HDS.out.mono ?_
    rintro e w1 ⟨⟨sd, rd, O, rfl, hd1, hf1⟩, hb1⟩
    have HB1 := Lib.hid hb1
    have HD1 := Lib.hid hd1
    have HZ1 := Lib.hid hb1.size
    have HLIM := Lib.hid (fun k hk => HD1.out.lim k hk)
    have HE1 := Lib.hid (fun (V : World) (hv : Keeps O w1 V) => env_keeps (HE.out.below HB1.out (Nat.le_refl _)) hv (fun k hk => (HLIM.out k hk).1) HG.out)
    have HOFF1 : Hid (DeedsOff w1 O (.slice a2 N c2) ds) := Lib.hid (DeedsOff.of_deeds (HDD.out.below HB1.out (Nat.le_refl _)) HB1.out.size (fun k hk => (HLIM.out k hk).1))
    have HEND : Hid (∀ (V : World) (n : Nat) (s : Disk.S), DskNow w1 V w.heap.size O sd n s → Below w.heap.size w V) := Lib.hid (fun V n s hV => HB1.out.trans (hV.keeps.to_below (fun k hk => (HLIM.out k hk).1) HZ1.out))
    clear hd1 hf1 hb1
    by_cases hk0 : 0 ≤ k
    · have HCU := Lib.hid (cut_any HD1.out k hk)
      have hcut : (loadS l).cut k = (0, ⟨l, [], k⟩) := by
        unfold Disk.S.cut
        rw [if_neg (show ¬ (loadS l).left = 0 by show ¬ (-1 : Int) = 0; decide), if_neg (by omega)]
        rfl
      rw [hcut] at HCU
      clear hcut
      go_wp2_with fail
      refine HCU.out.mono ?_
      rintro e w2 ⟨rfl, hn2⟩
      have HS2 := Lib.hid hn2
      clear hn2
      obtain ⟨⟨O2, hd2, hO2⟩, hk2⟩ := HS2.out
      have HK2 := Lib.hid hk2
      have HO2 := Lib.hid hO2
      have HD2 := Lib.hid hd2
      clear hd2 hO2 hk2
      have HCM := Lib.hid (commit_any HD2.out (HE1.out _ HK2.out) HG.out (HOFF1.out.keeps HK2.out HO2.out) HHU.out (show 1048576 + ds.length + 6 ≤ 1099511627776 by have := HN.out; omega) (by have := HN.out; omega) HSZ.out)
      unfold JPost at HCM
      have HHU3 : Hid (Disk.Hung ((⟨l, [], k⟩ : Disk.S).commit (canJ l ds) (PL.Plan.text ds) (ds.map toDd)).2.l) := Lib.hid (Disk.hung_commit HHU.out)
      have HCT := Lib.hid (commit_T (s1 := ⟨l, [], k⟩) HHU.out rfl rfl (by have := HN.out; omega) HSZ.out HDA.out)
      dsimp only at HCM
      rw [← HN.out] at HCM
      obtain ⟨r, hr⟩ : ∃ r, r = (⟨l, [], k⟩ : Disk.S).commit (canJ l ds) (PL.Plan.text ds) (ds.map toDd) := ⟨_, rfl⟩
      rw [← hr] at HCM HHU3 HCT
      clear hr
      obtain ⟨cc, s2⟩ := r
      dsimp only at HCM HHU3 HCT
      go_wp2_with fail
      refine HCM.out.mono ?_
      rintro e w3 ⟨rfl, hn3⟩
      have HS3 := Lib.hid (DskNow.after HK2.out HO2.out hn3)
      clear hn3
      obtain ⟨⟨O3, hd3, hO3⟩, hk3⟩ := HS3.out
      have HK3 := Lib.hid hk3
      have HO3 := Lib.hid hO3
      have HD3 := Lib.hid hd3
      clear hd3 hO3 hk3
      have HUP := Lib.hid (up_any HD3.out)
      go_wp2_with fail
      refine HUP.out.mono ?_
      rintro e w4 ⟨rfl, hn4⟩
      have HS4 := Lib.hid (DskNow.after HK3.out HO3.out hn4)
      clear hn4
      obtain ⟨⟨O4, hd4, hO4⟩, hk4⟩ := HS4.out
      have HK4 := Lib.hid hk4
      have HO4 := Lib.hid hO4
      have HD4 := Lib.hid hd4
      clear hd4 hO4 hk4
      have HRC := Lib.hid (recover_any (M := 1048576) HD4.out (HE1.out _ HK4.out) HG.out (by omega) HCT.out.1 HCT.out.2)
      unfold JPost at HRC
      have HFAIL := Lib.hid (Disk.recover_fails parse_free (s := ⟨s2.l, s2.raws, -1⟩) (show ¬ (-1 : Int) = 0 by decide))
      have HENDS := Lib.hid (Disk.ends_recover parse_free (s := ⟨s2.l, s2.raws, -1⟩) (show ¬ (-1 : Int) = 0 by decide))
      have HUP4 := Lib.hid (Disk.up_recover (parse := parseJ) (s := ⟨s2.l, s2.raws, -1⟩) rfl)
      have HHU4 := Lib.hid (Disk.hung_recover (parse := parseJ) (s := ⟨s2.l, s2.raws, -1⟩) HHU3.out)
      obtain ⟨r, hr⟩ : ∃ r, r = (⟨s2.l, s2.raws, -1⟩ : Disk.S).recover parseJ := ⟨_, rfl⟩
      rw [← hr] at HRC HFAIL HENDS HUP4 HHU4
      clear hr
      obtain ⟨rc, s4⟩ := r
      dsimp only at HRC HFAIL HUP4 HHU4
      have HKZ : Hid (rc = 0 → Disk.kind s4.l Disk.jA = 0) := Lib.hid HENDS.out.1
      clear HENDS
      go_wp2_with fail
      refine HRC.out.mono ?_
      rintro e w5 ⟨rfl, hn5⟩
      have HS5 := Lib.hid (DskNow.after HK4.out HO4.out hn5)
      clear hn5
      obtain ⟨⟨O5, hd5, hO5⟩, hk5⟩ := HS5.out
      have HK5 := Lib.hid hk5
      have HO5 := Lib.hid hO5
      have HD5 := Lib.hid hd5
      clear hd5 hO5 hk5
      have HKI : Hid (Calls Tryz.prog 11 #[.pointer (some ⟨sd, 0, none⟩), .string ⟨#[47, 106, 111, 117, 114, 110, 97, 108]⟩] w5 fun e w' => e = .returned (.int .i64 (Disk.kind s4.l Disk.jA)) ∧ Below w5.heap.size w5 w') := Lib.hid (Dsk.kind HD5.out Disk.jA (by decide))
      by_cases hrc : rc ≠ 0
      · have hq : (rc != 0) = true := by rw [bne, beq_eq_false_iff_ne.2 hrc]; rfl
        have hkn := HFAIL.out hrc
        have hq2 : (Disk.kind s4.l Disk.jA != 0) = true := by rw [bne, beq_eq_false_iff_ne.2 hkn]; rfl
        obtain ⟨kk, hkk⟩ : ∃ kk, kk = Disk.kind s4.l Disk.jA := ⟨_, rfl⟩
        rw [← hkk] at HKI hq2
        clear hrc hkn hkk
        go_wp2_with fail
        refine HKI.out.mono ?_
        rintro e w6 ⟨rfl, hb6⟩
        have HS6 := Lib.hid (HS5.out.then_below hb6)
        have HLV := Lib.hid (lives18_any w6 (HE1.out _ HS6.out.keeps))
        clear hb6
        go_wp2_with fail
        refine HLV.out.mono ?_
        rintro e w7 ⟨rfl, hb7⟩
        have HB7 := Lib.hid (HEND.out _ _ _ (HS6.out.then_below hb7))
        clear hb7
        go_wp2
        go_returns
        exact ⟨rfl, HB7.out⟩
      have hrc0 : rc = 0 := Decidable.byContradiction fun h => hrc h
      subst hrc0
      have HK0 := Lib.hid (HKZ.out rfl)
      clear hrc HKI HFAIL HKZ
      have HCL := Lib.hid (clear_disk HD5.out)
      go_wp2_with fail
      refine HCL.out.mono ?_
      rintro e w6 ⟨rfl, hn6⟩
      have HS6 : Hid (DskNow w1 w6 w.heap.size O sd (1048576 + N + 6 + 1048576 + 3) ⟨s4.l, [], -1⟩) := Lib.hid (by
        have := DskNow.after HK5.out HO5.out hn6
        rw [HUP4.out] at this
        exact this)
      clear hn6
      obtain ⟨⟨O6, hd6, hO6⟩, hk6⟩ := HS6.out
      have HK6 := Lib.hid hk6
      have HO6 := Lib.hid hO6
      have HD6 := Lib.hid hd6
      clear hd6 hO6 hk6
      have HLEN : Hid (s4.l.length ≤ 1048576 + N + 6 + 1048576 + 3) := Lib.hid HD6.out.len
      have HAL := Lib.hid (Dsk.all HD6.out (show s4.l.length ≤ _ by have := HLEN.out; omega))
      go_wp2_with fail
      refine HAL.out.mono ?_
      rintro e w7 ⟨v7, rfl, hr7, hb7⟩
      have HS7 := Lib.hid (HS6.out.then_below hb7)
      have HD7 := Lib.hid (HD6.out.below hb7)
      have HK7 := Lib.hid HS7.out.keeps
      have HF7 : Hid (FilesAt w7 O6 v7 (fls s4.l)) := Lib.hid (FilesAt.of_row hr7 (fun k hk => (HD6.out.lim k hk).2))
      clear hr7 hb7
      have HRN : Hid ((⟨s4.l, [], -1⟩ : Disk.S).recover parseJ = (0, ⟨s4.l, [], -1⟩)) := Lib.hid (Disk.recover_none (show ¬ (-1 : Int) = 0 by decide) HK0.out)
      have HT7 : Hid ((Disk.readR s4.l Disk.jT).1.length ≤ 3500000000000 ∧ (PL.Plan.parse (Disk.readR s4.l Disk.jT).1).2.length ≤ 1048576) := Lib.hid (recT (ds := []) (Or.inr rfl) (Nat.zero_le _) (fun d hd => by simp at hd) (Or.inl (Or.inl (by
        cases hlk : SM.look s4.l Disk.jT with
        | none => rfl
        | some t =>
          exfalso
          rcases HHU4.out.housed _ t hlk with h | h
          · rw [Disk.par_T] at h; exact absurd h (by decide)
          · rw [Disk.par_T] at h
            have := HK0.out
            rw [Disk.kind_at Disk.ok_A, h] at this
            exact absurd this (by decide)))))
      have HRC7 := Lib.hid (recover_any (M := 1048576) HD7.out (HE1.out _ HK7.out) HG.out (by omega) HT7.out.1 HT7.out.2)
      unfold JPost at HRC7
      rw [HRN.out] at HRC7
      go_wp2_with fail
      refine HRC7.out.mono ?_
      rintro e w8 ⟨rfl, hn8⟩
      have HK78 := Lib.hid hn8.keeps
      obtain ⟨⟨O8, hd8, hO8⟩, _⟩ := hn8
      have HD8 := Lib.hid hd8
      have HO8 := Lib.hid hO8
      have HF8 := Lib.hid (HF7.out.keeps HK78.out hO8)
      have HK8 := Lib.hid (HK7.out.trans HK78.out (fun k hk => by
        rcases HO6.out k hk with h | h
        · exact Or.inl h
        · exact Or.inr h))
      clear hd8 hO8
      have HCE : Hid ((⟨s4.l, [], -1⟩ : Disk.S).commit (canJ s4.l []) (PL.Plan.text []) (List.map toDd []) = (0, ⟨s4.l, [], -1⟩)) := Lib.hid (by
        unfold Disk.S.commit
        rw [if_neg (show ¬ (-1 : Int) = 0 by decide), if_neg (fun h => h HK0.out), if_neg (by show ¬ (!true) = true; decide), if_pos (show List.map toDd ([] : List PL.Plan.D) = [] from rfl)])
      have HCM8 := Lib.hid (commit_any (v := .slice none 0 0) (ds := []) HD8.out (HE1.out _ HK8.out) HG.out ⟨none, 0, rfl, fun i d hd => by simp at hd⟩ HHU4.out (show _ + 0 + 6 ≤ 1099511627776 by omega) (by decide) (fun d hd => by simp at hd))
      unfold JPost at HCM8
      rw [HCE.out] at HCM8
      go_wp2_with fail
      refine HCM8.out.mono ?_
      rintro e w9 ⟨rfl, hn9⟩
      have HK89 := Lib.hid hn9.keeps
      obtain ⟨⟨O9, hd9, hO9⟩, _⟩ := hn9
      have HD9 := Lib.hid hd9
      have HF9 := Lib.hid (HF8.out.keeps HK89.out hO9)
      have HK9 : Hid (Keeps O w1 w9) := Lib.hid (HK8.out.trans HK89.out (fun k hk => by
        rcases HO8.out k hk with h | h
        · rcases HO6.out k h with h | h
          · exact Or.inl h
          · exact Or.inr h
        · exact Or.inr (Nat.le_trans HK7.out.size h)))
      clear hd9 hO9
      have HAL9 := Lib.hid (Dsk.all HD9.out (show s4.l.length ≤ _ by have := HLEN.out; omega))
      go_wp2_with fail
      refine HAL9.out.mono ?_
      rintro e w10 ⟨v10, rfl, hr10, hb10⟩
      have HB10 := Lib.hid hb10
      have HFF := Lib.hid (files_any hr10.files ((HF9.out.keeps (O1 := O9) (Keeps.of_below hb10) (fun k h => Or.inl h)).files) (by rw [fls_length]; show s4.l.length ≤ _; have := HLEN.out; omega))
      have HD10 := Lib.hid (HD9.out.below hb10)
      clear hr10 hb10
      go_wp2_with fail
      refine HFF.out.mono ?_
      rintro e w11 ⟨rfl, m, rfl⟩
      have HBD : Hid (Below w10.heap.size w10 (w10.drewN m)) := Lib.hid ⟨rfl, rfl, rfl, Nat.le_refl _, fun _ _ => rfl⟩
      have HD11 := Lib.hid (HD10.out.below HBD.out)
      have HRW := Lib.hid (Dsk.raws HD11.out (by simp only [List.length_nil]; omega))
      go_wp2_with fail
      refine HRW.out.mono ?_
      rintro e w12 ⟨v12, rfl, hr12, hb12⟩
      obtain ⟨a12, c12, rfl⟩ := own_form hr12
      have HB12 := Lib.hid (HB10.out.trans ((HBD.out.trans hb12).mono HB10.out.size))
      have HKI : Hid (Calls Tryz.prog 11 #[.pointer (some ⟨sd, 0, none⟩), .string ⟨#[47, 106, 111, 117, 114, 110, 97, 108]⟩] w12 fun e w' => e = .returned (.int .i64 (Disk.kind s4.l Disk.jA)) ∧ Below w12.heap.size w12 w') := Lib.hid (Dsk.kind (HD11.out.below hb12) Disk.jA (by decide))
      rw [HK0.out] at HKI
      clear hr12 hb12
      dsimp only [List.length_nil]
      go_wp2_with fail
      refine HKI.out.mono ?_
      rintro e w13 ⟨rfl, hb13⟩
      have HB13 := Lib.hid (HB12.out.trans (hb13.mono HB12.out.size))
      have HK13 := Lib.hid (HK9.out.then_below HB13.out)
      have HLV := Lib.hid (lives18_any w13 (HE1.out _ HK13.out))
      clear hb13
      go_wp2_with fail
      refine HLV.out.mono ?_
      rintro e w14 ⟨rfl, hb14⟩
      have HB14 : Hid (Below w.heap.size w w14) := Lib.hid (HB1.out.trans ((HK13.out.then_below hb14).to_below (fun k hk => (HLIM.out k hk).1) HZ1.out))
      clear hb14
      go_wp2
      go_returns
      exact ⟨rfl, HB14.out⟩
    · have HS2 : Hid (DskNow w1 w1 w.heap.size O sd 1048576 ⟨l, [], -1⟩) := Lib.hid (DskNow.of_below HD1.out (Below.refl _ _))
      obtain ⟨w2, hw2⟩ : ∃ x, x = w1 := ⟨w1, rfl⟩
      have HS2 : Hid (DskNow w1 w2 w.heap.size O sd 1048576 ⟨l, [], -1⟩) := Lib.hid (by rw [hw2]; exact HS2.out)
      obtain ⟨⟨O2, hd2, hO2⟩, hk2⟩ := HS2.out
      have HK2 := Lib.hid hk2
      have HO2 := Lib.hid hO2
      have HD2 := Lib.hid hd2
      clear hd2 hO2 hk2
      have HCM := Lib.hid (commit_any HD2.out (HE1.out _ HK2.out) HG.out (HOFF1.out.keeps HK2.out HO2.out) HHU.out (show 1048576 + ds.length + 6 ≤ 1099511627776 by have := HN.out; omega) (by have := HN.out; omega) HSZ.out)
      unfold JPost at HCM
      have HHU3 : Hid (Disk.Hung ((⟨l, [], -1⟩ : Disk.S).commit (canJ l ds) (PL.Plan.text ds) (ds.map toDd)).2.l) := Lib.hid (Disk.hung_commit HHU.out)
      have HCT := Lib.hid (commit_T (s1 := ⟨l, [], -1⟩) HHU.out rfl rfl (by have := HN.out; omega) HSZ.out HDA.out)
      dsimp only at HCM
      rw [← HN.out] at HCM
      obtain ⟨r, hr⟩ : ∃ r, r = (⟨l, [], -1⟩ : Disk.S).commit (canJ l ds) (PL.Plan.text ds) (ds.map toDd) := ⟨_, rfl⟩
      rw [← hr] at HCM HHU3 HCT
      clear hr
      obtain ⟨cc, s2⟩ := r
      dsimp only at HCM HHU3 HCT
      go_wp2_with fail
      try rw [← hw2]
      refine HCM.out.mono ?_
      rintro e w3 ⟨rfl, hn3⟩
      have HS3 := Lib.hid (DskNow.after HK2.out HO2.out hn3)
      clear hn3
      obtain ⟨⟨O3, hd3, hO3⟩, hk3⟩ := HS3.out
      have HK3 := Lib.hid hk3
      have HO3 := Lib.hid hO3
      have HD3 := Lib.hid hd3
      clear hd3 hO3 hk3
      have HUP := Lib.hid (up_any HD3.out)
      go_wp2_with fail
      refine HUP.out.mono ?_
      rintro e w4 ⟨rfl, hn4⟩
      have HS4 := Lib.hid (DskNow.after HK3.out HO3.out hn4)
      clear hn4
      obtain ⟨⟨O4, hd4, hO4⟩, hk4⟩ := HS4.out
      have HK4 := Lib.hid hk4
      have HO4 := Lib.hid hO4
      have HD4 := Lib.hid hd4
      clear hd4 hO4 hk4
      have HRC := Lib.hid (recover_any (M := 1048576) HD4.out (HE1.out _ HK4.out) HG.out (by omega) HCT.out.1 HCT.out.2)
      unfold JPost at HRC
      have HFAIL := Lib.hid (Disk.recover_fails parse_free (s := ⟨s2.l, s2.raws, -1⟩) (show ¬ (-1 : Int) = 0 by decide))
      have HENDS := Lib.hid (Disk.ends_recover parse_free (s := ⟨s2.l, s2.raws, -1⟩) (show ¬ (-1 : Int) = 0 by decide))
      have HUP4 := Lib.hid (Disk.up_recover (parse := parseJ) (s := ⟨s2.l, s2.raws, -1⟩) rfl)
      have HHU4 := Lib.hid (Disk.hung_recover (parse := parseJ) (s := ⟨s2.l, s2.raws, -1⟩) HHU3.out)
      obtain ⟨r, hr⟩ : ∃ r, r = (⟨s2.l, s2.raws, -1⟩ : Disk.S).recover parseJ := ⟨_, rfl⟩
      rw [← hr] at HRC HFAIL HENDS HUP4 HHU4
      clear hr
      obtain ⟨rc, s4⟩ := r
      dsimp only at HRC HFAIL HUP4 HHU4
      have HKZ : Hid (rc = 0 → Disk.kind s4.l Disk.jA = 0) := Lib.hid HENDS.out.1
      clear HENDS
      go_wp2_with fail
      refine HRC.out.mono ?_
      rintro e w5 ⟨rfl, hn5⟩
      have HS5 := Lib.hid (DskNow.after HK4.out HO4.out hn5)
      clear hn5
      obtain ⟨⟨O5, hd5, hO5⟩, hk5⟩ := HS5.out
      have HK5 := Lib.hid hk5
      have HO5 := Lib.hid hO5
      have HD5 := Lib.hid hd5
      clear hd5 hO5 hk5
      have HKI : Hid (Calls Tryz.prog 11 #[.pointer (some ⟨sd, 0, none⟩), .string ⟨#[47, 106, 111, 117, 114, 110, 97, 108]⟩] w5 fun e w' => e = .returned (.int .i64 (Disk.kind s4.l Disk.jA)) ∧ Below w5.heap.size w5 w') := Lib.hid (Dsk.kind HD5.out Disk.jA (by decide))
      by_cases hrc : rc ≠ 0
      · have hq : (rc != 0) = true := by rw [bne, beq_eq_false_iff_ne.2 hrc]; rfl
        have hkn := HFAIL.out hrc
        have hq2 : (Disk.kind s4.l Disk.jA != 0) = true := by rw [bne, beq_eq_false_iff_ne.2 hkn]; rfl
        obtain ⟨kk, hkk⟩ : ∃ kk, kk = Disk.kind s4.l Disk.jA := ⟨_, rfl⟩
        rw [← hkk] at HKI hq2
        clear hrc hkn hkk
        go_wp2_with fail
        refine HKI.out.mono ?_
        rintro e w6 ⟨rfl, hb6⟩
        have HS6 := Lib.hid (HS5.out.then_below hb6)
        have HLV := Lib.hid (lives18_any w6 (HE1.out _ HS6.out.keeps))
        clear hb6
        go_wp2_with fail
        refine HLV.out.mono ?_
        rintro e w7 ⟨rfl, hb7⟩
        have HB7 := Lib.hid (HEND.out _ _ _ (HS6.out.then_below hb7))
        clear hb7
        go_wp2
        go_returns
        exact ⟨rfl, HB7.out⟩
      have hrc0 : rc = 0 := Decidable.byContradiction fun h => hrc h
      subst hrc0
      have HK0 := Lib.hid (HKZ.out rfl)
      clear hrc HKI HFAIL HKZ
      have HCL := Lib.hid (clear_disk HD5.out)
      go_wp2_with fail
      refine HCL.out.mono ?_
      rintro e w6 ⟨rfl, hn6⟩
      have HS6 : Hid (DskNow w1 w6 w.heap.size O sd (1048576 + N + 6 + 1048576 + 3) ⟨s4.l, [], -1⟩) := Lib.hid (by
        have := DskNow.after HK5.out HO5.out hn6
        rw [HUP4.out] at this
        exact this)
      clear hn6
      obtain ⟨⟨O6, hd6, hO6⟩, hk6⟩ := HS6.out
      have HK6 := Lib.hid hk6
      have HO6 := Lib.hid hO6
      have HD6 := Lib.hid hd6
      clear hd6 hO6 hk6
      have HLEN : Hid (s4.l.length ≤ 1048576 + N + 6 + 1048576 + 3) := Lib.hid HD6.out.len
      have HAL := Lib.hid (Dsk.all HD6.out (show s4.l.length ≤ _ by have := HLEN.out; omega))
      go_wp2_with fail
      refine HAL.out.mono ?_
      rintro e w7 ⟨v7, rfl, hr7, hb7⟩
      have HS7 := Lib.hid (HS6.out.then_below hb7)
      have HD7 := Lib.hid (HD6.out.below hb7)
      have HK7 := Lib.hid HS7.out.keeps
      have HF7 : Hid (FilesAt w7 O6 v7 (fls s4.l)) := Lib.hid (FilesAt.of_row hr7 (fun k hk => (HD6.out.lim k hk).2))
      clear hr7 hb7
      have HRN : Hid ((⟨s4.l, [], -1⟩ : Disk.S).recover parseJ = (0, ⟨s4.l, [], -1⟩)) := Lib.hid (Disk.recover_none (show ¬ (-1 : Int) = 0 by decide) HK0.out)
      have HT7 : Hid ((Disk.readR s4.l Disk.jT).1.length ≤ 3500000000000 ∧ (PL.Plan.parse (Disk.readR s4.l Disk.jT).1).2.length ≤ 1048576) := Lib.hid (recT (ds := []) (Or.inr rfl) (Nat.zero_le _) (fun d hd => by simp at hd) (Or.inl (Or.inl (by
        cases hlk : SM.look s4.l Disk.jT with
        | none => rfl
        | some t =>
          exfalso
          rcases HHU4.out.housed _ t hlk with h | h
          · rw [Disk.par_T] at h; exact absurd h (by decide)
          · rw [Disk.par_T] at h
            have := HK0.out
            rw [Disk.kind_at Disk.ok_A, h] at this
            exact absurd this (by decide)))))
      have HRC7 := Lib.hid (recover_any (M := 1048576) HD7.out (HE1.out _ HK7.out) HG.out (by omega) HT7.out.1 HT7.out.2)
      unfold JPost at HRC7
      rw [HRN.out] at HRC7
      go_wp2_with fail
      refine HRC7.out.mono ?_
      rintro e w8 ⟨rfl, hn8⟩
      have HK78 := Lib.hid hn8.keeps
      obtain ⟨⟨O8, hd8, hO8⟩, _⟩ := hn8
      have HD8 := Lib.hid hd8
      have HO8 := Lib.hid hO8
      have HF8 := Lib.hid (HF7.out.keeps HK78.out hO8)
      have HK8 := Lib.hid (HK7.out.trans HK78.out (fun k hk => by
        rcases HO6.out k hk with h | h
        · exact Or.inl h
        · exact Or.inr h))
      clear hd8 hO8
      have HCE : Hid ((⟨s4.l, [], -1⟩ : Disk.S).commit (canJ s4.l []) (PL.Plan.text []) (List.map toDd []) = (0, ⟨s4.l, [], -1⟩)) := Lib.hid (by
        unfold Disk.S.commit
        rw [if_neg (show ¬ (-1 : Int) = 0 by decide), if_neg (fun h => h HK0.out), if_neg (by show ¬ (!true) = true; decide), if_pos (show List.map toDd ([] : List PL.Plan.D) = [] from rfl)])
      have HCM8 := Lib.hid (commit_any (v := .slice none 0 0) (ds := []) HD8.out (HE1.out _ HK8.out) HG.out ⟨none, 0, rfl, fun i d hd => by simp at hd⟩ HHU4.out (show _ + 0 + 6 ≤ 1099511627776 by omega) (by decide) (fun d hd => by simp at hd))
      unfold JPost at HCM8
      rw [HCE.out] at HCM8
      go_wp2_with fail
      refine HCM8.out.mono ?_
      rintro e w9 ⟨rfl, hn9⟩
      have HK89 := Lib.hid hn9.keeps
      obtain ⟨⟨O9, hd9, hO9⟩, _⟩ := hn9
      have HD9 := Lib.hid hd9
      have HF9 := Lib.hid (HF8.out.keeps HK89.out hO9)
      have HK9 : Hid (Keeps O w1 w9) := Lib.hid (HK8.out.trans HK89.out (fun k hk => by
        rcases HO8.out k hk with h | h
        · rcases HO6.out k h with h | h
          · exact Or.inl h
          · exact Or.inr h
        · exact Or.inr (Nat.le_trans HK7.out.size h)))
      clear hd9 hO9
      have HAL9 := Lib.hid (Dsk.all HD9.out (show s4.l.length ≤ _ by have := HLEN.out; omega))
      go_wp2_with fail
      refine HAL9.out.mono ?_
      rintro e w10 ⟨v10, rfl, hr10, hb10⟩
      have HB10 := Lib.hid hb10
      have HFF := Lib.hid (files_any hr10.files ((HF9.out.keeps (O1 := O9) (Keeps.of_below hb10) (fun k h => Or.inl h)).files) (by rw [fls_length]; show s4.l.length ≤ _; have := HLEN.out; omega))
      have HD10 := Lib.hid (HD9.out.below hb10)
      clear hr10 hb10
      go_wp2_with fail
      refine HFF.out.mono ?_
      rintro e w11 ⟨rfl, m, rfl⟩
      have HBD : Hid (Below w10.heap.size w10 (w10.drewN m)) := Lib.hid ⟨rfl, rfl, rfl, Nat.le_refl _, fun _ _ => rfl⟩
      have HD11 := Lib.hid (HD10.out.below HBD.out)
      have HRW := Lib.hid (Dsk.raws HD11.out (by simp only [List.length_nil]; omega))
      go_wp2_with fail
      refine HRW.out.mono ?_
      rintro e w12 ⟨v12, rfl, hr12, hb12⟩
      obtain ⟨a12, c12, rfl⟩ := own_form hr12
      have HB12 := Lib.hid (HB10.out.trans ((HBD.out.trans hb12).mono HB10.out.size))
      have HKI : Hid (Calls Tryz.prog 11 #[.pointer (some ⟨sd, 0, none⟩), .string ⟨#[47, 106, 111, 117, 114, 110, 97, 108]⟩] w12 fun e w' => e = .returned (.int .i64 (Disk.kind s4.l Disk.jA)) ∧ Below w12.heap.size w12 w') := Lib.hid (Dsk.kind (HD11.out.below hb12) Disk.jA (by decide))
      rw [HK0.out] at HKI
      clear hr12 hb12
      dsimp only [List.length_nil]
      go_wp2_with fail
      refine HKI.out.mono ?_
      rintro e w13 ⟨rfl, hb13⟩
      have HB13 := Lib.hid (HB12.out.trans (hb13.mono HB12.out.size))
      have HK13 := Lib.hid (HK9.out.then_below HB13.out)
      have HLV := Lib.hid (lives18_any w13 (HE1.out _ HK13.out))
      clear hb13
      go_wp2_with fail
      refine HLV.out.mono ?_
      rintro e w14 ⟨rfl, hb14⟩
      have HB14 : Hid (Below w.heap.size w w14) := Lib.hid (HB1.out.trans ((HK13.out.then_below hb14).to_below (fun k hk => (HLIM.out k hk).1) HZ1.out))
      clear hb14
      go_wp2
      go_returns
      exact ⟨rfl, HB14.out⟩
end Go.Proofs.YtdogacgpfnolfaaGreatDoor
