/- DiskSound's walk. -/
import Derived.Test.YtnfklomokjhojaaGreatDoorZTwo
namespace Go.Proofs.YtnfklomokjhojaaGreatDoor
open Go.RowKit Go.Maps
set_option linter.unusedSimpArgs false
set_option linter.unusedVariables false
theorem parent_len (p : List UInt8) : (Disk.parent p).length ≤ p.length + 1 := by
  unfold Disk.parent
  rcases Disk.parTo_split p p.length (Nat.le_refl _) with h | ⟨j, h1, h2, h3, h4⟩
  · rw [h]; simp
  · rw [h4, List.length_take]; omega
set_option maxHeartbeats 8000000 in
set_option maxRecDepth 100000 in
theorem disk_sound_law {w : World} {v : Value} {ds : List Disk.Dq} (h : Dqs w w.heap.size v ds) (hE : Env w) (hn : ds.length ≤ 1048576) (hsz : ∀ x ∈ ds, (x.path.length ≤ 1048576 ∧ x.to.length ≤ 1048576) ∧ x.Fits) :
    Calls Tryz.prog 7 #[v] w fun e w' => e = .returned (.bool true) ∧ Below w.heap.size w w' := by
  obtain ⟨a1, c1, rfl⟩ := h.form
  obtain ⟨L, hL⟩ : ∃ N, N = ds.length := ⟨_, rfl⟩
  have HH := Lib.hid h
  have HSZ := Lib.hid hsz
  have HE := Lib.hid (fun (W : World) (hb : Below w.heap.size w W) => hE.below hb (Nat.le_refl _))
  have HLV := Lib.hid (fun (W : World) (hb : Below w.heap.size w W) => lives01_any W (hE.below hb (Nat.le_refl _)))
  rw [← hL] at hn ⊢
  have HL := Lib.hid hL
  clear h hsz hL hE
  go_enter Tryz.func7, Tryz.ntmps7
  go_wp2_with fail
  refine (newD_any w w.heap.size (Nat.le_refl _)).mono ?_
  rintro e w1 ⟨sd, O1, rfl, hd1, hO1, hb1⟩
  have HD1 := Lib.hid hd1
  have HB1 := Lib.hid hb1
  clear hd1 hb1
  go_wp2_with fail
  refine (rnewD_any w1 w.heap.size HB1.out.size).mono ?_
  rintro e w2 ⟨rd, O2, rfl, hd2, hO2, hb2⟩
  have HT2 := Lib.hid (Duo.made HD1.out hb2 hd2 hO2)
  have HB2 := Lib.hid (HB1.out.trans (hb2.mono HB1.out.size))
  clear hd2 hO1 hO2 hb2
  go_wp2
  go_loopw [5] (fun q wr => ∃ (i : Nat) (s : Disk.S), q = .int .i64 i ∧ i ≤ L ∧ Disk.Hung s.l ∧ Duo wr w.heap.size (fun _ => False) sd rd (2 * i) s s ∧ Below w.heap.size w wr) (fun q _ => L - (intOf q).toNat)
  case atStart => exact ⟨0, newS, rfl, by omega, Disk.hung_nil, HT2.out, HB2.out⟩
  case round =>
    obtain ⟨i, s, rfl, hi, hhu, ht, hBr⟩ := hrel
    obtain ⟨wo, rfl⟩ : ∃ x, x = wr := ⟨wr, rfl⟩
    have HT := Lib.hid ht
    have HHU := Lib.hid hhu
    have HBR := Lib.hid hBr
    have hzr := hBr.size
    clear ht hhu hBr
    by_cases hiL : i < L
    · obtain ⟨x, hx⟩ : ∃ x, ds[i]? = some x := ⟨_, List.getElem?_eq_getElem (by have := HL.out; omega)⟩
      obtain ⟨bk, o, cap, hve, hbB, hbc⟩ := HH.out.at (by have := HL.out; omega)
      rw [← HL.out] at hve
      cases hve
      obtain ⟨e1, e2, e3, e4, e5⟩ := hbc i x hx
      rw [← HBR.out.cell (p := ⟨bk, o + i * 5, none⟩) hbB] at e1
      rw [← HBR.out.cell (p := ⟨bk, o + i * 5 + 1, none⟩) hbB] at e2
      rw [← HBR.out.cell (p := ⟨bk, o + i * 5 + 2, none⟩) hbB] at e3
      rw [← HBR.out.cell (p := ⟨bk, o + i * 5 + 3, none⟩) hbB] at e4
      rw [← HBR.out.cell (p := ⟨bk, o + i * 5 + 4, none⟩) hbB] at e5
      have HX := Lib.hid (HSZ.out x (List.mem_of_getElem? hx))
      have hiI : (i : Int) < (L : Int) := by omega
      have HASK := Lib.hid (asks_any HT.out (fun W hb => HE.out W (HBR.out.trans hb)) (by omega) x HX.out.2 (by have := HX.out; omega) (by have := HX.out; omega))
      clear hbc hx
      go_wp2_with fail
      refine HASK.out.mono ?_
      rintro e w6 ⟨rfl, hn6⟩
      have HN6 := Lib.hid hn6
      clear hn6 e1 e2 e3 e4 e5
      go_wp2
      go_roundw
      case rel => exact ⟨i + 1, _, by go_num, by omega, Disk.hung_asks HHU.out x, HN6.out.duo.more (by omega), HBR.out.trans HN6.out.below⟩
      case measure => simp [intOf]; omega
    · have hex : ¬ (i : Int) < (L : Int) := by omega
      have hfit := HT.out.fit
      have hsl : s.l.length ≤ 2097152 := by have := hfit.1; omega
      clear hfit
      have HALL := Lib.hid (HT.out.all (by omega))
      go_wp2_with fail
      refine HALL.out.mono ?_
      rintro e w1 ⟨v1, rfl, hr1, hb1⟩
      have HT1 := Lib.hid (HT.out.below hb1)
      have HB1' := Lib.hid (HBR.out.trans (hb1.mono hzr))
      have HFI := Lib.hid hr1.files
      obtain ⟨av, cv, rfl⟩ := hr1.files.form
      obtain ⟨M, hM⟩ : ∃ M, M = (fls s.l).length := ⟨_, rfl⟩
      have HM := Lib.hid hM
      have hMM : M ≤ 2097152 := by rw [hM, fls_length]; exact hsl
      have HFM : Hid (Files w1 w1.heap.size (.slice av M cv) (fls s.l)) := Lib.hid (by rw [hM]; exact HFI.out)
      rw [← hM]
      clear hr1 hb1 hM HFI
      go_wp2
      go_loopw [7] (fun q wr => ∃ (j : Nat), q = .int .i64 j ∧ j ≤ M ∧ Below w1.heap.size w1 wr) (fun q _ => M - (intOf q).toNat)
      case atStart => exact ⟨0, rfl, by omega, Below.refl _ _⟩
      case round =>
        clear hzr hex hiL hi
        obtain ⟨j, rfl, hj, hBr⟩ := hrel
        obtain ⟨wp, rfl⟩ : ∃ x, x = wr := ⟨wr, rfl⟩
        have HDU := Lib.hid (HT1.out.below hBr)
        have HBR2 := Lib.hid hBr
        have hzr := hBr.size
        clear hBr
        by_cases hjM : j < M
        · obtain ⟨f, hf⟩ : ∃ f, (fls s.l)[j]? = some f := ⟨_, List.getElem?_eq_getElem (by have := HM.out; omega)⟩
          obtain ⟨bk, o, cap, hve, hbB, hbc⟩ := HFM.out.at (by have := HM.out; omega)
          rw [← HM.out] at hve
          cases hve
          have HBC := Lib.hid (fun (i : Nat) f (h : (fls s.l)[i]? = some f) => (HBR2.out.cell (p := ⟨bk, o + i * 3, none⟩) hbB).trans (hbc i f h).1)
          have hbs : bk < wp.drew.heap.size := by show bk < wp.heap.size; omega
          have hlk : SM.look s.l f.path = some ⟨f.dir, f.data⟩ := SM.look_mem HHU.out.rises (List.mem_of_getElem? (fls_at hf))
          have hok : f.path.length ≤ 4096 := Disk.pathOk_length (HHU.out.ok _ _ hlk)
          have hkd : Disk.kind s.l (Disk.parent f.path) = 2 := Disk.kind_dir (HHU.out.housed _ _ hlk)
          have hpl := parent_len f.path
          have e1 := HBC.out j f hf
          have HF := Lib.hid (fls_at hf)
          obtain ⟨fp, hfp⟩ : ∃ p, p = f.path := ⟨_, rfl⟩
          rw [← hfp] at e1 hkd hok hpl
          have HPAR := Lib.hid (rparent_any (bs fp) (by have := bs_small (p := fp) (by omega); simp only [maxLen] at this; omega) wp.drew)
          rw [bs_list] at HPAR
          have HKI := Lib.hid ((HDU.out.below (Below.refl _ _).drew).kind (Disk.parent fp) (by omega))
          rw [hkd] at HKI
          have hjI : (j : Int) < (M : Int) := by omega
          clear hbc hlk hok hkd hpl
          by_cases hj0 : j = 0
          · subst hj0
            rw [Nat.zero_mul, Nat.add_zero] at e1
            rw [show ((0 : Nat) : Int) = 0 from rfl] at hjI ⊢
            have hjN : 0 < M := hjM
            clear hfp hf
            go_wp2
            refine wp_region_held_drew (S := fun w' => w'.cell? ⟨bk, o, none⟩ = some (.string (bs fp))) (by kernel_rfl) e1 (fun hHeld => ?_)
            refine wpAnyH_take (i := 0) (v := ?v0) rfl (by kernel_rfl) (by kernel_rfl) (by kernel_rfl) (fun _ _ _ h => h) (Or.inl ⟨by kernel_rfl, ?hy0⟩) (by assumption) ?rest0
            case hy0 => intro w hSw; (try dsimp only at hSw); go_simp; try with_reducible rfl
            try simp only [List.getElem_toArray, List.getElem_cons_zero, List.getElem_cons_succ, Act.put, List.setIfInBounds_toArray, List.set_cons_zero, List.set_cons_succ]
            refine wpAnyH_take (i := 1) (v := ?v1) rfl (by kernel_rfl) (by kernel_rfl) (by kernel_rfl) (fun _ _ _ h => h) (Or.inl ⟨by kernel_rfl, ?hy1⟩) (by assumption) ?rest1
            case hy1 => intro w hSw; (try dsimp only at hSw); go_simp; try with_reducible rfl
            try simp only [List.getElem_toArray, List.getElem_cons_zero, List.getElem_cons_succ, Act.put, List.setIfInBounds_toArray, List.set_cons_zero, List.set_cons_succ]
            refine wpAnyH_take (i := 2) (v := ?v2) rfl (by kernel_rfl) (by kernel_rfl) (by kernel_rfl) (fun _ _ _ h => h) (Or.inl ⟨by kernel_rfl, ?hy2⟩) (by assumption) ?rest2
            case hy2 => intro w hSw; (try dsimp only at hSw); go_simp; try with_reducible rfl
            try simp only [List.getElem_toArray, List.getElem_cons_zero, List.getElem_cons_succ, Act.put, List.setIfInBounds_toArray, List.set_cons_zero, List.set_cons_succ]
            refine wpAnyH_take (i := 3) (v := ?v3) rfl (by kernel_rfl) (by kernel_rfl) (by kernel_rfl) (fun _ _ _ h => h) (Or.inl ⟨by kernel_rfl, ?hy3⟩) (by assumption) ?rest3
            case hy3 => intro w hSw; (try dsimp only at hSw); go_simp; try with_reducible rfl
            try simp only [List.getElem_toArray, List.getElem_cons_zero, List.getElem_cons_succ, Act.put, List.setIfInBounds_toArray, List.set_cons_zero, List.set_cons_succ]
            refine wpAnyH_take (i := 4) (v := ?v4) rfl (by kernel_rfl) (by kernel_rfl) (by kernel_rfl) (fun _ _ _ h => h) (Or.inl ⟨by kernel_rfl, ?hy4⟩) (by assumption) ?rest4
            case hy4 => intro w hSw; (try dsimp only at hSw); go_simp; try with_reducible rfl
            try simp only [List.getElem_toArray, List.getElem_cons_zero, List.getElem_cons_succ, Act.put, List.setIfInBounds_toArray, List.set_cons_zero, List.set_cons_succ]
            refine wpAnyH_take (i := 5) (v := ?v5) rfl (by kernel_rfl) (by kernel_rfl) (by kernel_rfl) (fun _ _ _ h => h) (Or.inl ⟨by kernel_rfl, ?hy5⟩) (by assumption) ?rest5
            case hy5 => intro w hSw; (try dsimp only at hSw); go_simp; try with_reducible rfl
            try simp only [List.getElem_toArray, List.getElem_cons_zero, List.getElem_cons_succ, Act.put, List.setIfInBounds_toArray, List.set_cons_zero, List.set_cons_succ]
            refine wpAnyH_ready (rs := [6]) (by kernel_rfl) (by simp) ?_
            refine AllReadyH.cons rfl (fun K hK => ?_) AllReadyH.nil
            go_simp
            go_at_call 26
            refine (HPAR.out).mono ?_
            rintro e w6 ⟨rfl, rfl⟩
            refine hK.out _ _ (e1) (fun hHeld => ?_)
            clear hK K
            try simp only [List.getElem_toArray, List.getElem_cons_zero, List.getElem_cons_succ, Act.put, List.setIfInBounds_toArray, List.set_cons_zero, List.set_cons_succ]
            refine wpAnyH_ready (rs := [7]) (by kernel_rfl) (by simp) ?_
            refine AllReadyH.cons rfl (fun K hK => ?_) AllReadyH.nil
            go_simp
            go_at_call 25
            refine (HKI.out).mono ?_
            rintro e w7 ⟨rfl, hb7⟩
            have k1 := (hb7.cell (p := ⟨bk, o, none⟩) (by show bk < _; exact hbs)).trans e1
            have HB7 := Lib.hid ((HBR2.out.drew).trans (hb7.mono HBR2.out.drew.size))
            refine hK.out _ _ (k1) (fun hHeld => ?_)
            clear hK K
            try simp only [List.getElem_toArray, List.getElem_cons_zero, List.getElem_cons_succ, Act.put, List.setIfInBounds_toArray, List.set_cons_zero, List.set_cons_succ]
            refine wpAnyH_take (i := 8) (v := ?v8) rfl (by kernel_rfl) (by kernel_rfl) (by kernel_rfl) (fun _ _ _ h => h) (Or.inl ⟨by kernel_rfl, ?hy8⟩) (by assumption) ?rest8
            case hy8 => intro w hSw; (try dsimp only at hSw); go_simp; try with_reducible rfl
            try simp only [List.getElem_toArray, List.getElem_cons_zero, List.getElem_cons_succ, Act.put, List.setIfInBounds_toArray, List.set_cons_zero, List.set_cons_succ]
            refine wpAnyH_take (i := 9) (v := ?v9) rfl (by kernel_rfl) (by kernel_rfl) (by kernel_rfl) (fun _ _ _ h => h) (Or.inl ⟨by kernel_rfl, ?hy9⟩) (by assumption) ?rest9
            case hy9 => intro w hSw; (try dsimp only at hSw); go_simp; try with_reducible rfl
            try simp only [List.getElem_toArray, List.getElem_cons_zero, List.getElem_cons_succ, Act.put, List.setIfInBounds_toArray, List.set_cons_zero, List.set_cons_succ]
            refine wpAnyH_take (i := 10) (v := ?v10) rfl (by kernel_rfl) (by kernel_rfl) (by kernel_rfl) (fun _ _ _ h => h) (Or.inl ⟨by kernel_rfl, ?hy10⟩) (by assumption) ?rest10
            case hy10 => intro w hSw; (try dsimp only at hSw); go_simp; try with_reducible rfl
            try simp only [List.getElem_toArray, List.getElem_cons_zero, List.getElem_cons_succ, Act.put, List.setIfInBounds_toArray, List.set_cons_zero, List.set_cons_succ]
            refine wpAnyH_take (i := 11) (v := ?v11) rfl (by kernel_rfl) (by kernel_rfl) (by kernel_rfl) (fun _ _ _ h => h) (Or.inl ⟨by kernel_rfl, ?hy11⟩) (by assumption) ?rest11
            case hy11 => intro w hSw; (try dsimp only at hSw); go_simp; try with_reducible rfl
            try simp only [List.getElem_toArray, List.getElem_cons_zero, List.getElem_cons_succ, Act.put, List.setIfInBounds_toArray, List.set_cons_zero, List.set_cons_succ]
            refine wpAnyH_take (i := 12) (v := ?v12) rfl (by kernel_rfl) (by kernel_rfl) (by kernel_rfl) (fun _ _ _ h => h) (Or.inl ⟨by kernel_rfl, ?hy12⟩) (by assumption) ?rest12
            case hy12 => intro w hSw; (try dsimp only at hSw); go_simp; try with_reducible rfl
            try simp only [List.getElem_toArray, List.getElem_cons_zero, List.getElem_cons_succ, Act.put, List.setIfInBounds_toArray, List.set_cons_zero, List.set_cons_succ]
            refine wpAnyH_take (i := 13) (v := undef) rfl (by kernel_rfl) (by kernel_rfl) (by kernel_rfl) (fun _ _ _ h => h) (Or.inr ⟨by kernel_rfl, rfl⟩) (by assumption) ?rest13
            try simp only [List.getElem_toArray, List.getElem_cons_zero, List.getElem_cons_succ, Act.put, List.setIfInBounds_toArray, List.set_cons_zero, List.set_cons_succ]
            refine wpAnyH_take (i := 14) (v := undef) rfl (by kernel_rfl) (by kernel_rfl) (by kernel_rfl) (fun _ _ _ h => h) (Or.inr ⟨by kernel_rfl, rfl⟩) (by assumption) ?rest14
            try simp only [List.getElem_toArray, List.getElem_cons_zero, List.getElem_cons_succ, Act.put, List.setIfInBounds_toArray, List.set_cons_zero, List.set_cons_succ]
            refine wpAnyH_take (i := 15) (v := undef) rfl (by kernel_rfl) (by kernel_rfl) (by kernel_rfl) (fun _ _ _ h => h) (Or.inr ⟨by kernel_rfl, rfl⟩) (by assumption) ?rest15
            try simp only [List.getElem_toArray, List.getElem_cons_zero, List.getElem_cons_succ, Act.put, List.setIfInBounds_toArray, List.set_cons_zero, List.set_cons_succ]
            refine wpAnyH_take (i := 16) (v := undef) rfl (by kernel_rfl) (by kernel_rfl) (by kernel_rfl) (fun _ _ _ h => h) (Or.inr ⟨by kernel_rfl, rfl⟩) (by assumption) ?rest16
            try simp only [List.getElem_toArray, List.getElem_cons_zero, List.getElem_cons_succ, Act.put, List.setIfInBounds_toArray, List.set_cons_zero, List.set_cons_succ]
            refine wpAnyH_take (i := 17) (v := undef) rfl (by kernel_rfl) (by kernel_rfl) (by kernel_rfl) (fun _ _ _ h => h) (Or.inr ⟨by kernel_rfl, rfl⟩) (by assumption) ?rest17
            try simp only [List.getElem_toArray, List.getElem_cons_zero, List.getElem_cons_succ, Act.put, List.setIfInBounds_toArray, List.set_cons_zero, List.set_cons_succ]
            refine wpAnyH_take (i := 18) (v := undef) rfl (by kernel_rfl) (by kernel_rfl) (by kernel_rfl) (fun _ _ _ h => h) (Or.inr ⟨by kernel_rfl, rfl⟩) (by assumption) ?rest18
            try simp only [List.getElem_toArray, List.getElem_cons_zero, List.getElem_cons_succ, Act.put, List.setIfInBounds_toArray, List.set_cons_zero, List.set_cons_succ]
            refine wpAnyH_take (i := 19) (v := undef) rfl (by kernel_rfl) (by kernel_rfl) (by kernel_rfl) (fun _ _ _ h => h) (Or.inr ⟨by kernel_rfl, rfl⟩) (by assumption) ?rest19
            try simp only [List.getElem_toArray, List.getElem_cons_zero, List.getElem_cons_succ, Act.put, List.setIfInBounds_toArray, List.set_cons_zero, List.set_cons_succ]
            refine wpAnyH_take (i := 20) (v := undef) rfl (by kernel_rfl) (by kernel_rfl) (by kernel_rfl) (fun _ _ _ h => h) (Or.inr ⟨by kernel_rfl, rfl⟩) (by assumption) ?rest20
            try simp only [List.getElem_toArray, List.getElem_cons_zero, List.getElem_cons_succ, Act.put, List.setIfInBounds_toArray, List.set_cons_zero, List.set_cons_succ]
            refine wpAnyH_take (i := 21) (v := undef) rfl (by kernel_rfl) (by kernel_rfl) (by kernel_rfl) (fun _ _ _ h => h) (Or.inr ⟨by kernel_rfl, rfl⟩) (by assumption) ?rest21
            try simp only [List.getElem_toArray, List.getElem_cons_zero, List.getElem_cons_succ, Act.put, List.setIfInBounds_toArray, List.set_cons_zero, List.set_cons_succ]
            refine wpAnyH_take (i := 22) (v := undef) rfl (by kernel_rfl) (by kernel_rfl) (by kernel_rfl) (fun _ _ _ h => h) (Or.inr ⟨by kernel_rfl, rfl⟩) (by assumption) ?rest22
            try simp only [List.getElem_toArray, List.getElem_cons_zero, List.getElem_cons_succ, Act.put, List.setIfInBounds_toArray, List.set_cons_zero, List.set_cons_succ]
            refine wpAnyH_take (i := 23) (v := undef) rfl (by kernel_rfl) (by kernel_rfl) (by kernel_rfl) (fun _ _ _ h => h) (Or.inr ⟨by kernel_rfl, rfl⟩) (by assumption) ?rest23
            try simp only [List.getElem_toArray, List.getElem_cons_zero, List.getElem_cons_succ, Act.put, List.setIfInBounds_toArray, List.set_cons_zero, List.set_cons_succ]
            refine wpAnyH_take (i := 24) (v := undef) rfl (by kernel_rfl) (by kernel_rfl) (by kernel_rfl) (fun _ _ _ h => h) (Or.inr ⟨by kernel_rfl, rfl⟩) (by assumption) ?rest24
            try simp only [List.getElem_toArray, List.getElem_cons_zero, List.getElem_cons_succ, Act.put, List.setIfInBounds_toArray, List.set_cons_zero, List.set_cons_succ]
            refine wpAnyH_take (i := 25) (v := ?v25) rfl (by kernel_rfl) (by kernel_rfl) (by kernel_rfl) (fun _ _ _ h => h) (Or.inl ⟨by kernel_rfl, ?hy25⟩) (by assumption) ?rest25
            case hy25 => intro w hSw; (try dsimp only at hSw); go_simp; try with_reducible rfl
            try simp only [List.getElem_toArray, List.getElem_cons_zero, List.getElem_cons_succ, Act.put, List.setIfInBounds_toArray, List.set_cons_zero, List.set_cons_succ]
            refine wpAnyH_take (i := 26) (v := ?v26) rfl (by kernel_rfl) (by kernel_rfl) (by kernel_rfl) (fun _ _ _ h => h) (Or.inl ⟨by kernel_rfl, ?hy26⟩) (by assumption) ?rest26
            case hy26 => intro w hSw; (try dsimp only at hSw); go_simp; try with_reducible rfl
            try simp only [List.getElem_toArray, List.getElem_cons_zero, List.getElem_cons_succ, Act.put, List.setIfInBounds_toArray, List.set_cons_zero, List.set_cons_succ]
            refine wpAnyH_done (by kernel_rfl) ?_ _
            go_wp2
            go_roundw
            case rel => exact ⟨1, rfl, by omega, HB7.out⟩
            case measure => show M - 1 < M - 0; omega
          · obtain ⟨i, hij⟩ : ∃ i, i + 1 = j := ⟨j - 1, by omega⟩
            obtain ⟨g, hg⟩ : ∃ g, (fls s.l)[i]? = some g := ⟨_, List.getElem?_eq_getElem (by have := HM.out; omega)⟩
            have p1 := HBC.out i g hg
            have hord : bytesBefore g.path f.path = true := by
              have HF := HF.out
              rw [← hij] at HF
              have h1 := List.getElem?_eq_some_iff.1 (fls_at hg)
              have h2 := List.getElem?_eq_some_iff.1 HF
              obtain ⟨l1, q1⟩ := h1
              obtain ⟨l2, q2⟩ := h2
              have := (List.pairwise_iff_getElem.1 HHU.out.rises) i (i + 1) l1 l2 (by omega)
              rw [q1, q2] at this
              exact this
            obtain ⟨pp, hpp⟩ : ∃ p, p = g.path := ⟨_, rfl⟩
            rw [← hpp] at p1 hord
            rw [← hfp] at hord
            have q1 : Op.bytesLess (bs pp).toList (bs fp).toList = true := by rw [bs_toList, bs_toList, bless]; exact hord
            have hw1 : IntKind.i64.wrap ((j : Int) - 1) = (i : Int) := by rw [IntWalk.i64_in _ (by omega)]; omega
            have hw2 : (i : Int) < (M : Int) := by omega
            have hw3 : decide (0 < j) = true := decide_eq_true (by omega)
            have hw4 : 0 < j := by omega
            clear hg hf hord hfp hpp hij hj0
            go_wp2
            go_region_held3 (fun w' => w'.cell? ⟨bk, o + j * 3, none⟩ = some (.string (bs fp)) ∧ w'.cell? ⟨bk, o + i * 3, none⟩ = some (.string (bs pp))) (first | exact ⟨e1, p1⟩ | exact ⟨k1, k2⟩) (first
              | (go_at_call 25; refine (HKI.out).mono ?_; rintro e w7 ⟨rfl, hb7⟩; have k1 := (hb7.cell (p := ⟨bk, o + j * 3, none⟩) (by show bk < _; exact hbs)).trans e1; have k2 := (hb7.cell (p := ⟨bk, o + i * 3, none⟩) (by show bk < _; exact hbs)).trans p1; have HB7 := Lib.hid ((HBR2.out.drew).trans (hb7.mono HBR2.out.drew.size)))
              | (go_at_call 26; refine (HPAR.out).mono ?_; rintro e w6 ⟨rfl, rfl⟩))
            all_goals
              go_wp2
              go_roundw
              case rel => exact ⟨j + 1, by go_num, by omega, HB7.out⟩
              case measure => simp [intOf]; omega
        · have hee : ¬ (j : Int) < (M : Int) := by omega
          have HBW := Lib.hid (HB1'.out.trans (HBR2.out.mono HB1'.out.size))
          have HFW := Lib.hid (HFM.out.below HBR2.out (Nat.le_refl _))
          have HLD := Lib.hid (load_told HFW.out hzr (HE.out _ HBW.out) HHU.out (by omega))
          go_wp2_with fail
          refine HLD.out.mono ?_
          rintro e w2 ⟨sc, bm, n0, rfl, hdi, hn0, hb2⟩
          have HB2' := Lib.hid (HBW.out.trans (hb2.mono HBW.out.size))
          have HF2 := Lib.hid ((HFW.out.below hb2 hzr).mono (Nat.le_trans hzr hb2.size))
          have HAL := Lib.hid (all_any hdi.c0 hdi.things (by omega))
          clear hdi hn0 hb2
          go_wp2_with fail
          refine HAL.out.mono ?_
          rintro e w3 ⟨v3, rfl, hr3, hb3⟩
          have HB3 := Lib.hid (HB2'.out.trans (hb3.mono HB2'.out.size))
          have HC3 := Lib.hid (files_any hr3.files ((HF2.out.below hb3 (Nat.le_refl _)).mono hb3.size) (by have := HM.out; omega))
          clear hr3 hb3
          go_wp2_with fail
          refine HC3.out.mono ?_
          rintro e w4 ⟨rfl, m, rfl⟩
          have HB4 := Lib.hid (bdrew HB3.out m)
          obtain ⟨w4, hw4⟩ : ∃ x, x = w3.drewN m := ⟨_, rfl⟩
          rw [← hw4] at HB4 ⊢
          clear hw4
          go_wp2_with fail
          refine (HLV.out _ HB4.out).mono ?_
          rintro e w5 ⟨rfl, hb5⟩
          have HB5 := Lib.hid (HB4.out.trans (hb5.mono HB4.out.size))
          go_wp2
          go_returns
          exact ⟨rfl, HB5.out⟩
end Go.Proofs.YtnfklomokjhojaaGreatDoor
