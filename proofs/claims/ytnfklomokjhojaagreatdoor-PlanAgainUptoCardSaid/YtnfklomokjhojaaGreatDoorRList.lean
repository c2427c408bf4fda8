/- The names in a directory: the document's List: the walk. -/
import Derived.Test.YtnfklomokjhojaaGreatDoorZList1
import Derived.Test.YtnfklomokjhojaaGreatDoorRk4
namespace Go.Proofs.YtnfklomokjhojaaGreatDoor
open Go.RowKit Go.Maps
set_option linter.unusedSimpArgs false
set_option linter.unusedVariables false
theorem one1 : ∀ (ns : List (List UInt8)) (u : Value), u ∈ ns.flatMap enc1 → u.oneCell' = true := fun ns u hu => by
  obtain ⟨x, _, hx⟩ := List.mem_flatMap.1 hu
  simp [enc1] at hx
  subst hx
  rfl
theorem enc1_at : ∀ (ns : List (List UInt8)) (i : Nat) (x : List UInt8), ns[i]? = some x → (ns.flatMap enc1)[i]? = some (.string (bs x))
  | [], i, x, h => by simp at h
  | y :: r, 0, x, h => by simp at h; subst h; rfl
  | y :: r, i + 1, x, h => by
    have ih := enc1_at r i x (by simpa using h)
    exact ih
theorem own_blk {w : World} {base : Nat} {e : TypeId} {z : Nat} {v : Value} {n : Nat} {xs : List Value} (h : w.ownsRow base e z v n xs) (hn : 0 < n) : ∃ g cap, v = .slice (some ⟨g, 0, none⟩) n cap ∧ n ≤ cap := by
  rcases h.2 with ⟨h1, h2⟩ | ⟨g, cap, cur, h1, _, _, h3, _⟩
  · omega
  · exact ⟨g, cap, h1, h3⟩
namespace Disk
theorem names_take {l : M} {i : Nat} {s : List UInt8} {t : T} (h : l[i]? = some (s, t)) (p : List UInt8) : names (l.take (i + 1)) p = if parent s = p then names (l.take i) p ++ [nm p s] else names (l.take i) p := by
  unfold names
  rw [List.take_add_one, h, List.filter_append, List.map_append]
  by_cases hp : parent s = p
  · rw [if_pos hp]
    congr 1
    simp [hp]
  · rw [if_neg hp]
    simp [hp]
theorem names_length (l : M) (p : List UInt8) : (names l p).length ≤ l.length := by
  unfold names
  rw [List.length_map]
  exact List.length_filter_le _ _
end Disk
set_option maxHeartbeats 16000000 in
set_option maxRecDepth 100000 in
theorem rlist_any {w : World} {B : Nat} {O : Nat → Prop} {rd : Nat} {lv rv : Value} {s : Disk.S} (h : RskAt w B O rd lv rv s) (hn : s.l.length ≤ 1099511627776) (hok : ∀ x ∈ s.l, Disk.pathOk x.1 = true) (p : List UInt8) (hp : p.length ≤ 4398046511104) :
    Calls Tryz.prog 38 #[.pointer (some ⟨rd, 0, none⟩), .string (bs p)] w (ListPost s.l p w) := by
  obtain ⟨i0, hi, hz0, hz1, hz2⟩ := info_parts infoSt
  have e1 := str_eq_lit (bs p) [47]
  rw [bs_list] at e1
  have HB := Lib.hid (rpathD_any (bs p) (by show p.toArray.size ≤ _; simp; omega) w)
  rw [bs_list] at HB
  have HKI := Lib.hid (h.kind (by omega) p)
  have HRI := Lib.hid h.r.rises
  have HOK := Lib.hid hok
  have HFI := Lib.hid h.r.row.files
  have hrdl := h.r.rdl
  have c0 := h.r.c0
  obtain ⟨av, cv, rfl⟩ := own_form h.r.row
  clear h hok
  obtain ⟨l, hl⟩ : ∃ l, l = s.l := ⟨_, rfl⟩
  rw [← hl] at hn HKI HRI HOK HFI c0 ⊢
  clear hl
  obtain ⟨N, hN⟩ : ∃ N, N = (fls l).length := ⟨_, rfl⟩
  have HNL : Hid (N = l.length) := Lib.hid (by rw [hN, fls_length])
  rw [← hN] at c0
  have HN := Lib.hid hN
  have hNb : N ≤ 1099511627776 := by rw [HNL.out]; exact hn
  clear hN
  obtain ⟨kk, hkk⟩ : ∃ k, k = Disk.kind l p := ⟨_, rfl⟩
  have HR : Hid (Disk.listR l p = if p ≠ [47] ∧ Disk.pathOk p = false then ([], 10) else if kk = 0 then ([], 12) else if kk = 1 then ([], 13) else (Disk.names l p, 0)) := Lib.hid (by rw [hkk]; rfl)
  rw [← hkk] at HKI
  clear hkk
  obtain ⟨ok, hok⟩ : ∃ b, b = Disk.pathOk p := ⟨_, rfl⟩
  rw [← hok] at HB HR
  obtain ⟨rt, hrt⟩ : ∃ b, b = decide (p = [47]) := ⟨_, rfl⟩
  rw [← hrt] at e1
  have CS : (ok = false ∧ rt = false ∧ Disk.listR l p = ([], 10)) ∨ ((ok = true ∨ rt = true) ∧ Disk.listR l p = if kk = 0 then ([], 12) else if kk = 1 then ([], 13) else (Disk.names l p, 0)) := by
    by_cases h47 : p = [47]
    · refine Or.inr ⟨Or.inr (by rw [hrt]; exact decide_eq_true h47), by rw [HR.out, if_neg (by rintro ⟨h, _⟩; exact h h47)]⟩
    · cases ok
      · exact Or.inl ⟨rfl, by rw [hrt]; exact decide_eq_false h47, by rw [HR.out, if_pos ⟨h47, rfl⟩]⟩
      · exact Or.inr ⟨Or.inl rfl, by rw [HR.out, if_neg (by simp)]⟩
  have HRT := Lib.hid hrt
  clear hok hrt
  rcases CS with ⟨rfl, rfl, hres⟩ | ⟨hor, hres⟩
  · have HF := Lib.hid hres
    clear hres
    go_enter Tryz.func38, Tryz.ntmps38
    go_wp2_with fail
    refine HB.out.mono ?_
    rintro e w1 ⟨rfl, rfl⟩
    go_wp2
    go_returns
    exact ListPost.no HF.out (Below.refl _ _)
  have HRES := Lib.hid hres
  clear hres
  have GATE : (ok = true) ∨ (ok = false ∧ rt = true) := by
    cases ok
    · exact Or.inr ⟨rfl, hor.resolve_left (by simp)⟩
    · exact Or.inl rfl
  clear hor
  by_cases h0 : kk = 0
  · have HF : Hid (Disk.listR l p = ([], 12)) := Lib.hid (by rw [HRES.out, if_pos h0])
    have q0 : (kk == 0) = true := beq_iff_eq.2 h0
    clear h0
    rcases GATE with rfl | ⟨rfl, rfl⟩
    · go_enter Tryz.func38, Tryz.ntmps38
      go_wp2_with fail
      refine HB.out.mono ?_
      rintro e w1 ⟨rfl, rfl⟩
      go_wp2_with fail
      refine HKI.out.mono ?_
      rintro e w2 ⟨rfl, rfl⟩
      obtain ⟨w, rfl⟩ : ∃ x, x = w2 := ⟨w2, rfl⟩
      go_wp2
      go_returns
      exact ListPost.no HF.out (Below.refl _ _)
    · go_enter Tryz.func38, Tryz.ntmps38
      go_wp2_with fail
      refine HB.out.mono ?_
      rintro e w1 ⟨rfl, rfl⟩
      go_wp2_with fail
      refine HKI.out.mono ?_
      rintro e w2 ⟨rfl, rfl⟩
      obtain ⟨w, rfl⟩ : ∃ x, x = w2 := ⟨w2, rfl⟩
      go_wp2
      go_returns
      exact ListPost.no HF.out (Below.refl _ _)

  have q0 : (kk == 0) = false := beq_eq_false_iff_ne.2 h0
  by_cases h1 : kk = 1
  · have HF : Hid (Disk.listR l p = ([], 13)) := Lib.hid (by rw [HRES.out, if_neg h0, if_pos h1])
    have q1 : (kk == 1) = true := beq_iff_eq.2 h1
    clear h0 h1
    rcases GATE with rfl | ⟨rfl, rfl⟩
    · go_enter Tryz.func38, Tryz.ntmps38
      go_wp2_with fail
      refine HB.out.mono ?_
      rintro e w1 ⟨rfl, rfl⟩
      go_wp2_with fail
      refine HKI.out.mono ?_
      rintro e w2 ⟨rfl, rfl⟩
      obtain ⟨w, rfl⟩ : ∃ x, x = w2 := ⟨w2, rfl⟩
      go_wp2
      go_returns
      exact ListPost.no HF.out (Below.refl _ _)
    · go_enter Tryz.func38, Tryz.ntmps38
      go_wp2_with fail
      refine HB.out.mono ?_
      rintro e w1 ⟨rfl, rfl⟩
      go_wp2_with fail
      refine HKI.out.mono ?_
      rintro e w2 ⟨rfl, rfl⟩
      obtain ⟨w, rfl⟩ : ∃ x, x = w2 := ⟨w2, rfl⟩
      go_wp2
      go_returns
      exact ListPost.no HF.out (Below.refl _ _)

  have q1 : (kk == 1) = false := beq_eq_false_iff_ne.2 h1
  have HF : Hid (Disk.listR l p = (Disk.names l p, 0)) := Lib.hid (by rw [HRES.out, if_neg h0, if_neg h1])
  clear h0 h1
  rcases GATE with rfl | ⟨rfl, rfl⟩
  · go_enter Tryz.func38, Tryz.ntmps38
    go_wp2_with fail
    refine HB.out.mono ?_
    rintro e w1 ⟨rfl, rfl⟩
    go_wp2_with fail
    refine HKI.out.mono ?_
    rintro e w2 ⟨rfl, rfl⟩
    obtain ⟨w, rfl⟩ : ∃ x, x = w2 := ⟨w2, rfl⟩
    go_wp2
    go_loopw [8, 9] (fun v q wr => ∃ (i : Nat) (X : List (List UInt8)) (vv : Value), vv = v ∧ q = .int .i64 i ∧ i ≤ N ∧ X = Disk.names (l.take i) p ∧ SRow wr w.heap.size vv X ∧ (X = [] → vv = .slice none 0 0) ∧ Below w.heap.size w wr) (fun _ q _ => N - (intOf q).toNat)
    case atStart => exact ⟨0, [], _, rfl, rfl, by omega, rfl, World.ownsRow_nil _ _ _ _, fun _ => rfl, Below.refl _ _⟩
    case round =>
      obtain ⟨i, X, v, rfl, rfl, hi', hX, hrow, hnil, hBr⟩ := hrel
      obtain ⟨wo, rfl⟩ : ∃ x, x = wr := ⟨wr, rfl⟩
      have HX := Lib.hid hX
      have HNIL := Lib.hid hnil
      have HBR := Lib.hid hBr
      have hXl : X.length ≤ 1099511627776 := by
        rw [hX]
        have h1 := Disk.names_length (l.take i) p
        have h2 : (l.take i).length ≤ l.length := by rw [List.length_take]; omega
        exact Nat.le_trans h1 (Nat.le_trans h2 hn)
      obtain ⟨ax, cx, rfl⟩ := own_form hrow
      obtain ⟨M, hMM⟩ : ∃ M, M = X.length := ⟨_, rfl⟩
      have HROW : Hid (World.ownsRow wo w.heap.size 9 1 (.slice ax M cx) M (X.flatMap enc1)) := Lib.hid (by rw [hMM]; exact hrow)
      rw [← hMM] at hXl HNIL ⊢
      have HMM := Lib.hid hMM
      have k0 := (hBr.cell (p := ⟨rd, 0, none⟩) hrdl).trans c0
      have hzr := hBr.size
      clear hX hrow hnil hBr hMM
      by_cases hiN : i < N
      · obtain ⟨f, hf⟩ : ∃ f, (fls l)[i]? = some f := ⟨_, List.getElem?_eq_getElem (by have := HN.out; omega)⟩
        obtain ⟨bk, o, cap, hve, hbB, hbc⟩ := HFI.out.at (by have := HN.out; omega)
        rw [← HN.out] at hve
        cases hve
        obtain ⟨f1, _, _⟩ := hbc i f hf
        rw [← HBR.out.cell (p := ⟨bk, o + i * 3, none⟩) hbB] at f1
        have HL := Lib.hid (fls_at hf)
        obtain ⟨xp, xd, xt⟩ := f
        dsimp only at f1 HL
        have hxo := HOK.out _ (List.mem_of_getElem? HL.out)
        have hxl : xp.length ≤ 4096 := Disk.pathOk_length hxo
        have HPAR := Lib.hid (rparent_any (bs xp) (by show xp.toArray.size ≤ _; simp; omega))
        rw [bs_list] at HPAR
        have hiI : (i : Int) < (N : Int) := by omega
        obtain ⟨q, hq⟩ : ∃ q, q = Disk.parent xp := ⟨_, rfl⟩
        rw [← hq] at HPAR
        have hqe := sv_inj (a := q) (b := p)
        have hnt := Disk.names_take HL.out p
        rw [← hq, ← HX.out] at hnt
        clear hf hbc
        by_cases he : q = p
        · have hsplit := Disk.parent_split hxo (hq.symm.trans he)
          rw [if_pos he] at hnt
          have HNM : Hid (X ++ [Disk.nm p xp] = Disk.names (l.take (i + 1)) p) := Lib.hid hnt.symm
          rw [decide_eq_true he] at hqe
          clear he hnt hq hxo
          cases rt
          · have hroot : p ≠ [47] := of_decide_eq_false HRT.out.symm
            have hK : (Disk.pre p).length = p.length + 1 := by unfold Disk.pre; rw [if_neg hroot]; simp
            obtain ⟨K, hKK⟩ : ∃ K, K = (Disk.pre p).length := ⟨_, rfl⟩
            have hKs : K ≤ xp.length := by
              have hlen : xp.length = (Disk.pre p).length + (Disk.nm p xp).length := (congrArg List.length hsplit).trans List.length_append
              rw [hKK, hlen]
              exact Nat.le_add_right _ _
            have HX2 : Hid ((bs xp).extract K (bs xp).size = bs (Disk.nm p xp)) := Lib.hid (by
              rw [← bs_of ((bs xp).extract K (bs xp).size)]
              congr 1
              unfold Disk.nm
              rw [← hKK]
              simp [List.extract]
              exact List.take_of_length_le (by simp))
            have hsxp : (bs xp).size = xp.length := by show xp.toArray.size = _; simp
            have hK0 : (0 : Int) ≤ (K : Int) := by omega
            have hKI : (K : Int) ≤ ((bs xp).size : Int) := by rw [hsxp]; omega
            have HLESS : Hid (∀ y ∈ X, Op.bytesLess (bs y).toList ((bs xp).extract K (bs xp).size).toList = true) := Lib.hid (fun y hy => by
              rw [HX2.out, bs_toList, bs_toList, bless]
              have h1 := Disk.names_rise (l := l.take (i + 1)) (HRI.out.sublist (List.take_sublist _ _)) (fun x hx => HOK.out x (List.mem_of_mem_take hx)) p
              rw [← HNM.out] at h1
              exact (List.pairwise_append.1 h1).2.2 y hy _ (List.mem_singleton.2 rfl))
            have hsp : (bs p).size = p.length := by show p.toArray.size = _; simp
            have hpK : IntKind.i64.wrap (((bs p).size : Int) + 1) = (K : Int) := by rw [hsp, IntWalk.i64_in _ (by omega)]; omega
            have hpK2 : ((bs p).size : Int) + 1 = (K : Int) := by rw [hsp]; omega
            clear hK hKK hsxp hroot hsp hsplit
            go_wp2_with fail
            refine (HPAR.out _).mono ?_
            rintro e w6 ⟨rfl, rfl⟩
            obtain ⟨wo, rfl⟩ : ∃ x, x = w6 := ⟨w6, rfl⟩
            go_wp2
            go_loopw [12] (fun q wr => ∃ j m : Nat, q = .int .i64 j ∧ j ≤ M ∧ wr = wo.drewN m) (fun q _ => M - (intOf q).toNat)
            case atStart => exact ⟨0, 0, rfl, by omega, rfl⟩
            case round =>
              obtain ⟨j, m, rfl, hj, rfl⟩ := hrel
              by_cases hjM : j < M
              · obtain ⟨y, hy⟩ : ∃ y, X[j]? = some y := ⟨_, List.getElem?_eq_getElem (by have := HMM.out; omega)⟩
                obtain ⟨g, hax⟩ : ∃ g, ax = some ⟨g, 0, none⟩ := by
                  rcases HROW.out.2 with ⟨h1, h2⟩ | ⟨g, cap, cur, h1, _⟩
                  · omega
                  · cases h1; exact ⟨g, rfl⟩
                subst hax
                have hcy : wo.cell? ⟨g, j, none⟩ = some (.string (bs y)) := by
                  rw [World.ownsRow.cellAt HROW.out j (by omega)]
                  exact enc1_at X j y hy
                have hls := HLESS.out y (List.mem_of_getElem? hy)
                have hjI : (j : Int) < (M : Int) := by omega
                clear hy
                go_wp2
                go_big_quiet (fail)
                go_wp2
                go_roundw
                case rel => exact ⟨j + 1, _, by go_num, by omega, rfl⟩
                case measure => simp [intOf]; omega
              · obtain rfl : j = M := by omega
                have hjI : ¬ (j : Int) < (j : Int) := by omega
                go_wp2
                obtain ⟨M, rfl⟩ : ∃ x, x = j := ⟨j, rfl⟩
                go_big_quiet (fail)
                have hMc : M ≤ cx := by
                  rcases HROW.out.2 with ⟨h1, h2⟩ | ⟨g, cap, cur, h1, _, _, h3, _⟩
                  · cases h1; omega
                  · cases h1; exact h3
                have hMcI : (M : Int) ≤ (cx : Int) := by omega
                obtain ⟨w7, hw7⟩ : ∃ x, x = (wo.drewN m).drewN nq := ⟨_, rfl⟩
                rw [← hw7]
                have HB7 : Hid (Below w.heap.size w w7) := Lib.hid (by rw [hw7]; exact bdrew (bdrew HBR.out _) _)
                have HROW7 : Hid (World.ownsRow w7 w.heap.size 9 1 (.slice ax M cx) M (X.flatMap enc1)) := Lib.hid (by rw [hw7]; exact own_drewN (own_drewN HROW.out _) _)
                have hB3 : w.heap.size ≤ w7.heap.size := HB7.out.size
                clear hw7
                have HROW0 : Hid (World.ownsRow w7 w.heap.size 9 1 (.slice none 0 0) 0 []) := Lib.hid (World.ownsRow_nil _ _ _ _)
                by_cases hM0 : M = 0
                · have hXe : X = [] := List.length_eq_zero_iff.1 (HMM.out.symm.trans hM0)
                  have hve2 := HNIL.out hXe
                  injection hve2 with t1 t2 t3
                  subst t1 t2 t3
                  clear hM0
                  go_wp2_with (first
                    | (at_builtin; refine wpList_append_own_at _ rfl _ _ 44 rfl w.heap.size 9 i0 (.string ByteArray.empty) 1 16 Tryz.underlying44 hi hz0 hz1 hz2 rfl (by decide) _ _ _ rfl (World.ownsRow.alloc HROW0.out _) ⟨w7.heap.size, 0, none⟩ 1 1 [.string ((bs xp).extract K (bs xp).size)] rfl rfl (new_cells2 _ _ (by first | rfl | simp) _ _) (fun x hx => by simp at hx; rcases hx with rfl; rfl) (by unfold maxLen; omega) (by omega) (by simp; omega) ?_; intro v8 w8 hown8 hgrow8 _ hloc8; obtain ⟨g8, c8, hv8, hc8⟩ := own_blk hown8 (by omega); subst hv8; have HG8 := Lib.hid hgrow8; have HO8 : Hid (World.ownsRow w8 w.heap.size 9 1 (.slice (some ⟨g8, 0, none⟩) 1 c8) 1 [.string ((bs xp).extract K (bs xp).size)]) := Lib.hid hown8; have hz8 := hgrow8.size; clear hown8 hgrow8 hloc8)
                    | (at_builtin; refine wpList_append_src rfl _ _ 44 rfl w.heap.size 9 i0 (.string ByteArray.empty) 1 16 Tryz.underlying44 hi hz0 hz1 hz2 rfl (by decide) _ _ _ rfl HO8.out _ 0 [] rfl (Or.inl ⟨rfl, rfl, rfl⟩) (fun u hu => by cases hu) (by unfold maxLen; omega) (by omega) (by simp at hz8; omega) ?_; intro v10 w10 hown10 hgrow10; have HG10 := Lib.hid hgrow10; have HO10 : Hid (World.ownsRow w10 w.heap.size 9 1 v10 1 [.string ((bs xp).extract K (bs xp).size)]) := Lib.hid (by simpa using hown10); obtain ⟨g10, c10, hv10, hc10⟩ := own_blk HO10.out (by omega); subst hv10; clear hown10 hgrow10))
                  all_goals
                    have HB8 := Lib.hid ((HB7.out.alloc (by omega) _).grown HG8.out (by simp; omega) (fun g hg => (World.ownsRow.lt HROW0.out g hg).1))
                    have HB10 := Lib.hid (HB8.out.grown HG10.out (by simp at hz8; omega) (fun g hg => (World.ownsRow.lt HO8.out g hg).1))
                    have HS10 : Hid (SRow w10 w.heap.size (.slice (some ⟨g10, 0, none⟩) 1 c10) (X ++ [Disk.nm p xp])) := Lib.hid (by rw [hXe]; exact SRow.snoc (ns := []) (by rw [← HX2.out]; exact HO10.out) rfl)
                    clear HO8 HO10 HG8 HG10 hXe
                    go_roundw
                    case rel => exact ⟨i + 1, X ++ [Disk.nm p xp], _, rfl, by go_num, by omega, HNM.out, HS10.out, fun h => absurd h (by simp), HB10.out⟩
                    case measure => simp [intOf]; omega
                · obtain ⟨g, hax⟩ : ∃ g, ax = some ⟨g, 0, none⟩ := by
                    rcases HROW7.out.2 with ⟨h1, h2⟩ | ⟨g, cap, cur, h1, _⟩
                    · exact absurd h2 hM0
                    · cases h1; exact ⟨g, rfl⟩
                  subst hax
                  have HSRC : Hid ((Value.slice (some ⟨g, 0, none⟩) M cx = .slice none 0 0 ∧ M = 0 ∧ X.flatMap enc1 = []) ∨ ∃ ad c, Value.slice (some ⟨g, 0, none⟩) M cx = .slice (some ad) M c ∧ (X.flatMap enc1).length = M * 1 ∧ ∀ (j : Nat) u, (X.flatMap enc1)[j]? = some u → w7.cell? (ad.add j) = some u) := Lib.hid (Or.inr ⟨_, _, rfl, HROW7.out.1, HROW7.out.cells (g := g) rfl⟩)
                  go_wp2_with (first
                    | (at_builtin; refine wpList_append_src rfl _ _ 44 rfl w.heap.size 9 i0 (.string ByteArray.empty) 1 16 Tryz.underlying44 hi hz0 hz1 hz2 rfl (by decide) _ _ _ rfl HROW0.out _ M (X.flatMap enc1) rfl HSRC.out (one1 X) (by unfold maxLen; omega) (by omega) hB3 ?_; intro v8 w8 hown8 hgrow8; have HG8 := Lib.hid hgrow8; have HO8 : Hid (World.ownsRow w8 w.heap.size 9 1 v8 M (X.flatMap enc1)) := Lib.hid (by simpa using hown8); have hz8 := hgrow8.size; obtain ⟨g8, c8, hv8, hc8⟩ := own_blk HO8.out (by omega); subst hv8; clear hown8 hgrow8)
                    | (at_builtin; refine wpList_append_own_at _ rfl _ _ 44 rfl w.heap.size 9 i0 (.string ByteArray.empty) 1 16 Tryz.underlying44 hi hz0 hz1 hz2 rfl (by decide) _ _ _ rfl (World.ownsRow.alloc HO8.out _) ⟨w8.heap.size, 0, none⟩ 1 1 [.string ((bs xp).extract K (bs xp).size)] rfl rfl (new_cells2 _ _ (by first | rfl | simp) _ _) (fun x hx => by simp at hx; rcases hx with rfl; rfl) (by unfold maxLen; omega) (by omega) (by simp; omega) ?_; intro v9 w9 hown9 hgrow9 _ hloc9; have HG9 := Lib.hid hgrow9; have HO9 := Lib.hid hown9; have hz9 := hgrow9.size; obtain ⟨g9, c9, hv9, hc9⟩ := own_blk hown9 (by omega); subst hv9; clear hown9 hgrow9 hloc9))
                  all_goals
                    have HB8 := Lib.hid (HB7.out.grown HG8.out hB3 (fun g hg => (World.ownsRow.lt HROW0.out g hg).1))
                    have HB9 := Lib.hid ((HB8.out.alloc (by omega) _).grown HG9.out (by simp; omega) (fun g hg => (World.ownsRow.lt HO8.out g hg).1))
                    have HS9 : Hid (SRow w9 w.heap.size (.slice (some ⟨g9, 0, none⟩) (M + 1) c9) (X ++ [Disk.nm p xp])) := Lib.hid (SRow.snoc (by rw [← HX2.out]; exact HO9.out) HMM.out.symm)
                    clear HO8 HO9 HG8 HG9
                    go_roundw
                    case rel => exact ⟨i + 1, X ++ [Disk.nm p xp], _, rfl, by go_num, by omega, HNM.out, HS9.out, fun h => absurd h (by simp), HB9.out⟩
                    case measure => simp [intOf]; omega
          · have hroot : p = [47] := of_decide_eq_true HRT.out.symm
            have hK : (Disk.pre p).length = 1 := by unfold Disk.pre; rw [if_pos hroot]; rfl
            obtain ⟨K, hKK⟩ : ∃ K, K = (Disk.pre p).length := ⟨_, rfl⟩
            have hKs : K ≤ xp.length := by
              have hlen : xp.length = (Disk.pre p).length + (Disk.nm p xp).length := (congrArg List.length hsplit).trans List.length_append
              rw [hKK, hlen]
              exact Nat.le_add_right _ _
            have HX2 : Hid ((bs xp).extract K (bs xp).size = bs (Disk.nm p xp)) := Lib.hid (by
              rw [← bs_of ((bs xp).extract K (bs xp).size)]
              congr 1
              unfold Disk.nm
              rw [← hKK]
              simp [List.extract]
              exact List.take_of_length_le (by simp))
            have hsxp : (bs xp).size = xp.length := by show xp.toArray.size = _; simp
            have hK0 : (0 : Int) ≤ (K : Int) := by omega
            have hKI : (K : Int) ≤ ((bs xp).size : Int) := by rw [hsxp]; omega
            have HLESS : Hid (∀ y ∈ X, Op.bytesLess (bs y).toList ((bs xp).extract K (bs xp).size).toList = true) := Lib.hid (fun y hy => by
              rw [HX2.out, bs_toList, bs_toList, bless]
              have h1 := Disk.names_rise (l := l.take (i + 1)) (HRI.out.sublist (List.take_sublist _ _)) (fun x hx => HOK.out x (List.mem_of_mem_take hx)) p
              rw [← HNM.out] at h1
              exact (List.pairwise_append.1 h1).2.2 y hy _ (List.mem_singleton.2 rfl))
            obtain rfl : K = 1 := by omega
            clear hK hKK hsxp hroot hsplit
            go_wp2_with fail
            refine (HPAR.out _).mono ?_
            rintro e w6 ⟨rfl, rfl⟩
            obtain ⟨wo, rfl⟩ : ∃ x, x = w6 := ⟨w6, rfl⟩
            go_wp2
            go_loopw [12] (fun q wr => ∃ j m : Nat, q = .int .i64 j ∧ j ≤ M ∧ wr = wo.drewN m) (fun q _ => M - (intOf q).toNat)
            case atStart => exact ⟨0, 0, rfl, by omega, rfl⟩
            case round =>
              obtain ⟨j, m, rfl, hj, rfl⟩ := hrel
              by_cases hjM : j < M
              · obtain ⟨y, hy⟩ : ∃ y, X[j]? = some y := ⟨_, List.getElem?_eq_getElem (by have := HMM.out; omega)⟩
                obtain ⟨g, hax⟩ : ∃ g, ax = some ⟨g, 0, none⟩ := by
                  rcases HROW.out.2 with ⟨h1, h2⟩ | ⟨g, cap, cur, h1, _⟩
                  · omega
                  · cases h1; exact ⟨g, rfl⟩
                subst hax
                have hcy : wo.cell? ⟨g, j, none⟩ = some (.string (bs y)) := by
                  rw [World.ownsRow.cellAt HROW.out j (by omega)]
                  exact enc1_at X j y hy
                have hls := HLESS.out y (List.mem_of_getElem? hy)
                have hjI : (j : Int) < (M : Int) := by omega
                clear hy
                go_wp2
                go_big_quiet (fail)
                go_wp2
                go_roundw
                case rel => exact ⟨j + 1, _, by go_num, by omega, rfl⟩
                case measure => simp [intOf]; omega
              · obtain rfl : j = M := by omega
                have hjI : ¬ (j : Int) < (j : Int) := by omega
                go_wp2
                obtain ⟨M, rfl⟩ : ∃ x, x = j := ⟨j, rfl⟩
                go_big_quiet (fail)
                have hMc : M ≤ cx := by
                  rcases HROW.out.2 with ⟨h1, h2⟩ | ⟨g, cap, cur, h1, _, _, h3, _⟩
                  · cases h1; omega
                  · cases h1; exact h3
                have hMcI : (M : Int) ≤ (cx : Int) := by omega
                obtain ⟨w7, hw7⟩ : ∃ x, x = (wo.drewN m).drewN nq := ⟨_, rfl⟩
                rw [← hw7]
                have HB7 : Hid (Below w.heap.size w w7) := Lib.hid (by rw [hw7]; exact bdrew (bdrew HBR.out _) _)
                have HROW7 : Hid (World.ownsRow w7 w.heap.size 9 1 (.slice ax M cx) M (X.flatMap enc1)) := Lib.hid (by rw [hw7]; exact own_drewN (own_drewN HROW.out _) _)
                have hB3 : w.heap.size ≤ w7.heap.size := HB7.out.size
                clear hw7
                have HROW0 : Hid (World.ownsRow w7 w.heap.size 9 1 (.slice none 0 0) 0 []) := Lib.hid (World.ownsRow_nil _ _ _ _)
                by_cases hM0 : M = 0
                · have hXe : X = [] := List.length_eq_zero_iff.1 (HMM.out.symm.trans hM0)
                  have hve2 := HNIL.out hXe
                  injection hve2 with t1 t2 t3
                  subst t1 t2 t3
                  clear hM0
                  go_wp2_with (first
                    | (at_builtin; refine wpList_append_own_at _ rfl _ _ 44 rfl w.heap.size 9 i0 (.string ByteArray.empty) 1 16 Tryz.underlying44 hi hz0 hz1 hz2 rfl (by decide) _ _ _ rfl (World.ownsRow.alloc HROW0.out _) ⟨w7.heap.size, 0, none⟩ 1 1 [.string ((bs xp).extract 1 (bs xp).size)] rfl rfl (new_cells2 _ _ (by first | rfl | simp) _ _) (fun x hx => by simp at hx; rcases hx with rfl; rfl) (by unfold maxLen; omega) (by omega) (by simp; omega) ?_; intro v8 w8 hown8 hgrow8 _ hloc8; obtain ⟨g8, c8, hv8, hc8⟩ := own_blk hown8 (by omega); subst hv8; have HG8 := Lib.hid hgrow8; have HO8 : Hid (World.ownsRow w8 w.heap.size 9 1 (.slice (some ⟨g8, 0, none⟩) 1 c8) 1 [.string ((bs xp).extract 1 (bs xp).size)]) := Lib.hid hown8; have hz8 := hgrow8.size; clear hown8 hgrow8 hloc8)
                    | (at_builtin; refine wpList_append_src rfl _ _ 44 rfl w.heap.size 9 i0 (.string ByteArray.empty) 1 16 Tryz.underlying44 hi hz0 hz1 hz2 rfl (by decide) _ _ _ rfl HO8.out _ 0 [] rfl (Or.inl ⟨rfl, rfl, rfl⟩) (fun u hu => by cases hu) (by unfold maxLen; omega) (by omega) (by simp at hz8; omega) ?_; intro v10 w10 hown10 hgrow10; have HG10 := Lib.hid hgrow10; have HO10 : Hid (World.ownsRow w10 w.heap.size 9 1 v10 1 [.string ((bs xp).extract 1 (bs xp).size)]) := Lib.hid (by simpa using hown10); obtain ⟨g10, c10, hv10, hc10⟩ := own_blk HO10.out (by omega); subst hv10; clear hown10 hgrow10))
                  all_goals
                    have HB8 := Lib.hid ((HB7.out.alloc (by omega) _).grown HG8.out (by simp; omega) (fun g hg => (World.ownsRow.lt HROW0.out g hg).1))
                    have HB10 := Lib.hid (HB8.out.grown HG10.out (by simp at hz8; omega) (fun g hg => (World.ownsRow.lt HO8.out g hg).1))
                    have HS10 : Hid (SRow w10 w.heap.size (.slice (some ⟨g10, 0, none⟩) 1 c10) (X ++ [Disk.nm p xp])) := Lib.hid (by rw [hXe]; exact SRow.snoc (ns := []) (by rw [← HX2.out]; exact HO10.out) rfl)
                    clear HO8 HO10 HG8 HG10 hXe
                    go_roundw
                    case rel => exact ⟨i + 1, X ++ [Disk.nm p xp], _, rfl, by go_num, by omega, HNM.out, HS10.out, fun h => absurd h (by simp), HB10.out⟩
                    case measure => simp [intOf]; omega
                · obtain ⟨g, hax⟩ : ∃ g, ax = some ⟨g, 0, none⟩ := by
                    rcases HROW7.out.2 with ⟨h1, h2⟩ | ⟨g, cap, cur, h1, _⟩
                    · exact absurd h2 hM0
                    · cases h1; exact ⟨g, rfl⟩
                  subst hax
                  have HSRC : Hid ((Value.slice (some ⟨g, 0, none⟩) M cx = .slice none 0 0 ∧ M = 0 ∧ X.flatMap enc1 = []) ∨ ∃ ad c, Value.slice (some ⟨g, 0, none⟩) M cx = .slice (some ad) M c ∧ (X.flatMap enc1).length = M * 1 ∧ ∀ (j : Nat) u, (X.flatMap enc1)[j]? = some u → w7.cell? (ad.add j) = some u) := Lib.hid (Or.inr ⟨_, _, rfl, HROW7.out.1, HROW7.out.cells (g := g) rfl⟩)
                  go_wp2_with (first
                    | (at_builtin; refine wpList_append_src rfl _ _ 44 rfl w.heap.size 9 i0 (.string ByteArray.empty) 1 16 Tryz.underlying44 hi hz0 hz1 hz2 rfl (by decide) _ _ _ rfl HROW0.out _ M (X.flatMap enc1) rfl HSRC.out (one1 X) (by unfold maxLen; omega) (by omega) hB3 ?_; intro v8 w8 hown8 hgrow8; have HG8 := Lib.hid hgrow8; have HO8 : Hid (World.ownsRow w8 w.heap.size 9 1 v8 M (X.flatMap enc1)) := Lib.hid (by simpa using hown8); have hz8 := hgrow8.size; obtain ⟨g8, c8, hv8, hc8⟩ := own_blk HO8.out (by omega); subst hv8; clear hown8 hgrow8)
                    | (at_builtin; refine wpList_append_own_at _ rfl _ _ 44 rfl w.heap.size 9 i0 (.string ByteArray.empty) 1 16 Tryz.underlying44 hi hz0 hz1 hz2 rfl (by decide) _ _ _ rfl (World.ownsRow.alloc HO8.out _) ⟨w8.heap.size, 0, none⟩ 1 1 [.string ((bs xp).extract 1 (bs xp).size)] rfl rfl (new_cells2 _ _ (by first | rfl | simp) _ _) (fun x hx => by simp at hx; rcases hx with rfl; rfl) (by unfold maxLen; omega) (by omega) (by simp; omega) ?_; intro v9 w9 hown9 hgrow9 _ hloc9; have HG9 := Lib.hid hgrow9; have HO9 := Lib.hid hown9; have hz9 := hgrow9.size; obtain ⟨g9, c9, hv9, hc9⟩ := own_blk hown9 (by omega); subst hv9; clear hown9 hgrow9 hloc9))
                  all_goals
                    have HB8 := Lib.hid (HB7.out.grown HG8.out hB3 (fun g hg => (World.ownsRow.lt HROW0.out g hg).1))
                    have HB9 := Lib.hid ((HB8.out.alloc (by omega) _).grown HG9.out (by simp; omega) (fun g hg => (World.ownsRow.lt HO8.out g hg).1))
                    have HS9 : Hid (SRow w9 w.heap.size (.slice (some ⟨g9, 0, none⟩) (M + 1) c9) (X ++ [Disk.nm p xp])) := Lib.hid (SRow.snoc (by rw [← HX2.out]; exact HO9.out) HMM.out.symm)
                    clear HO8 HO9 HG8 HG9
                    go_roundw
                    case rel => exact ⟨i + 1, X ++ [Disk.nm p xp], _, rfl, by go_num, by omega, HNM.out, HS9.out, fun h => absurd h (by simp), HB9.out⟩
                    case measure => simp [intOf]; omega
        · rw [if_neg he] at hnt
          have HNM : Hid (X = Disk.names (l.take (i + 1)) p) := Lib.hid hnt.symm
          rw [decide_eq_false he] at hqe
          clear he hnt hq hxo
          go_wp2_with fail
          refine (HPAR.out _).mono ?_
          rintro e w6 ⟨rfl, rfl⟩
          obtain ⟨wo, rfl⟩ : ∃ x, x = w6 := ⟨w6, rfl⟩
          go_wp2
          go_roundw
          case rel => exact ⟨i + 1, X, _, rfl, by go_num, by omega, HNM.out, by have := HROW.out; rw [HMM.out] at this ⊢; exact this, by rw [HMM.out] at HNIL ⊢; exact HNIL.out, HBR.out⟩
          case measure => simp [intOf]; omega
      · have HXX : Hid (X = Disk.names l p) := Lib.hid (by rw [HX.out, List.take_of_length_le (by have := HNL.out; omega)])
        have hex : ¬ (i : Int) < (N : Int) := by omega
        go_wp2
        go_returns
        refine ⟨.slice ax M cx, by rw [HF.out] <;> rfl, ?_, HBR.out⟩
        rw [HF.out]
        show World.ownsRow wo w.heap.size 9 1 (.slice ax M cx) (Disk.names l p).length ((Disk.names l p).flatMap enc1)
        have := HROW.out
        rw [HMM.out] at this ⊢
        rw [← HXX.out]
        exact this
  · go_enter Tryz.func38, Tryz.ntmps38
    go_wp2_with fail
    refine HB.out.mono ?_
    rintro e w1 ⟨rfl, rfl⟩
    go_wp2_with fail
    refine HKI.out.mono ?_
    rintro e w2 ⟨rfl, rfl⟩
    obtain ⟨w, rfl⟩ : ∃ x, x = w2 := ⟨w2, rfl⟩
    go_wp2
    go_loopw [8, 9] (fun v q wr => ∃ (i : Nat) (X : List (List UInt8)) (vv : Value), vv = v ∧ q = .int .i64 i ∧ i ≤ N ∧ X = Disk.names (l.take i) p ∧ SRow wr w.heap.size vv X ∧ (X = [] → vv = .slice none 0 0) ∧ Below w.heap.size w wr) (fun _ q _ => N - (intOf q).toNat)
    case atStart => exact ⟨0, [], _, rfl, rfl, by omega, rfl, World.ownsRow_nil _ _ _ _, fun _ => rfl, Below.refl _ _⟩
    case round =>
      obtain ⟨i, X, v, rfl, rfl, hi', hX, hrow, hnil, hBr⟩ := hrel
      obtain ⟨wo, rfl⟩ : ∃ x, x = wr := ⟨wr, rfl⟩
      have HX := Lib.hid hX
      have HNIL := Lib.hid hnil
      have HBR := Lib.hid hBr
      have hXl : X.length ≤ 1099511627776 := by
        rw [hX]
        have h1 := Disk.names_length (l.take i) p
        have h2 : (l.take i).length ≤ l.length := by rw [List.length_take]; omega
        exact Nat.le_trans h1 (Nat.le_trans h2 hn)
      obtain ⟨ax, cx, rfl⟩ := own_form hrow
      obtain ⟨M, hMM⟩ : ∃ M, M = X.length := ⟨_, rfl⟩
      have HROW : Hid (World.ownsRow wo w.heap.size 9 1 (.slice ax M cx) M (X.flatMap enc1)) := Lib.hid (by rw [hMM]; exact hrow)
      rw [← hMM] at hXl HNIL ⊢
      have HMM := Lib.hid hMM
      have k0 := (hBr.cell (p := ⟨rd, 0, none⟩) hrdl).trans c0
      have hzr := hBr.size
      clear hX hrow hnil hBr hMM
      by_cases hiN : i < N
      · obtain ⟨f, hf⟩ : ∃ f, (fls l)[i]? = some f := ⟨_, List.getElem?_eq_getElem (by have := HN.out; omega)⟩
        obtain ⟨bk, o, cap, hve, hbB, hbc⟩ := HFI.out.at (by have := HN.out; omega)
        rw [← HN.out] at hve
        cases hve
        obtain ⟨f1, _, _⟩ := hbc i f hf
        rw [← HBR.out.cell (p := ⟨bk, o + i * 3, none⟩) hbB] at f1
        have HL := Lib.hid (fls_at hf)
        obtain ⟨xp, xd, xt⟩ := f
        dsimp only at f1 HL
        have hxo := HOK.out _ (List.mem_of_getElem? HL.out)
        have hxl : xp.length ≤ 4096 := Disk.pathOk_length hxo
        have HPAR := Lib.hid (rparent_any (bs xp) (by show xp.toArray.size ≤ _; simp; omega))
        rw [bs_list] at HPAR
        have hiI : (i : Int) < (N : Int) := by omega
        obtain ⟨q, hq⟩ : ∃ q, q = Disk.parent xp := ⟨_, rfl⟩
        rw [← hq] at HPAR
        have hqe := sv_inj (a := q) (b := p)
        have hnt := Disk.names_take HL.out p
        rw [← hq, ← HX.out] at hnt
        clear hf hbc
        by_cases he : q = p
        · have hsplit := Disk.parent_split hxo (hq.symm.trans he)
          rw [if_pos he] at hnt
          have HNM : Hid (X ++ [Disk.nm p xp] = Disk.names (l.take (i + 1)) p) := Lib.hid hnt.symm
          rw [decide_eq_true he] at hqe
          clear he hnt hq hxo
          have hroot : p = [47] := of_decide_eq_true HRT.out.symm
          have hK : (Disk.pre p).length = 1 := by unfold Disk.pre; rw [if_pos hroot]; rfl
          obtain ⟨K, hKK⟩ : ∃ K, K = (Disk.pre p).length := ⟨_, rfl⟩
          have hKs : K ≤ xp.length := by
            have hlen : xp.length = (Disk.pre p).length + (Disk.nm p xp).length := (congrArg List.length hsplit).trans List.length_append
            rw [hKK, hlen]
            exact Nat.le_add_right _ _
          have HX2 : Hid ((bs xp).extract K (bs xp).size = bs (Disk.nm p xp)) := Lib.hid (by
            rw [← bs_of ((bs xp).extract K (bs xp).size)]
            congr 1
            unfold Disk.nm
            rw [← hKK]
            simp [List.extract]
            exact List.take_of_length_le (by simp))
          have hsxp : (bs xp).size = xp.length := by show xp.toArray.size = _; simp
          have hK0 : (0 : Int) ≤ (K : Int) := by omega
          have hKI : (K : Int) ≤ ((bs xp).size : Int) := by rw [hsxp]; omega
          have HLESS : Hid (∀ y ∈ X, Op.bytesLess (bs y).toList ((bs xp).extract K (bs xp).size).toList = true) := Lib.hid (fun y hy => by
            rw [HX2.out, bs_toList, bs_toList, bless]
            have h1 := Disk.names_rise (l := l.take (i + 1)) (HRI.out.sublist (List.take_sublist _ _)) (fun x hx => HOK.out x (List.mem_of_mem_take hx)) p
            rw [← HNM.out] at h1
            exact (List.pairwise_append.1 h1).2.2 y hy _ (List.mem_singleton.2 rfl))
          obtain rfl : K = 1 := by omega
          clear hK hKK hsxp hroot hsplit
          go_wp2_with fail
          refine (HPAR.out _).mono ?_
          rintro e w6 ⟨rfl, rfl⟩
          obtain ⟨wo, rfl⟩ : ∃ x, x = w6 := ⟨w6, rfl⟩
          go_wp2
          go_loopw [12] (fun q wr => ∃ j m : Nat, q = .int .i64 j ∧ j ≤ M ∧ wr = wo.drewN m) (fun q _ => M - (intOf q).toNat)
          case atStart => exact ⟨0, 0, rfl, by omega, rfl⟩
          case round =>
            obtain ⟨j, m, rfl, hj, rfl⟩ := hrel
            by_cases hjM : j < M
            · obtain ⟨y, hy⟩ : ∃ y, X[j]? = some y := ⟨_, List.getElem?_eq_getElem (by have := HMM.out; omega)⟩
              obtain ⟨g, hax⟩ : ∃ g, ax = some ⟨g, 0, none⟩ := by
                rcases HROW.out.2 with ⟨h1, h2⟩ | ⟨g, cap, cur, h1, _⟩
                · omega
                · cases h1; exact ⟨g, rfl⟩
              subst hax
              have hcy : wo.cell? ⟨g, j, none⟩ = some (.string (bs y)) := by
                rw [World.ownsRow.cellAt HROW.out j (by omega)]
                exact enc1_at X j y hy
              have hls := HLESS.out y (List.mem_of_getElem? hy)
              have hjI : (j : Int) < (M : Int) := by omega
              clear hy
              go_wp2
              go_big_quiet (fail)
              go_wp2
              go_roundw
              case rel => exact ⟨j + 1, _, by go_num, by omega, rfl⟩
              case measure => simp [intOf]; omega
            · obtain rfl : j = M := by omega
              have hjI : ¬ (j : Int) < (j : Int) := by omega
              go_wp2
              obtain ⟨M, rfl⟩ : ∃ x, x = j := ⟨j, rfl⟩
              go_big_quiet (fail)
              have hMc : M ≤ cx := by
                rcases HROW.out.2 with ⟨h1, h2⟩ | ⟨g, cap, cur, h1, _, _, h3, _⟩
                · cases h1; omega
                · cases h1; exact h3
              have hMcI : (M : Int) ≤ (cx : Int) := by omega
              obtain ⟨w7, hw7⟩ : ∃ x, x = (wo.drewN m).drewN nq := ⟨_, rfl⟩
              rw [← hw7]
              have HB7 : Hid (Below w.heap.size w w7) := Lib.hid (by rw [hw7]; exact bdrew (bdrew HBR.out _) _)
              have HROW7 : Hid (World.ownsRow w7 w.heap.size 9 1 (.slice ax M cx) M (X.flatMap enc1)) := Lib.hid (by rw [hw7]; exact own_drewN (own_drewN HROW.out _) _)
              have hB3 : w.heap.size ≤ w7.heap.size := HB7.out.size
              clear hw7
              have HROW0 : Hid (World.ownsRow w7 w.heap.size 9 1 (.slice none 0 0) 0 []) := Lib.hid (World.ownsRow_nil _ _ _ _)
              by_cases hM0 : M = 0
              · have hXe : X = [] := List.length_eq_zero_iff.1 (HMM.out.symm.trans hM0)
                have hve2 := HNIL.out hXe
                injection hve2 with t1 t2 t3
                subst t1 t2 t3
                clear hM0
                go_wp2_with (first
                  | (at_builtin; refine wpList_append_own_at _ rfl _ _ 44 rfl w.heap.size 9 i0 (.string ByteArray.empty) 1 16 Tryz.underlying44 hi hz0 hz1 hz2 rfl (by decide) _ _ _ rfl (World.ownsRow.alloc HROW0.out _) ⟨w7.heap.size, 0, none⟩ 1 1 [.string ((bs xp).extract 1 (bs xp).size)] rfl rfl (new_cells2 _ _ (by first | rfl | simp) _ _) (fun x hx => by simp at hx; rcases hx with rfl; rfl) (by unfold maxLen; omega) (by omega) (by simp; omega) ?_; intro v8 w8 hown8 hgrow8 _ hloc8; obtain ⟨g8, c8, hv8, hc8⟩ := own_blk hown8 (by omega); subst hv8; have HG8 := Lib.hid hgrow8; have HO8 : Hid (World.ownsRow w8 w.heap.size 9 1 (.slice (some ⟨g8, 0, none⟩) 1 c8) 1 [.string ((bs xp).extract 1 (bs xp).size)]) := Lib.hid hown8; have hz8 := hgrow8.size; clear hown8 hgrow8 hloc8)
                  | (at_builtin; refine wpList_append_src rfl _ _ 44 rfl w.heap.size 9 i0 (.string ByteArray.empty) 1 16 Tryz.underlying44 hi hz0 hz1 hz2 rfl (by decide) _ _ _ rfl HO8.out _ 0 [] rfl (Or.inl ⟨rfl, rfl, rfl⟩) (fun u hu => by cases hu) (by unfold maxLen; omega) (by omega) (by simp at hz8; omega) ?_; intro v10 w10 hown10 hgrow10; have HG10 := Lib.hid hgrow10; have HO10 : Hid (World.ownsRow w10 w.heap.size 9 1 v10 1 [.string ((bs xp).extract 1 (bs xp).size)]) := Lib.hid (by simpa using hown10); obtain ⟨g10, c10, hv10, hc10⟩ := own_blk HO10.out (by omega); subst hv10; clear hown10 hgrow10))
                all_goals
                  have HB8 := Lib.hid ((HB7.out.alloc (by omega) _).grown HG8.out (by simp; omega) (fun g hg => (World.ownsRow.lt HROW0.out g hg).1))
                  have HB10 := Lib.hid (HB8.out.grown HG10.out (by simp at hz8; omega) (fun g hg => (World.ownsRow.lt HO8.out g hg).1))
                  have HS10 : Hid (SRow w10 w.heap.size (.slice (some ⟨g10, 0, none⟩) 1 c10) (X ++ [Disk.nm p xp])) := Lib.hid (by rw [hXe]; exact SRow.snoc (ns := []) (by rw [← HX2.out]; exact HO10.out) rfl)
                  clear HO8 HO10 HG8 HG10 hXe
                  go_roundw
                  case rel => exact ⟨i + 1, X ++ [Disk.nm p xp], _, rfl, by go_num, by omega, HNM.out, HS10.out, fun h => absurd h (by simp), HB10.out⟩
                  case measure => simp [intOf]; omega
              · obtain ⟨g, hax⟩ : ∃ g, ax = some ⟨g, 0, none⟩ := by
                  rcases HROW7.out.2 with ⟨h1, h2⟩ | ⟨g, cap, cur, h1, _⟩
                  · exact absurd h2 hM0
                  · cases h1; exact ⟨g, rfl⟩
                subst hax
                have HSRC : Hid ((Value.slice (some ⟨g, 0, none⟩) M cx = .slice none 0 0 ∧ M = 0 ∧ X.flatMap enc1 = []) ∨ ∃ ad c, Value.slice (some ⟨g, 0, none⟩) M cx = .slice (some ad) M c ∧ (X.flatMap enc1).length = M * 1 ∧ ∀ (j : Nat) u, (X.flatMap enc1)[j]? = some u → w7.cell? (ad.add j) = some u) := Lib.hid (Or.inr ⟨_, _, rfl, HROW7.out.1, HROW7.out.cells (g := g) rfl⟩)
                go_wp2_with (first
                  | (at_builtin; refine wpList_append_src rfl _ _ 44 rfl w.heap.size 9 i0 (.string ByteArray.empty) 1 16 Tryz.underlying44 hi hz0 hz1 hz2 rfl (by decide) _ _ _ rfl HROW0.out _ M (X.flatMap enc1) rfl HSRC.out (one1 X) (by unfold maxLen; omega) (by omega) hB3 ?_; intro v8 w8 hown8 hgrow8; have HG8 := Lib.hid hgrow8; have HO8 : Hid (World.ownsRow w8 w.heap.size 9 1 v8 M (X.flatMap enc1)) := Lib.hid (by simpa using hown8); have hz8 := hgrow8.size; obtain ⟨g8, c8, hv8, hc8⟩ := own_blk HO8.out (by omega); subst hv8; clear hown8 hgrow8)
                  | (at_builtin; refine wpList_append_own_at _ rfl _ _ 44 rfl w.heap.size 9 i0 (.string ByteArray.empty) 1 16 Tryz.underlying44 hi hz0 hz1 hz2 rfl (by decide) _ _ _ rfl (World.ownsRow.alloc HO8.out _) ⟨w8.heap.size, 0, none⟩ 1 1 [.string ((bs xp).extract 1 (bs xp).size)] rfl rfl (new_cells2 _ _ (by first | rfl | simp) _ _) (fun x hx => by simp at hx; rcases hx with rfl; rfl) (by unfold maxLen; omega) (by omega) (by simp; omega) ?_; intro v9 w9 hown9 hgrow9 _ hloc9; have HG9 := Lib.hid hgrow9; have HO9 := Lib.hid hown9; have hz9 := hgrow9.size; obtain ⟨g9, c9, hv9, hc9⟩ := own_blk hown9 (by omega); subst hv9; clear hown9 hgrow9 hloc9))
                all_goals
                  have HB8 := Lib.hid (HB7.out.grown HG8.out hB3 (fun g hg => (World.ownsRow.lt HROW0.out g hg).1))
                  have HB9 := Lib.hid ((HB8.out.alloc (by omega) _).grown HG9.out (by simp; omega) (fun g hg => (World.ownsRow.lt HO8.out g hg).1))
                  have HS9 : Hid (SRow w9 w.heap.size (.slice (some ⟨g9, 0, none⟩) (M + 1) c9) (X ++ [Disk.nm p xp])) := Lib.hid (SRow.snoc (by rw [← HX2.out]; exact HO9.out) HMM.out.symm)
                  clear HO8 HO9 HG8 HG9
                  go_roundw
                  case rel => exact ⟨i + 1, X ++ [Disk.nm p xp], _, rfl, by go_num, by omega, HNM.out, HS9.out, fun h => absurd h (by simp), HB9.out⟩
                  case measure => simp [intOf]; omega
        · rw [if_neg he] at hnt
          have HNM : Hid (X = Disk.names (l.take (i + 1)) p) := Lib.hid hnt.symm
          rw [decide_eq_false he] at hqe
          clear he hnt hq hxo
          go_wp2_with fail
          refine (HPAR.out _).mono ?_
          rintro e w6 ⟨rfl, rfl⟩
          obtain ⟨wo, rfl⟩ : ∃ x, x = w6 := ⟨w6, rfl⟩
          go_wp2
          go_roundw
          case rel => exact ⟨i + 1, X, _, rfl, by go_num, by omega, HNM.out, by have := HROW.out; rw [HMM.out] at this ⊢; exact this, by rw [HMM.out] at HNIL ⊢; exact HNIL.out, HBR.out⟩
          case measure => simp [intOf]; omega
      · have HXX : Hid (X = Disk.names l p) := Lib.hid (by rw [HX.out, List.take_of_length_le (by have := HNL.out; omega)])
        have hex : ¬ (i : Int) < (N : Int) := by omega
        go_wp2
        go_returns
        refine ⟨.slice ax M cx, by rw [HF.out] <;> rfl, ?_, HBR.out⟩
        rw [HF.out]
        show World.ownsRow wo w.heap.size 9 1 (.slice ax M cx) (Disk.names l p).length ((Disk.names l p).flatMap enc1)
        have := HROW.out
        rw [HMM.out] at this ⊢
        rw [← HXX.out]
        exact this

end Go.Proofs.YtnfklomokjhojaaGreatDoor
