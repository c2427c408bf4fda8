/- DeltaBack's walk. -/
import Derived.Test.YtnfklomokjhojaaDoorDeltaBackP
import Derived.Test.YtnfklomokjhojaaDoorDeltaLeast
namespace Go.Proofs.YtnfklomokjhojaaDoor
open Go.RowKit Go.Maps
set_option linter.unusedSimpArgs false
set_option linter.unusedVariables false
/-- Block b is an array of five numbers. -/
structure Arr (w : World) (b : Nat) (f : Int → Nat) : Prop where
  cell : ∀ j : Nat, j < 5 → w.cell? ⟨b, j, none⟩ = some (.int .i64 (f j))
  frz : ∀ j : Nat, w.frozen? ⟨b, j, none⟩ = false
theorem Arr.next {w : World} {b c m : Nat} {f g : Int → Nat} (h : Arr w b f) (hc : c < 5) (hg : ∀ k : Int, g k = if (c : Int) = k then f k + 1 else f k) (hm : m = f c) : Arr (w.setCell ⟨b, c, none⟩ (.int .i64 ((m : Int) + 1))) b g := by
  refine ⟨fun j hj => ?_, fun j => by rw [World.frozen?_setCell]; exact h.frz j⟩
  by_cases hjc : c = j
  · subst hjc
    rw [World.cell?_setCell_same' _ _ _ (by rw [h.cell c hc]; rfl), hg, if_pos rfl, hm]
    simp
  · rw [World.cell?_setCell_other _ _ _ _ (by simp [hjc]), h.cell j hj, hg, if_neg (by omega)]
theorem Arr.other {w : World} {b b' c : Nat} {f : Int → Nat} {v : Value} (h : Arr w b f) (hb : b ≠ b') : Arr (w.setCell ⟨b', c, none⟩ v) b f :=
  ⟨fun j hj => by rw [World.cell?_setCell_other _ _ _ _ (by simp [hb])]; exact h.cell j hj, fun j => by rw [World.frozen?_setCell]; exact h.frz j⟩
set_option maxHeartbeats 8000000 in
set_option maxRecDepth 100000 in
theorem delta_back_law {w : World} {v1 v2 : Value} {before after : List Disk.Fl} (h1 : Files w w.heap.size v1 before) (h2 : Files w w.heap.size v2 after) (hE : Env w) (hn1 : before.length ≤ 1048576) (hsz1 : ∀ f ∈ before, f.path.length ≤ 1048576 ∧ f.data.length ≤ 1048576) (hn2 : after.length ≤ 1048576) (hsz2 : ∀ f ∈ after, f.path.length ≤ 1048576 ∧ f.data.length ≤ 1048576) :
    Calls Tryd.prog 5 #[v1, v2] w fun e w' => e = .returned (.bool true) ∧ Below w.heap.size w w' := by
  have HD1 := Lib.hid (delta_any h1 h2 (Nat.le_refl _) hE hn1 hsz1 hn2 hsz2)
  have HD2 := Lib.hid (fun (W : World) (hb : Below w.heap.size w W) => delta_any (h2.below hb (Nat.le_refl _)) (h1.below hb (Nat.le_refl _)) hb.size (hE.below hb (Nat.le_refl _)) hn2 hsz2 hn1 hsz1)
  have HE := Lib.hid (fun (W : World) (hb : Below w.heap.size w W) => lives_any W (hE.below hb (Nat.le_refl _)))
  obtain ⟨a1, c1, rfl⟩ := h1.form
  obtain ⟨a2, c2, rfl⟩ := h2.form
  obtain ⟨N1, hN1⟩ : ∃ N, N = before.length := ⟨_, rfl⟩
  obtain ⟨N2, hN2⟩ : ∃ N, N = after.length := ⟨_, rfl⟩
  rw [← hN1] at HD1 HD2 hn1 ⊢
  rw [← hN2] at HD1 HD2 hn2 ⊢
  have HN := Lib.hid (And.intro hN1 hN2)
  clear h1 h2 hsz1 hsz2 hN1 hN2 hE
  rcases Disk.res_cases before after with hbad | ⟨a, b, hla, hlb, hra, hrb, hres⟩
  · have HB := Lib.hid hbad
    have HB' := Lib.hid (Disk.res_bad hbad)
    clear hbad
    go_enter Tryd.func5, Tryd.ntmps5
    go_wp2_with fail
    refine HD1.out.mono ?_
    rintro e w2 ⟨v2, rfl, hd2, hb2⟩
    rw [HB.out] at hd2 ⊢
    obtain ⟨a3, c3, rfl⟩ := own_form hd2
    clear hd2
    go_wp2_with fail
    refine (HD2.out _ hb2).mono ?_
    rintro e w3 ⟨v3, rfl, hd3, hb3⟩
    rw [HB'.out] at hd3 ⊢
    obtain ⟨a4, c4, rfl⟩ := own_form hd3
    have HB3 := Lib.hid (hb2.trans (hb3.mono hb2.size))
    clear hd3
    go_wp2_with fail
    refine (HE.out _ HB3.out).mono ?_
    rintro e w4 ⟨rfl, hb4⟩
    go_wp2
    go_returns
    exact ⟨rfl, HB3.out.trans (hb4.mono HB3.out.size)⟩
  · have HRES := Lib.hid hres
    have HBACK := Lib.hid (Disk.res_back hra hrb)
    obtain ⟨ds, hds⟩ : ∃ ds, ds = Disk.delta a b := ⟨_, rfl⟩
    obtain ⟨ms, hms⟩ : ∃ ms, ms = Disk.delta b a := ⟨_, rfl⟩
    have HCNT := Lib.hid (Disk.counts hla hlb)
    have HMET : Hid (∀ d ∈ ds, (ms.any fun x => decide (x.path = d.path)) = true) := Lib.hid (fun d hd => by
      rw [hds] at hd
      obtain ⟨x, hx, e⟩ := Disk.parts (fun e => Disk.least hla.rises hlb.rises hd e.symm)
      rw [hms]
      exact List.any_eq_true.2 ⟨x, hx, decide_eq_true e⟩)
    have HK1 : Hid (∀ d ∈ ds, ∃ c : Nat, d.kind = c ∧ 1 ≤ c ∧ c ≤ 4) := Lib.hid (fun d hd => Disk.kinds (by rw [hds] at hd; exact hd))
    have HK2 : Hid (∀ d ∈ ms, ∃ c : Nat, d.kind = c ∧ 1 ≤ c ∧ c ≤ 4) := Lib.hid (fun d hd => Disk.kinds (by rw [hms] at hd; exact hd))
    have hlen : ds.length ≤ 4194304 := by
      have := Disk.delta_length hla hlb
      have := HN.out
      rw [hds]; omega
    have hlen2 : ms.length ≤ 4194304 := by
      have := Disk.delta_length hlb hla
      have := HN.out
      rw [hms]; omega
    rw [← hds] at HRES HCNT
    rw [← hms] at HBACK HCNT
    clear hla hlb hra hrb hres hds hms
    obtain ⟨n, hn⟩ : ∃ n, n = ds.length := ⟨_, rfl⟩
    obtain ⟨M, hM⟩ : ∃ M, M = ms.length := ⟨_, rfl⟩
    have HNN := Lib.hid hn
    have HM := Lib.hid hM
    rw [← hn] at hlen
    rw [← hM] at hlen2
    clear hn hM
    go_enter Tryd.func5, Tryd.ntmps5
    go_wp2_with fail
    refine HD1.out.mono ?_
    rintro e w2 ⟨v2, rfl, hd2, hb2⟩
    rw [HRES.out] at hd2 ⊢
    have hdd2 := hd2.dds
    obtain ⟨a3, c3, rfl⟩ := own_form hd2
    rw [← HNN.out] at hdd2 ⊢
    have HDD2 := Lib.hid hdd2
    clear hd2 hdd2
    go_wp2_with fail
    refine (HD2.out _ hb2).mono ?_
    rintro e w3 ⟨v3, rfl, hd3, hb3⟩
    rw [HBACK.out] at hd3 ⊢
    have hdd3 := hd3.dds
    obtain ⟨a4, c4, rfl⟩ := own_form hd3
    rw [← HM.out] at hdd3 ⊢
    have HDM := Lib.hid hdd3
    have HDD := Lib.hid (HDD2.out.below hb3 (Nat.le_refl _))
    have HB3 := Lib.hid (hb2.trans (hb3.mono hb2.size))
    have hz3 := hb3.size
    have hz2 := hb2.size
    clear hd3 hdd3
    go_wp2
    go_loopw [9] (fun p wr => ∃ i : Nat, p = .int .i64 i ∧ i ≤ n ∧ Below w3.heap.size w3 wr) (fun p _ => n - (intOf p).toNat)
    case atStart => exact ⟨0, rfl, by omega, Below.refl _ _⟩
    case round =>
      obtain ⟨i, rfl, hi, hBr⟩ := hrel
      obtain ⟨wq, rfl⟩ : ∃ x, x = wr := ⟨wr, rfl⟩
      by_cases hin : i < n
      · obtain ⟨d, hd⟩ : ∃ d, ds[i]? = some d := ⟨_, List.getElem?_eq_getElem (by have := HNN.out; omega)⟩
        obtain ⟨bk, o, cap, hve, hbk, hcell⟩ := HDD.out.at (by have := HNN.out; omega)
        rw [← HNN.out] at hve
        cases hve
        have hdc := (hcell i d hd).2.1
        have HDM1 := Lib.hid (List.mem_of_getElem? hd)
        have hinI : (i : Int) < (n : Int) := by omega
        have HBR := Lib.hid hBr
        clear hcell hd hBr
        go_wp2
        go_loopw [10, 11] (fun q p wr => ∃ (k : Nat) (f : Bool), p = .int .i64 k ∧ q = .bool f ∧ k ≤ M ∧ f = ((ms.take k).any fun x => decide (x.path = d.path)) ∧ Below w3.heap.size w3 wr) (fun _ p _ => M - (intOf p).toNat)
        case atStart => exact ⟨0, false, rfl, rfl, by omega, rfl, HBR.out⟩
        case round =>
          obtain ⟨k, f, rfl, rfl, hk, hf, hBk⟩ := hrel
          obtain ⟨wo, rfl⟩ : ∃ x, x = wr := ⟨wr, rfl⟩
          have HF := Lib.hid hf
          clear hf
          by_cases hkn : k < M
          · obtain ⟨x, hx⟩ : ∃ x, ms[k]? = some x := ⟨_, List.getElem?_eq_getElem (by have := HM.out; omega)⟩
            obtain ⟨bm, om, capm, hve, hbm, hcm⟩ := HDM.out.at (by have := HM.out; omega)
            rw [← HM.out] at hve
            cases hve
            have hxc := (hcm k x hx).2.1
            have hknI : (k : Int) < (M : Int) := by omega
            have HBK := Lib.hid hBk
            have hzk := HBK.out.size
            rw [← HBK.out.cell (p := ⟨bm, om + k * 3 + 1, none⟩) (by show bm < _; omega)] at hxc
            have hdc2 := hdc
            rw [← HBK.out.cell (p := ⟨bk, o + i * 3 + 1, none⟩) (by show bk < _; omega)] at hdc2
            have hq := sv_inj (a := x.path) (b := d.path)
            have HNX : Hid (((ms.take (k + 1)).any fun x => decide (x.path = d.path)) = (f || decide (x.path = d.path))) := Lib.hid (by
              rw [List.take_add_one, hx, List.any_append, HF.out]
              simp)
            have hbmw : bm < wo.heap.size := by omega
            have hbkw : bk < wo.heap.size := by omega
            clear hcm hx hBk
            cases f
            · cases hpp : decide (x.path = d.path)
              all_goals
                rw [hpp] at hq
                have HNN := HNX.out
                rw [hpp] at HNN
                have HN2 := Lib.hid HNN
                clear hpp HNN
                go_wp2
                go_big_quiet (fail)
                go_wp2
                go_roundw
                case rel => exact ⟨k + 1, _, by go_num, rfl, by omega, HN2.out.symm, Below.drewN HBK.out _⟩
                case measure => simp [intOf]; omega
            · have HN2 : Hid (((ms.take (k + 1)).any fun x => decide (x.path = d.path)) = true) := Lib.hid (by rw [HNX.out]; rfl)
              clear hq
              go_wp2
              go_big_quiet (fail)
              go_wp2
              go_roundw
              case rel => exact ⟨k + 1, _, by go_num, rfl, by omega, HN2.out.symm, Below.drewN HBK.out _⟩
              case measure => simp [intOf]; omega
          · have hfull : ms.take k = ms := List.take_of_length_le (by have := HM.out; omega)
            have hft : f = true := by rw [HF.out, hfull]; exact HMET.out d HDM1.out
            subst hft
            clear hfull
            go_wp2
            go_roundw
            case rel => exact ⟨i + 1, by go_num, by omega, hBk⟩
            case measure => simp [intOf]; omega
      · have HBR := Lib.hid hBr
        have hzq := hBr.size
        clear hBr
        go_wp2
        obtain ⟨w4, hw4⟩ : ∃ x, x = (wq.alloc (.cells #[.int .i64 0, .int .i64 0, .int .i64 0, .int .i64 0, .int .i64 0] 34)).alloc (.cells #[.int .i64 0, .int .i64 0, .int .i64 0, .int .i64 0, .int .i64 0] 34) := ⟨_, rfl⟩
        obtain ⟨ub, hub⟩ : ∃ x, x = wq.heap.size + 1 := ⟨_, rfl⟩
        obtain ⟨tb, htb⟩ : ∃ x, x = wq.heap.size := ⟨_, rfl⟩
        have HA0 : Hid (Arr w4 tb (fun _ => 0) ∧ Arr w4 ub (fun _ => 0)) := Lib.hid (by
          have g1 : w4.heap[tb]? = some (.cells #[.int .i64 0, .int .i64 0, .int .i64 0, .int .i64 0, .int .i64 0] 34) := by
            rw [hw4, htb]; show ((wq.heap.push _).push _)[wq.heap.size]? = _; rw [Array.getElem?_push, if_neg (by simp), Array.getElem?_push_size]
          have g2 : w4.heap[ub]? = some (.cells #[.int .i64 0, .int .i64 0, .int .i64 0, .int .i64 0, .int .i64 0] 34) := by
            rw [hw4, hub]; show ((wq.heap.push _).push _)[wq.heap.size + 1]? = _; rw [Array.getElem?_push, if_pos (by simp)]
          have key : ∀ b, w4.heap[b]? = some (.cells #[.int .i64 0, .int .i64 0, .int .i64 0, .int .i64 0, .int .i64 0] 34) → Arr w4 b (fun _ => 0) := fun b h => ⟨fun j hj => by
            rw [Go.Lib.cell_of_heap h]
            match j, hj with
            | 0, _ => rfl
            | 1, _ => rfl
            | 2, _ => rfl
            | 3, _ => rfl
            | 4, _ => rfl, fun j => Go.Lib.frozen_of_heap h j⟩
          exact ⟨key _ g1, key _ g2⟩)
        have hb4 : Below tb wq w4 := by rw [hw4, htb]; exact ((Below.refl _ _).alloc (Nat.le_refl _) _).alloc (by simp) _
        have HW4 : Hid (∀ W, Below tb w4 W → Below w3.heap.size w3 W) := Lib.hid (fun W hW => HBR.out.trans ((hb4.trans hW).mono (by omega)))
        have FINB : Hid (∀ W, Below tb w4 W → Below w.heap.size w W) := Lib.hid (fun W hW => HB3.out.trans ((HW4.out W hW).mono (by omega)))
        have htu : tb < ub := by omega
        have htw : w3.heap.size ≤ tb := by omega
        rw [← hw4, ← hub, ← htb]
        clear hw4 hub htb hb4 HBR
        go_loopw [14] (fun p wr => ∃ i : Nat, p = .int .i64 i ∧ i ≤ n ∧ Arr wr tb (fun k => Disk.cnt k (ds.take i)) ∧ Arr wr ub (fun _ => 0) ∧ Below tb w4 wr) (fun p _ => n - (intOf p).toNat)
        case atStart => exact ⟨0, rfl, by omega, HA0.out.1, HA0.out.2, Below.refl _ _⟩
        case round =>
          obtain ⟨i, rfl, hi, hT, hO, hBr⟩ := hrel
          obtain ⟨wo, rfl⟩ : ∃ x, x = wr := ⟨wr, rfl⟩
          have HT := Lib.hid hT
          have HO := Lib.hid hO
          have HBR := Lib.hid hBr
          have HBW := Lib.hid (HW4.out _ hBr)
          clear hT hO hBr
          by_cases hin : i < n
          · obtain ⟨d, hd⟩ : ∃ d, ds[i]? = some d := ⟨_, List.getElem?_eq_getElem (by have := HNN.out; omega)⟩
            obtain ⟨bk, o, cap, hve, hbk, hcell⟩ := HDD.out.at (by have := HNN.out; omega)
            rw [← HNN.out] at hve
            cases hve
            have hdc := (hcell i d hd).1
            rw [← HBW.out.cell (p := ⟨bk, o + i * 3, none⟩) (by show bk < _; omega)] at hdc
            obtain ⟨c, hc, hc1, hc4⟩ := HK1.out d (List.mem_of_getElem? hd)
            rw [hc] at hdc
            have HNX := Lib.hid (fun k : Int => Disk.cnt_next hd k)
            have HCK := Lib.hid hc
            have hinI : (i : Int) < (n : Int) := by omega
            have hcl := Disk.cnt_le (c : Int) (ds.take i)
            have hcl2 : (ds.take i).length ≤ n := by rw [List.length_take]; omega
            have hcell2 := HT.out.cell c (by omega)
            have hfz := HT.out.frz c
            obtain ⟨m, hm⟩ : ∃ m, m = Disk.cnt (c : Int) (ds.take i) := ⟨_, rfl⟩
            rw [← hm] at hcell2 hcl
            have HM2 := Lib.hid hm
            have k1 : ¬ ((c : Int) < 1) := by omega
            have k2 : ¬ ((4 : Int) < (c : Int)) := by omega
            have k3 : (0 : Int) ≤ (c : Int) := by omega
            have k4 : (c : Int) < 5 := by omega
            have k5 : IntKind.i64.wrap ((m : Int) + 1) = (m : Int) + 1 := IntWalk.i64_in _ (by omega)
            clear hcell hd hc hm
            go_wp2
            go_roundw
            case rel => exact ⟨i + 1, by go_num, by omega, HT.out.next (by omega) (fun k => by rw [HNX.out, HCK.out]) HM2.out, HO.out.other (by omega), HBR.out.setCell (p := ⟨tb, c, none⟩) (by show _ ≤ tb; omega) _⟩
            case measure => simp [intOf]; omega
          · have hfull : ds.take i = ds := List.take_of_length_le (by have := HNN.out; omega)
            have HT0 : Hid (Arr wo tb (fun k => Disk.cnt k ds)) := Lib.hid (by have := HT.out; rw [hfull] at this; exact this)
            have HU0 := HO
            have HB0 := HBR
            clear hfull HT HO HBR HBW
            go_wp2
            go_loopw [15] (fun p wr => ∃ i : Nat, p = .int .i64 i ∧ i ≤ M ∧ Arr wr ub (fun k => Disk.cnt k (ms.take i)) ∧ Arr wr tb (fun k => Disk.cnt k ds) ∧ Below tb w4 wr) (fun p _ => M - (intOf p).toNat)
            case atStart => exact ⟨0, rfl, by omega, HU0.out, HT0.out, HB0.out⟩
            case round =>
              obtain ⟨i, rfl, hi, hT, hO, hBr⟩ := hrel
              obtain ⟨wo, rfl⟩ : ∃ x, x = wr := ⟨wr, rfl⟩
              have HT := Lib.hid hT
              have HO := Lib.hid hO
              have HBR := Lib.hid hBr
              have HBW := Lib.hid (HW4.out _ hBr)
              clear hT hO hBr
              by_cases hin : i < M
              · obtain ⟨d, hd⟩ : ∃ d, ms[i]? = some d := ⟨_, List.getElem?_eq_getElem (by have := HM.out; omega)⟩
                obtain ⟨bk, o, cap, hve, hbk, hcell⟩ := HDM.out.at (by have := HM.out; omega)
                rw [← HM.out] at hve
                cases hve
                have hdc := (hcell i d hd).1
                rw [← HBW.out.cell (p := ⟨bk, o + i * 3, none⟩) (by show bk < _; omega)] at hdc
                obtain ⟨c, hc, hc1, hc4⟩ := HK2.out d (List.mem_of_getElem? hd)
                rw [hc] at hdc
                have HNX := Lib.hid (fun k : Int => Disk.cnt_next hd k)
                have HCK := Lib.hid hc
                have hinI : (i : Int) < (M : Int) := by omega
                have hcl := Disk.cnt_le (c : Int) (ms.take i)
                have hcl2 : (ms.take i).length ≤ M := by rw [List.length_take]; omega
                have hcell2 := HT.out.cell c (by omega)
                have hfz := HT.out.frz c
                obtain ⟨m, hm⟩ : ∃ m, m = Disk.cnt (c : Int) (ms.take i) := ⟨_, rfl⟩
                rw [← hm] at hcell2 hcl
                have HM2 := Lib.hid hm
                have k1 : ¬ ((c : Int) < 1) := by omega
                have k2 : ¬ ((4 : Int) < (c : Int)) := by omega
                have k3 : (0 : Int) ≤ (c : Int) := by omega
                have k4 : (c : Int) < 5 := by omega
                have k5 : IntKind.i64.wrap ((m : Int) + 1) = (m : Int) + 1 := IntWalk.i64_in _ (by omega)
                clear hcell hd hc hm
                go_wp2
                go_roundw
                case rel => exact ⟨i + 1, by go_num, by omega, HT.out.next (by omega) (fun k => by rw [HNX.out, HCK.out]) HM2.out, HO.out.other (by omega), HBR.out.setCell (p := ⟨ub, c, none⟩) (by show _ ≤ ub; omega) _⟩
                case measure => simp [intOf]; omega
              · have hfull : ms.take i = ms := List.take_of_length_le (by have := HM.out; omega)
                have HMF : Hid (Arr wo ub (fun k => Disk.cnt k ms)) := Lib.hid (by have := HT.out; rw [hfull] at this; exact this)
                have t1 := HO.out.cell 1 (by omega)
                have t2 := HO.out.cell 2 (by omega)
                have t3 := HO.out.cell 3 (by omega)
                have t4 := HO.out.cell 4 (by omega)
                have b1 := HMF.out.cell 1 (by omega)
                have b2 := HMF.out.cell 2 (by omega)
                have b3 := HMF.out.cell 3 (by omega)
                have b4 := HMF.out.cell 4 (by omega)
                have l1 := Disk.cnt_le 1 ds
                have l4 := Disk.cnt_le 4 ds
                have l1' := Disk.cnt_le 1 ms
                have l4' := Disk.cnt_le 4 ms
                have hcn := HCNT.out
                obtain ⟨T1, hT1⟩ : ∃ x, x = Disk.cnt 1 ds := ⟨_, rfl⟩
                obtain ⟨T2, hT2⟩ : ∃ x, x = Disk.cnt 2 ds := ⟨_, rfl⟩
                obtain ⟨T3, hT3⟩ : ∃ x, x = Disk.cnt 3 ds := ⟨_, rfl⟩
                obtain ⟨T4, hT4⟩ : ∃ x, x = Disk.cnt 4 ds := ⟨_, rfl⟩
                obtain ⟨B1, hB1⟩ : ∃ x, x = Disk.cnt 1 ms := ⟨_, rfl⟩
                obtain ⟨B2, hB2⟩ : ∃ x, x = Disk.cnt 2 ms := ⟨_, rfl⟩
                obtain ⟨B3, hB3⟩ : ∃ x, x = Disk.cnt 3 ms := ⟨_, rfl⟩
                obtain ⟨B4, hB4⟩ : ∃ x, x = Disk.cnt 4 ms := ⟨_, rfl⟩
                have t1' : wo.cell? ⟨tb, 1, none⟩ = some (.int .i64 T1) := by rw [hT1]; exact t1
                have t2' : wo.cell? ⟨tb, 2, none⟩ = some (.int .i64 T2) := by rw [hT2]; exact t2
                have t3' : wo.cell? ⟨tb, 3, none⟩ = some (.int .i64 T3) := by rw [hT3]; exact t3
                have t4' : wo.cell? ⟨tb, 4, none⟩ = some (.int .i64 T4) := by rw [hT4]; exact t4
                have b1' : wo.cell? ⟨ub, 1, none⟩ = some (.int .i64 B1) := by rw [hB1]; exact b1
                have b2' : wo.cell? ⟨ub, 2, none⟩ = some (.int .i64 B2) := by rw [hB2]; exact b2
                have b3' : wo.cell? ⟨ub, 3, none⟩ = some (.int .i64 B3) := by rw [hB3]; exact b3
                have b4' : wo.cell? ⟨ub, 4, none⟩ = some (.int .i64 B4) := by rw [hB4]; exact b4
                rw [← hT1, ← hT2, ← hT3, ← hT4, ← hB1, ← hB2, ← hB3, ← hB4] at hcn
                rw [← hT1] at l1
                rw [← hT4] at l4
                rw [← hB1] at l1'
                rw [← hB4] at l4'
                have hnl := HNN.out
                have hml := HM.out
                have q1 : ((T3 : Int) == (B2 : Int)) = true := by rw [beq_iff_eq]; omega
                have q2 : ((T2 : Int) == (B3 : Int)) = true := by rw [beq_iff_eq]; omega
                have s1 : IntKind.i64.wrap ((T4 : Int) - (B4 : Int)) = (T4 : Int) - (B4 : Int) := IntWalk.i64_in _ (by omega)
                have s2 : IntKind.i64.wrap ((B1 : Int) - (T1 : Int)) = (B1 : Int) - (T1 : Int) := IntWalk.i64_in _ (by omega)
                have q3 : ((T4 : Int) - (B4 : Int) == (B1 : Int) - (T1 : Int)) = true := by rw [beq_iff_eq]; omega
                have HBE := Lib.hid (FINB.out _ HBR.out)
                clear t1 t2 t3 t4 b1 b2 b3 b4 l1 l4 l1' l4' hcn hT1 hT2 hT3 hT4 hB1 hB2 hB3 hB4 hnl hml hfull
                go_wp2_with fail
                refine (HE.out _ HBE.out).mono ?_
                rintro e w6 ⟨rfl, hb6⟩
                go_wp2
                go_returns
                exact ⟨rfl, HBE.out.trans (hb6.mono HBE.out.size)⟩
end Go.Proofs.YtnfklomokjhojaaDoor
