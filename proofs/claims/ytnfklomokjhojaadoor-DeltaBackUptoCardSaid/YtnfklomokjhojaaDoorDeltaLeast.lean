/- DeltaLeast's walk. -/
import Derived.Test.YtnfklomokjhojaaDoorDeltaW
namespace Go.Proofs.YtnfklomokjhojaaDoor
open Go.RowKit Go.Maps
set_option linter.unusedSimpArgs false
set_option linter.unusedVariables false
theorem Below.drewN {B : Nat} {a w : World} (h : Below B a w) (n : Nat) : Below B a (w.drewN n) := ⟨h.os, h.tape, h.output, h.size, h.block⟩
set_option maxHeartbeats 4000000 in
set_option maxRecDepth 100000 in
theorem delta_least_law {w : World} {v1 v2 : Value} {before after : List Disk.Fl} (h1 : Files w w.heap.size v1 before) (h2 : Files w w.heap.size v2 after) (hE : Env w) (hn1 : before.length ≤ 1048576) (hsz1 : ∀ f ∈ before, f.path.length ≤ 1048576 ∧ f.data.length ≤ 1048576) (hn2 : after.length ≤ 1048576) (hsz2 : ∀ f ∈ after, f.path.length ≤ 1048576 ∧ f.data.length ≤ 1048576) :
    Calls Tryd.prog 4 #[v1, v2] w fun e w' => e = .returned (.bool true) ∧ Below w.heap.size w w' := by
  have HD1 := Lib.hid (delta_any h1 h2 (Nat.le_refl _) hE hn1 hsz1 hn2 hsz2)
  have HD2 := Lib.hid (fun (W : World) (hb : Below w.heap.size w W) => delta_any (h2.below hb (Nat.le_refl _)) (h2.below hb (Nat.le_refl _)) hb.size (hE.below hb (Nat.le_refl _)) hn2 hsz2 hn2 hsz2)
  have HE := Lib.hid (fun (W : World) (hb : Below w.heap.size w W) => lives_any W (hE.below hb (Nat.le_refl _)))
  have H1 := Lib.hid h1
  have H2 := Lib.hid h2
  obtain ⟨a1, c1, rfl⟩ := h1.form
  obtain ⟨a2, c2, rfl⟩ := h2.form
  obtain ⟨N1, hN1⟩ : ∃ N, N = before.length := ⟨_, rfl⟩
  obtain ⟨N2, hN2⟩ : ∃ N, N = after.length := ⟨_, rfl⟩
  rw [← hN1] at HD1 H1 hn1 ⊢
  rw [← hN2] at HD1 HD2 H2 hn2 ⊢
  have HN := Lib.hid (And.intro hN1 hN2)
  clear h1 h2 hsz1 hsz2 hN1 hN2 hE
  rcases Disk.res_cases before after with hbad | ⟨a, b, hla, hlb, hra, hrb, hres⟩
  · have HB := Lib.hid hbad
    clear hbad
    go_enter Tryd.func4, Tryd.ntmps4
    go_wp2_with fail
    refine HD1.out.mono ?_
    rintro e w2 ⟨v2, rfl, hd2, hb2⟩
    rw [HB.out] at hd2 ⊢
    obtain ⟨a3, c3, rfl⟩ := own_form hd2
    clear hd2
    go_wp2_with fail
    refine (HE.out _ hb2).mono ?_
    rintro e w3 ⟨rfl, hb3⟩
    go_wp2
    go_returns
    exact ⟨rfl, hb2.trans (hb3.mono hb2.size)⟩
  · have HRES := Lib.hid hres
    have HSELF : Hid (Disk.deedsRes after after = ([], 0)) := Lib.hid (by
      unfold Disk.deedsRes
      rw [hrb]
      simp only
      rw [Disk.delta_self hlb.rises])
    obtain ⟨ds, hds⟩ : ∃ ds, ds = Disk.delta a b := ⟨_, rfl⟩
    have HLEAST : Hid (∀ d ∈ ds, ∀ x ∈ before, ∀ y ∈ after, x.path = d.path → sameF x y = false) := Lib.hid (fun d hd x hx y hy he => by
      unfold sameF
      refine decide_eq_false fun e => ?_
      subst e
      rw [hds] at hd
      refine Disk.least hla.rises hlb.rises hd ?_
      rw [← he, hla.mem x hx, hlb.mem x hy])
    have hlen : ds.length ≤ 4194304 := by
      have l1 := hla.len
      have l2 := hlb.len
      have := HN.out
      have p1 : ∀ (c : List UInt8 × Disk.T → Nat) k f (l : Disk.M), (Disk.pick c k f l).length ≤ l.length := fun c k f l => by
        unfold Disk.pick; rw [List.length_map]; exact List.length_filter_le _ _
      rw [hds]
      unfold Disk.delta
      simp only [List.length_append, List.length_reverse]
      have q1 := p1 (Disk.cls b) 1 Disk.unl a
      have q2 := p1 (Disk.cls b) 2 Disk.rmd a
      have q3 := p1 (Disk.cls2 a) 3 Disk.mkd b
      have q4 := p1 (Disk.cls2 a) 4 Disk.putd b
      omega
    rw [← hds] at HRES
    clear hla hlb hra hrb hres hds
    obtain ⟨n, hn⟩ : ∃ n, n = ds.length := ⟨_, rfl⟩
    have HNN := Lib.hid hn
    rw [← hn] at hlen
    clear hn
    go_enter Tryd.func4, Tryd.ntmps4
    go_wp2_with fail
    refine HD1.out.mono ?_
    rintro e w2 ⟨v2, rfl, hd2, hb2⟩
    rw [HRES.out] at hd2 ⊢
    have HDD := Lib.hid hd2.dds
    have hz2 := hb2.size
    obtain ⟨a3, c3, rfl⟩ := own_form hd2
    rw [← HNN.out] at HDD ⊢
    clear hd2
    have FIN : Hid (∀ W, Below w2.heap.size w2 W → Below w.heap.size w W) := Lib.hid (fun W h => hb2.trans (h.mono hz2))
    go_wp2_with fail
    go_loopw [7] (fun p wr => ∃ i : Nat, p = .int .i64 i ∧ i ≤ n ∧ Below w2.heap.size w2 wr) (fun p _ => n - (intOf p).toNat)
    case atStart => exact ⟨0, rfl, by omega, Below.refl _ _⟩
    case round =>
      obtain ⟨i, rfl, hi, hBr⟩ := hrel
      by_cases hin : i < n
      · obtain ⟨d, hd⟩ : ∃ d, ds[i]? = some d := ⟨_, List.getElem?_eq_getElem (by have := HNN.out; omega)⟩
        obtain ⟨bk, o, cap, hve, hbk, hcell⟩ := HDD.out.at (by have := HNN.out; omega)
        rw [← HNN.out] at hve
        cases hve
        have hdc := (hcell i d hd).2.1
        have HDM := Lib.hid (List.mem_of_getElem? hd)
        have hinI : (i : Int) < (n : Int) := by omega
        have HBR := Lib.hid hBr
        clear hcell hd
        go_wp2
        go_loopw [8] (fun p wr => ∃ j : Nat, p = .int .i64 j ∧ j ≤ N1 ∧ Below w2.heap.size w2 wr) (fun p _ => N1 - (intOf p).toNat)
        case atStart => exact ⟨0, rfl, by omega, HBR.out⟩
        case round =>
          obtain ⟨j, rfl, hj, hBj⟩ := hrel
          by_cases hjn : j < N1
          · obtain ⟨x, hx⟩ : ∃ x, before[j]? = some x := ⟨_, List.getElem?_eq_getElem (by have := HN.out; omega)⟩
            obtain ⟨bx, ox, capx, hve, hbx, hcx⟩ := H1.out.at (by have := HN.out; omega)
            rw [← HN.out.1] at hve
            cases hve
            obtain ⟨x1, x2, x3⟩ := hcx j x hx
            have HXM := Lib.hid (List.mem_of_getElem? hx)
            have hjnI : (j : Int) < (N1 : Int) := by omega
            have HBJ := Lib.hid hBj
            clear hcx hx
            go_wp2
            go_loopw [9] (fun p wr => ∃ k : Nat, p = .int .i64 k ∧ k ≤ N2 ∧ Below w2.heap.size w2 wr) (fun p _ => N2 - (intOf p).toNat)
            case atStart => exact ⟨0, rfl, by omega, HBJ.out⟩
            case round =>
              obtain ⟨k, rfl, hk, hBk⟩ := hrel
              obtain ⟨wo, rfl⟩ : ∃ x, x = wr := ⟨wr, rfl⟩
              by_cases hkn : k < N2
              · obtain ⟨y, hy⟩ : ∃ y, after[k]? = some y := ⟨_, List.getElem?_eq_getElem (by have := HN.out; omega)⟩
                obtain ⟨by', oy, capy, hve, hby, hcy⟩ := H2.out.at (by have := HN.out; omega)
                rw [← HN.out.2] at hve
                cases hve
                obtain ⟨y1, y2, y3⟩ := hcy k y hy
                have HYM := Lib.hid (List.mem_of_getElem? hy)
                have hknI : (k : Int) < (N2 : Int) := by omega
                have HBK := Lib.hid hBk
                have HFK := Lib.hid (FIN.out _ hBk)
                have hzk := HBK.out.size
                rw [← HBK.out.cell (p := ⟨bk, o + i * 3 + 1, none⟩) (by show bk < _; omega)] at hdc
                rw [← HFK.out.cell (p := ⟨bx, ox + j * 3, none⟩) (by show bx < _; omega)] at x1
                rw [← HFK.out.cell (p := ⟨bx, ox + j * 3 + 1, none⟩) (by show bx < _; omega)] at x2
                rw [← HFK.out.cell (p := ⟨bx, ox + j * 3 + 2, none⟩) (by show bx < _; omega)] at x3
                rw [← HFK.out.cell (p := ⟨by', oy + k * 3, none⟩) (by show by' < _; omega)] at y1
                rw [← HFK.out.cell (p := ⟨by', oy + k * 3 + 1, none⟩) (by show by' < _; omega)] at y2
                rw [← HFK.out.cell (p := ⟨by', oy + k * 3 + 2, none⟩) (by show by' < _; omega)] at y3
                have hq := sv_inj (a := x.path) (b := d.path)
                have hbxw : bx < wo.heap.size := by omega
                have hbyw : by' < wo.heap.size := by omega
                have hbkw : bk < wo.heap.size := by omega
                have hfe := fun w => fileEql w x y
                have HLL := Lib.hid (HLEAST.out d HDM.out x HXM.out y HYM.out)
                clear hcy hy hBk
                by_cases he : x.path = d.path
                · rw [decide_eq_true he] at hq
                  rw [HLL.out he] at hfe
                  clear he
                  go_wp2
                  go_big_quiet (fail)
                  go_wp2
                  go_roundw
                  case rel => exact ⟨k + 1, by go_num, by omega, Below.drewN HBK.out _⟩
                  case measure => simp [intOf]; omega
                · rw [decide_eq_false he] at hq
                  clear he
                  go_wp2
                  go_big_quiet (fail)
                  go_wp2
                  go_roundw
                  case rel => exact ⟨k + 1, by go_num, by omega, Below.drewN HBK.out _⟩
                  case measure => simp [intOf]; omega
              · go_wp2
                go_roundw
                case rel => exact ⟨j + 1, by go_num, by omega, hBk⟩
                case measure => simp [intOf]; omega
          · go_wp2
            go_roundw
            case rel => exact ⟨i + 1, by go_num, by omega, hBj⟩
            case measure => simp [intOf]; omega
      · go_wp2_with fail
        refine (HD2.out _ (FIN.out _ hBr)).mono ?_
        rintro e w4 ⟨v4, rfl, hd4, hb4⟩
        rw [HSELF.out] at hd4 ⊢
        have HB4 := Lib.hid ((FIN.out _ hBr).trans (hb4.mono (FIN.out _ hBr).size))
        obtain ⟨a4, c4, rfl⟩ := own_form hd4
        clear hd4
        go_wp2_with fail
        refine (HE.out _ HB4.out).mono ?_
        rintro e w5 ⟨rfl, hb5⟩
        go_wp2
        go_returns
        exact ⟨rfl, HB4.out.trans (hb5.mono HB4.out.size)⟩
end Go.Proofs.YtnfklomokjhojaaDoor
