/- DiskOwns' walk. -/
import Derived.Test.YtnfklomokjhojaaGreatDoorZWholeL
namespace Go.Proofs.YtnfklomokjhojaaGreatDoor
open Go.RowKit Go.Maps
set_option linter.unusedSimpArgs false
set_option linter.unusedVariables false
/-- A row of the call's own, all of its room: it can be written over. -/
def Wr (w : World) (base size : Nat) (a : Option Addr) (cap : Nat) : Prop := 0 < cap → ∃ g cur e, a = some ⟨g, 0, none⟩ ∧ base ≤ g ∧ w.heap[g]? = some (.cells cur e (0, 0)) ∧ cur.size = cap * size
theorem own_wr {w : World} {b : Nat} {e : TypeId} {z : Nat} {v : Value} {n : Nat} {xs : List Value} (h : w.ownsRow b e z v n xs) : ∃ a cap, v = .slice a n cap ∧ n ≤ cap ∧ cap ≤ maxLen ∧ Wr w b z a cap ∧ (cap = 0 → a = none ∨ ∃ g, a = some ⟨g, 0, none⟩) := by
  rcases h.2 with ⟨rfl, rfl⟩ | ⟨g, cap, cur, rfl, hb, hg, hc, hm, hs, _⟩
  · exact ⟨none, 0, rfl, Nat.le_refl _, by decide, fun h => absurd h (by omega), fun _ => Or.inl rfl⟩
  · exact ⟨_, cap, rfl, hc, hm, fun _ => ⟨g, cur, e, rfl, hb, hg, hs⟩, fun _ => Or.inr ⟨g, rfl⟩⟩
theorem Wr.set {w : World} {b z : Nat} {a : Option Addr} {cap : Nat} (h : Wr w b z a cap) (k o : Nat) (u : Value) : Wr (w.setCell ⟨k, o, none⟩ u) b z a cap := fun hc => by
  obtain ⟨g, cur, e, h1, h2, h3, h4⟩ := h hc
  by_cases hk : g = k
  · subst hk
    exact ⟨g, cur.setIfInBounds o u, e, h1, h2, heap_setCell_same w g o cur e u h3, by simpa using h4⟩
  · exact ⟨g, cur, e, h1, h2, by rw [Below.heap_setCell w ⟨k, o, none⟩ u g hk]; exact h3, h4⟩
theorem Wr.drewN {w : World} {b z : Nat} {a : Option Addr} {cap : Nat} (h : Wr w b z a cap) (m : Nat) : Wr (w.drewN m) b z a cap := h
theorem Wr.at {w : World} {b z : Nat} {a : Option Addr} {cap : Nat} (h : Wr w b z a cap) {k : Nat} (hk : k < cap) : ∃ g, a = some ⟨g, 0, none⟩ ∧ b ≤ g ∧ g < w.heap.size ∧ ∀ j, j < z → (∃ u, w.cell? ⟨g, k * z + j, none⟩ = some u) ∧ w.frozen? ⟨g, k * z + j, none⟩ = false := by
  obtain ⟨g, cur, e, h1, h2, h3, h4⟩ := h (by omega)
  refine ⟨g, h1, h2, (Array.getElem?_eq_some_iff.1 h3).1, fun j hj => ⟨?_, ?_⟩⟩
  · have hlt : k * z + j < cur.size := by
      rw [h4]
      have : (k + 1) * z ≤ cap * z := Nat.mul_le_mul_right _ hk
      rw [Nat.succ_mul] at this
      omega
    rw [cell_of_row w g _ cur e (0, 0) h3]
    exact ⟨_, Array.getElem?_eq_getElem (by omega)⟩
  · simp [World.frozen?, h3]
theorem Duo.list {w : World} {B : Nat} {Z : Nat → Prop} {sd rd n : Nat} {a b : Disk.S} (h : Duo w B Z sd rd n a b) (hE : Env w) (hn : a.l.length ≤ 1099511627776) (p : List UInt8) (hp : p.length ≤ 4398046511104) :
    Calls Tryz.prog 22 #[.pointer (some ⟨sd, 0, none⟩), .string (bs p)] w (ListPost a.l p w) := by
  obtain ⟨OA, OB, ⟨bm, m, rv, hm, h1⟩, h2, h3, h4⟩ := h
  exact list_any h1.d.c0 h1.d.things hE hm.2.2.2 hn p hp
set_option maxHeartbeats 8000000 in
set_option maxRecDepth 100000 in
theorem disk_owns_law {w : World} {v : Value} {ds : List Disk.Dq} (h : Dqs w w.heap.size v ds) (hE : Env w) (hn : ds.length ≤ 1048576) (hsz : ∀ x ∈ ds, (x.path.length ≤ 1048576 ∧ x.to.length ≤ 1048576) ∧ x.Fits) :
    Calls Tryz.prog 5 #[v] w fun e w' => e = .returned (.bool true) ∧ Below w.heap.size w w' := by
  obtain ⟨a1, c1, rfl⟩ := h.form
  obtain ⟨L, hL⟩ : ∃ N, N = ds.length := ⟨_, rfl⟩
  have HH := Lib.hid h
  have HSZ := Lib.hid hsz
  have HE := Lib.hid (fun (W : World) (hb : Below w.heap.size w W) => hE.below hb (Nat.le_refl _))
  have HLV := Lib.hid (fun (W : World) (hb : Below w.heap.size w W) => lives01_any W (hE.below hb (Nat.le_refl _)))
  rw [← hL] at hn ⊢
  have HL := Lib.hid hL
  clear h hsz hL hE
  go_enter Tryz.func5, Tryz.ntmps5
  go_wp2_with fail
  refine (newD_any w w.heap.size (Nat.le_refl _)).mono ?_
  rintro e w1 ⟨sd, O1, rfl, hd1, hO1, hb1⟩
  have HD1 := Lib.hid hd1
  have HB1 := Lib.hid hb1
  clear hd1 hb1
  go_wp2_with fail
  refine (rnewD_any w1 w.heap.size HB1.out.size).mono ?_
  rintro e w2 ⟨rd, O2, rfl, hd2, hO2, hb2⟩
  have HT2 := Lib.hid (Duo.made HD1.out hb2 hd2 hO2)
  have HB2 := Lib.hid (HB1.out.trans (hb2.mono HB1.out.size))
  clear hd2 hO1 hO2 hb2
  go_wp2
  go_loopw [5] (fun q wr => ∃ (i : Nat) (s : Disk.S), q = .int .i64 i ∧ i ≤ L ∧ Disk.Hung s.l ∧ Duo wr w.heap.size (fun _ => False) sd rd (2 * i) s s ∧ Below w.heap.size w wr) (fun q _ => L - (intOf q).toNat)
  case atStart => exact ⟨0, newS, rfl, by omega, Disk.hung_nil, HT2.out, HB2.out⟩
  case round =>
    obtain ⟨i, s, rfl, hi, hhu, ht, hBr⟩ := hrel
    obtain ⟨wo, rfl⟩ : ∃ x, x = wr := ⟨wr, rfl⟩
    have HT := Lib.hid ht
    have HHU := Lib.hid hhu
    have HBR := Lib.hid hBr
    have hzr := hBr.size
    clear ht hhu hBr
    by_cases hiL : i < L
    · obtain ⟨x, hx⟩ : ∃ x, ds[i]? = some x := ⟨_, List.getElem?_eq_getElem (by have := HL.out; omega)⟩
      obtain ⟨bk, o, cap, hve, hbB, hbc⟩ := HH.out.at (by have := HL.out; omega)
      rw [← HL.out] at hve
      cases hve
      obtain ⟨e1, e2, e3, e4, e5⟩ := hbc i x hx
      rw [← HBR.out.cell (p := ⟨bk, o + i * 5, none⟩) hbB] at e1
      rw [← HBR.out.cell (p := ⟨bk, o + i * 5 + 1, none⟩) hbB] at e2
      rw [← HBR.out.cell (p := ⟨bk, o + i * 5 + 2, none⟩) hbB] at e3
      rw [← HBR.out.cell (p := ⟨bk, o + i * 5 + 3, none⟩) hbB] at e4
      rw [← HBR.out.cell (p := ⟨bk, o + i * 5 + 4, none⟩) hbB] at e5
      have HX := Lib.hid (HSZ.out x (List.mem_of_getElem? hx))
      have hiI : (i : Int) < (L : Int) := by omega
      have HASK := Lib.hid (asks_any HT.out (fun W hb => HE.out W (HBR.out.trans hb)) (by omega) x HX.out.2 (by have := HX.out; omega) (by have := HX.out; omega))
      clear hbc hx
      go_wp2_with fail
      refine HASK.out.mono ?_
      rintro e w6 ⟨rfl, hn6⟩
      have HN6 := Lib.hid hn6
      clear hn6 e1 e2 e3 e4 e5
      go_wp2
      go_roundw
      case rel => exact ⟨i + 1, _, by go_num, by omega, Disk.hung_asks HHU.out x, HN6.out.duo.more (by omega), HBR.out.trans HN6.out.below⟩
      case measure => simp [intOf]; omega
    · have hex : ¬ (i : Int) < (L : Int) := by omega
      have hfit := HT.out.fit
      have hsl : s.l.length ≤ 2097152 := by have := hfit.1; omega
      clear hfit
      go_wp2
      go_loopw [6] (fun q wr => ∃ (j : Nat), q = .int .i64 j ∧ j ≤ 2 ∧ Below wo.heap.size wo wr) (fun q _ => 2 - (intOf q).toNat)
      case atStart => exact ⟨0, rfl, by omega, Below.refl _ _⟩
      case round =>
        obtain ⟨j, rfl, hj, hBj⟩ := hrel
        obtain ⟨wp, rfl⟩ : ∃ x, x = wr := ⟨wr, rfl⟩
        have HTP := Lib.hid (HT.out.below hBj)
        have HBP := Lib.hid hBj
        have hzp := hBj.size
        clear hBj
        by_cases hj2 : j < 2
        · have hjI : (j : Int) < 2 := by omega
          have HALL := Lib.hid (HTP.out.all (by omega))
          go_wp2_with fail
          refine HALL.out.mono ?_
          rintro e w1 ⟨v1, rfl, hr1, hb1⟩
          have HT1 := Lib.hid (HTP.out.below hb1)
          have HB1 := Lib.hid hb1
          have HR1 := Lib.hid hr1
          have hz1 := hb1.size
          clear hr1 hb1
          have HRW := Lib.hid (HT1.out.raws (by omega))
          go_wp2_with fail
          refine HRW.out.mono ?_
          rintro e w2 ⟨v2, rfl, hr2, hb2⟩
          have HT2 := Lib.hid (HT1.out.below hb2)
          have HB2 := Lib.hid (HB1.out.trans (hb2.mono hz1))
          have HR2 := Lib.hid (own_keep HR1.out (fun g _ _ h2 => hb2.block g h2))
          have HQ2 := Lib.hid (own_mono hr2 hz1)
          have hz2 := hb2.size
          clear hr2 hb2
          have HLS := Lib.hid (HT2.out.list (HE.out _ (HBR.out.trans ((HBP.out.mono hzr).trans (HB2.out.mono (by omega))))) (by omega) [47] (by decide))
          go_wp2_with fail
          refine HLS.out.mono ?_
          rintro e w3 ⟨v3, rfl, hr3, hb3⟩
          obtain ⟨ek, hek⟩ : ∃ k, k = (Disk.listR s.l [47]).2 := ⟨_, rfl⟩
          rw [← hek]
          clear hek
          have HT3 := Lib.hid (HT2.out.below hb3)
          have HB3 := Lib.hid (HB2.out.trans (hb3.mono (by omega)))
          have HR3 := Lib.hid (own_keep HR2.out (fun g _ _ h2 => hb3.block g h2))
          have HQ3 := Lib.hid (own_keep HQ2.out (fun g _ _ h2 => hb3.block g h2))
          have HS3 := Lib.hid (own_mono hr3 (show wp.heap.size ≤ w2.heap.size by omega))
          clear hr3 hb3
          obtain ⟨al, cl, ar, cr, hc0, hc1, hLI, hRI, hrdl⟩ := HT3.out.rows
          have HRI := Lib.hid hRI
          have HFA := Lib.hid (files_any (FRow.files HR3.out) hLI (by rw [fls_length]; omega))
          clear hLI hRI
          go_wp2_with fail
          refine HFA.out.mono ?_
          rintro e w4 ⟨rfl, m4, rfl⟩
          have HB4 := Lib.hid (bdrew HB3.out m4)
          have HRA := Lib.hid (raws_any (w := w3.drewN m4) (RwRow.rws HQ3.out) (HRI.out.below (bdrew (Below.refl _ _) m4) (Nat.le_refl _)) (by have := HT3.out.fit.2.1; omega))
          go_wp2_with fail
          refine HRA.out.mono ?_
          rintro e w5 ⟨rfl, m5, rfl⟩
          have HBX := Lib.hid (bdrew HB4.out m5)
          obtain ⟨A1, C1, rfl, hn1, hl1, hw1, hx1⟩ := own_wr HR3.out
          obtain ⟨A2, C2, rfl, hn2, hl2, hw2, hx2⟩ := own_wr HQ3.out
          obtain ⟨A3, C3, rfl, hn3, hl3, hw3, hx3⟩ := own_wr HS3.out
          obtain ⟨w5, hw5⟩ : ∃ x, x = (w3.drewN m4).drewN m5 := ⟨_, rfl⟩
          have HW1 : Hid (Wr w5 wp.heap.size 3 A1 C1) := Lib.hid (by rw [hw5]; exact hw1)
          have HW2 : Hid (Wr w5 wp.heap.size 3 A2 C2) := Lib.hid (by rw [hw5]; exact hw2)
          have HW3 : Hid (Wr w5 wp.heap.size 1 A3 C3) := Lib.hid (by rw [hw5]; exact hw3)
          rw [← hw5] at HBX ⊢
          simp only [maxLen] at hl1 hl2 hl3
          clear hw5 hw1 hw2 hw3 hc0 hc1
          go_wp2
          go_loopw [13] (fun q wr => ∃ k : Nat, q = .int .i64 k ∧ k ≤ C1 ∧ Below wp.heap.size wp wr ∧ Wr wr wp.heap.size 3 A1 C1 ∧ Wr wr wp.heap.size 3 A2 C2 ∧ Wr wr wp.heap.size 1 A3 C3) (fun q _ => C1 - (intOf q).toNat)
          case atStart => exact ⟨0, rfl, by omega, HBX.out, HW1.out, HW2.out, HW3.out⟩
          case round =>
            clear HBX HW1 HW2 HW3
            obtain ⟨k, rfl, hk, hbx, hw1, hw2, hw3⟩ := hrel
            obtain ⟨wq, rfl⟩ : ∃ x, x = wr := ⟨wr, rfl⟩
            have HBX := Lib.hid hbx
            have HW1 := Lib.hid hw1
            have HW2 := Lib.hid hw2
            have HW3 := Lib.hid hw3
            by_cases hkC : k < C1
            · obtain ⟨g, hga, hgb, hgs, hcell⟩ := hw1.at hkC
              clear hbx hw1 hw2 hw3
              obtain ⟨⟨u0, hu0⟩, hf0⟩ := hcell 0 (by omega)
              obtain ⟨⟨u1, hu1⟩, hf1⟩ := hcell 1 (by omega)
              obtain ⟨⟨u2, hu2⟩, hf2⟩ := hcell 2 (by omega)
              have hkI : (k : Int) < (C1 : Int) := by omega
              simp only [Nat.add_zero, Nat.mul_one] at hu0 hf0
              subst hga
              clear hcell
              go_wp2
              go_roundw
              case rel => exact ⟨k + 1, by go_num, by omega, (((HBX.out.setCell (by show _ ≤ g; omega) _).setCell (by show _ ≤ g; omega) _).setCell (by show _ ≤ g; omega) _), (((HW1.out.set _ _ _).set _ _ _).set _ _ _), (((HW2.out.set _ _ _).set _ _ _).set _ _ _), (((HW3.out.set _ _ _).set _ _ _).set _ _ _)⟩
              case measure => simp [intOf]; omega
            · have hex : ¬ (k : Int) < (C1 : Int) := by omega
              clear hbx hw1 hw2 hw3
              go_wp2
              go_loopw [14] (fun q wr => ∃ k : Nat, q = .int .i64 k ∧ k ≤ C2 ∧ Below wp.heap.size wp wr ∧ Wr wr wp.heap.size 3 A1 C1 ∧ Wr wr wp.heap.size 3 A2 C2 ∧ Wr wr wp.heap.size 1 A3 C3) (fun q _ => C2 - (intOf q).toNat)
              case atStart => exact ⟨0, rfl, by omega, HBX.out, HW1.out, HW2.out, HW3.out⟩
              case round =>
                clear HBX HW1 HW2 HW3
                obtain ⟨k, rfl, hk, hbx, hw1, hw2, hw3⟩ := hrel
                obtain ⟨wq, rfl⟩ : ∃ x, x = wr := ⟨wr, rfl⟩
                have HBX := Lib.hid hbx
                have HW1 := Lib.hid hw1
                have HW2 := Lib.hid hw2
                have HW3 := Lib.hid hw3
                by_cases hkC : k < C2
                · obtain ⟨g, hga, hgb, hgs, hcell⟩ := hw2.at hkC
                  clear hbx hw1 hw2 hw3
                  obtain ⟨⟨u0, hu0⟩, hf0⟩ := hcell 0 (by omega)
                  obtain ⟨⟨u1, hu1⟩, hf1⟩ := hcell 1 (by omega)
                  obtain ⟨⟨u2, hu2⟩, hf2⟩ := hcell 2 (by omega)
                  have hkI : (k : Int) < (C2 : Int) := by omega
                  simp only [Nat.add_zero, Nat.mul_one] at hu0 hf0
                  subst hga
                  clear hcell
                  go_wp2
                  go_roundw
                  case rel => exact ⟨k + 1, by go_num, by omega, (((HBX.out.setCell (by show _ ≤ g; omega) _).setCell (by show _ ≤ g; omega) _).setCell (by show _ ≤ g; omega) _), (((HW1.out.set _ _ _).set _ _ _).set _ _ _), (((HW2.out.set _ _ _).set _ _ _).set _ _ _), (((HW3.out.set _ _ _).set _ _ _).set _ _ _)⟩
                  case measure => simp [intOf]; omega
                · have hex : ¬ (k : Int) < (C2 : Int) := by omega
                  clear hbx hw1 hw2 hw3
                  go_wp2
                  go_loopw [15] (fun q wr => ∃ k : Nat, q = .int .i64 k ∧ k ≤ C3 ∧ Below wp.heap.size wp wr ∧ Wr wr wp.heap.size 3 A1 C1 ∧ Wr wr wp.heap.size 3 A2 C2 ∧ Wr wr wp.heap.size 1 A3 C3) (fun q _ => C3 - (intOf q).toNat)
                  case atStart => exact ⟨0, rfl, by omega, HBX.out, HW1.out, HW2.out, HW3.out⟩
                  case round =>
                    clear HBX HW1 HW2 HW3
                    obtain ⟨k, rfl, hk, hbx, hw1, hw2, hw3⟩ := hrel
                    obtain ⟨wq, rfl⟩ : ∃ x, x = wr := ⟨wr, rfl⟩
                    have HBX := Lib.hid hbx
                    have HW1 := Lib.hid hw1
                    have HW2 := Lib.hid hw2
                    have HW3 := Lib.hid hw3
                    by_cases hkC : k < C3
                    · obtain ⟨g, hga, hgb, hgs, hcell⟩ := hw3.at hkC
                      clear hbx hw1 hw2 hw3
                      obtain ⟨⟨u0, hu0⟩, hf0⟩ := hcell 0 (by omega)
                      have hkI : (k : Int) < (C3 : Int) := by omega
                      simp only [Nat.add_zero, Nat.mul_one] at hu0 hf0
                      subst hga
                      clear hcell
                      go_wp2
                      go_roundw
                      case rel => exact ⟨k + 1, by go_num, by omega, (HBX.out.setCell (by show _ ≤ g; omega) _), (HW1.out.set _ _ _), (HW2.out.set _ _ _), (HW3.out.set _ _ _)⟩
                      case measure => simp [intOf]; omega
                    · have hex : ¬ (k : Int) < (C3 : Int) := by omega
                      clear hbx hw1 hw2 hw3
                      go_wp2
                      go_roundw
                      case rel => exact ⟨j + 1, by go_num, by omega, HBP.out.trans (HBX.out.mono hzp)⟩
                      case measure => simp [intOf]; omega
        · have hex2 : ¬ (j : Int) < 2 := by omega
          have HB5 := Lib.hid (HBR.out.trans (HBP.out.mono hzr))
          go_wp2_with fail
          refine (HLV.out _ HB5.out).mono ?_
          rintro e w9 ⟨rfl, hb9⟩
          have HB9 := Lib.hid (HB5.out.trans (hb9.mono HB5.out.size))
          go_wp2
          go_returns
          exact ⟨rfl, HB9.out⟩

end Go.Proofs.YtnfklomokjhojaaGreatDoor
