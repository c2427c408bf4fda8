/- PlanAgain's walk. -/
import Derived.Test.YtnfklomokjhojaaGreatDoorPAgainW
import Derived.Test.YtnfklomokjhojaaGreatDoorPAgainL
namespace Go.Proofs.YtnfklomokjhojaaGreatDoor
open Go.RowKit Go.Maps
set_option linter.unusedSimpArgs false
set_option linter.unusedVariables false
theorem things_le {w : World} {bm n : Nat} {l : Disk.M} (h : Things w bm n l) : l.length ≤ n := by
  have := h.own.size_le
  simpa [SM.enc, Maps.size] using this
theorem Two.len {w : World} {B : Nat} {Z : Nat → Prop} {sa sb n : Nat} {a b : Disk.S} (h : Two w B Z sa sb n a b) : a.l.length ≤ n := by
  obtain ⟨OA, OB, ⟨bm, m, rv, hm, h1⟩, h2, h3, h4⟩ := h
  exact Nat.le_trans (things_le h1.d.things) hm.1
theorem Two.can {w : World} {B : Nat} {Z : Nat → Prop} {sa sb n : Nat} {a b : Disk.S} (h : Two w B Z sa sb n a b) (hE : Env w) (hn : a.l.length ≤ 1099511627776) (k : Int) (p t : List UInt8) (hp : p.length ≤ 4398046511104) (hok : Disk.pathOk p = true) :
    Calls Tryz.prog 33 #[.pointer (some ⟨sa, 0, none⟩), .agg #[.int .i64 k, .string (bs p), .string (bs t)]] w fun e w' => e = .returned (.bool (Disk.canC a.l ⟨k, p, t⟩)) ∧ Below w.heap.size w w' := by
  obtain ⟨OA, OB, h1, h2, h3, h4⟩ := h
  exact can_any h1 hE hn k p t hp hok
theorem stand_cases (k kk : Int) : ((((k == 3) = true ∧ (kk != 2) = true) ∨ ((k == 3) = false ∧ (k == 4) = true ∧ (kk != 1) = true)) ∨
    (((k == 3) = true ∧ (kk != 2) = false ∧ ((k = 3 → kk = 2) ∧ (k = 4 → kk = 1))) ∨ (((k == 3) = false ∧ ((k == 4) = true ∧ (kk != 1) = false) ∧ ((k = 3 → kk = 2) ∧ (k = 4 → kk = 1))) ∨ ((k == 3) = false ∧ (k == 4) = false ∧ ((k = 3 → kk = 2) ∧ (k = 4 → kk = 1)))))) := by
  by_cases h3 : k = 3
  · by_cases h2 : kk = 2
    · exact Or.inr (Or.inl ⟨beq_iff_eq.2 h3, by rw [h2]; rfl, fun _ => h2, fun h => by omega⟩)
    · exact Or.inl (Or.inl ⟨beq_iff_eq.2 h3, by rw [bne, beq_eq_false_iff_ne.2 h2]; rfl⟩)
  · by_cases h4 : k = 4
    · by_cases h1 : kk = 1
      · exact Or.inr (Or.inr (Or.inl ⟨beq_eq_false_iff_ne.2 h3, ⟨beq_iff_eq.2 h4, by rw [h1]; rfl⟩, fun h => absurd h h3, fun _ => h1⟩))
      · exact Or.inl (Or.inr ⟨beq_eq_false_iff_ne.2 h3, beq_iff_eq.2 h4, by rw [bne, beq_eq_false_iff_ne.2 h1]; rfl⟩)
    · exact Or.inr (Or.inr (Or.inr ⟨beq_eq_false_iff_ne.2 h3, beq_eq_false_iff_ne.2 h4, fun h => absurd h h3, fun h => absurd h h4⟩))
theorem stands_of {m : Disk.M} {d : PL.Plan.D} {kk : Int} (h : kk = Disk.kind m d.path) (hs : (d.kind = 3 → kk = 2) ∧ (d.kind = 4 → kk = 1)) : Disk.stands m (toDd d) := by
  subst h
  exact hs
set_option maxHeartbeats 16000000 in
set_option maxRecDepth 100000 in
theorem plan_again_law {w : World} {v u : Value} {ds : List PL.Plan.D} {fs : List Disk.Fl} (h : PL.Deeds w w.heap.size v ds) (hf : Files w w.heap.size u fs) (hE : Env w) (hn : ds.length ≤ 1048576) (hm : fs.length ≤ 1048576) (hsz : ∀ d ∈ ds, d.path.length ≤ 1048576 ∧ d.data.length ≤ 1048576) (hsf : ∀ f ∈ fs, f.path.length ≤ 1048576) (far : Int) :
    Calls Tryz.prog 9 #[v, u, .int .i64 far] w fun e w' => e = .returned (.bool true) ∧ Below w.heap.size w w' := by
  obtain ⟨a1, c1, rfl⟩ := h.form
  obtain ⟨L, hL⟩ : ∃ N, N = ds.length := ⟨_, rfl⟩
  have HH := Lib.hid h
  have HFF0 := Lib.hid hf
  have HSZ := Lib.hid hsz
  have HSF := Lib.hid hsf
  have HE := Lib.hid (fun (W : World) (hb : Below w.heap.size w W) => hE.below hb (Nat.le_refl _))
  have HKN := Lib.hid (PL.planKnown (fun s hs W => PL.parse_any s hs W) w)
  have HMM := Lib.hid hm
  rw [← hL] at hn ⊢
  have HL := Lib.hid hL
  clear h hf hsz hsf hL hE hm
  go_enter Tryz.func9, Tryz.ntmps9
  go_wp2_with fail
  refine HKN.out.mono ?_
  rintro e w1 ⟨rfl, hb1⟩
  have HB1 := Lib.hid hb1
  have HLD1 := Lib.hid (load_any (HFF0.out.below hb1 (Nat.le_refl _)) hb1.size (HE.out _ hb1) (by have := HMM.out; omega) (fun f hf => by have := HSF.out f hf; omega))
  have hz1 := hb1.size
  clear hb1
  unfold LoadPost at HLD1
  cases hload : Disk.load fs with
  | none =>
    rw [hload] at HLD1
    go_wp2_with fail
    refine HLD1.out.mono ?_
    rintro e w2 ⟨rfl, hb2⟩
    have HB2 := Lib.hid (HB1.out.trans (hb2.mono hz1))
    have HLD2 := Lib.hid (load_any (HFF0.out.below HB2.out (Nat.le_refl _)) HB2.out.size (HE.out _ HB2.out) (by have := HMM.out; omega) (fun f hf => by have := HSF.out f hf; omega))
    unfold LoadPost at HLD2
    rw [hload] at HLD2
    clear hb2 hload
    go_wp2_with fail
    refine HLD2.out.mono ?_
    rintro e w3 ⟨rfl, hb3⟩
    have HB3 := Lib.hid (HB2.out.trans (hb3.mono HB2.out.size))
    clear hb3
    go_wp2
    go_returns
    exact ⟨rfl, HB3.out⟩
  | some l =>
    have HLO := Lib.hid (load_ok hload)
    have HHU : Hid (Disk.Hung l) := Lib.hid (load_hung hload)
    rw [hload] at HLD1
    go_wp2_with fail
    refine HLD1.out.mono ?_
    rintro e w2 ⟨⟨sda, bma, na, rfl, hda, hna⟩, hb2⟩
    have HB2 := Lib.hid (HB1.out.trans (hb2.mono hz1))
    have HLD2 := Lib.hid (load_any (HFF0.out.below HB2.out (Nat.le_refl _)) HB2.out.size (HE.out _ HB2.out) (by have := HMM.out; omega) (fun f hf => by have := HSF.out f hf; omega))
    have HK1 := Lib.hid (Dsk.loaded (N := 1048576) hda hz1 (by have := HMM.out; omega) HLO.out.1)
    unfold LoadPost at HLD2
    rw [hload] at HLD2
    have hz2 := hb2.size
    clear hb2 hda hna hload
    go_wp2_with fail
    refine HLD2.out.mono ?_
    rintro e w3 ⟨⟨sdb, bmb, nb, rfl, hdb, hnb⟩, hb3⟩
    have HB3 := Lib.hid (HB2.out.trans (hb3.mono HB2.out.size))
    have HK2 := Lib.hid (Dsk.loaded (N := 1048576) hdb HB2.out.size (by have := HMM.out; omega) HLO.out.1)
    have HT3 := Lib.hid (Two.made HK1.out.1 hb3 HK2.out.1 HK2.out.2)
    have HCK := Lib.hid (PL.check_any (HH.out.below HB3.out (Nat.le_refl _)) HB3.out.size (by have := HL.out; omega) (fun d hd => by have := HSZ.out d hd; omega))
    rw [← HL.out] at HCK
    clear hb3 hdb hnb HK1 HK2
    go_wp2_with fail
    refine HCK.out.mono ?_
    rintro e w4 ⟨rfl, hb4⟩
    have HT4 := Lib.hid (HT3.out.below hb4)
    have HB5 := Lib.hid (HB3.out.trans (hb4.mono HB3.out.size))
    clear hb4
    cases hok : PL.Plan.ok ds with
    | false =>
      rw [PL.Plan.code_no hok]
      go_wp2
      go_returns
      exact ⟨rfl, HB5.out⟩
    | true =>
      rw [PL.Plan.code_yes hok]
      have HPR := Lib.hid (plan_paired hok)
      obtain ⟨D, hD⟩ : ∃ D, D = ds.map toDd := ⟨_, rfl⟩
      rw [← hD] at HPR
      have HD := Lib.hid hD
      obtain ⟨F, hF⟩ : ∃ F, F = far.toNat := ⟨_, rfl⟩
      have HF := Lib.hid hF
      obtain ⟨N0, hN0⟩ : ∃ N, N = 1048576 := ⟨_, rfl⟩
      have hN1 : N0 ≤ 1048576 := by omega
      rw [← hN0] at HT4
      clear hok hD hF hN0
      go_wp2
      go_loopw [11] (fun q wr => ∃ (i : Nat) (sa sb : Disk.S), q = .int .i64 i ∧ i ≤ L ∧ Two wr w.heap.size (fun _ => False) sda sdb (N0 + 2 * i) sa sb ∧ Below w.heap.size w wr ∧ sa.left = -1 ∧ sb.left = -1 ∧ sa.l = Disk.runC l (D.take i) ∧ sb.l = Disk.runC l (D.take (min i F)) ∧ (∀ (j : Nat) (x : Disk.Dd), j < i → D[j]? = some x → Disk.canC (Disk.runC l (D.take j)) x = true ∧ Disk.stands (Disk.runC l (D.take (j + 1))) x)) (fun q _ => L - (intOf q).toNat)
      case atStart => exact ⟨0, loadS l, loadS l, rfl, by omega, HT4.out, HB5.out, rfl, rfl, rfl, by rw [Nat.zero_min]; rfl, fun j x h => absurd h (by omega)⟩
      case round =>
        obtain ⟨i, sa, sb, rfl, hi, hT, hBr, hla, hlb, hra, hrb, hcan⟩ := hrel
        obtain ⟨wo, rfl⟩ : ∃ x, x = wr := ⟨wr, rfl⟩
        have HT := Lib.hid hT
        have HBR := Lib.hid hBr
        have HLA := Lib.hid hla
        have HLB := Lib.hid hlb
        have HRA := Lib.hid hra
        have HRB := Lib.hid hrb
        have HCAN := Lib.hid hcan
        have hzr := hBr.size
        clear hT hBr hla hlb hra hrb hcan
        by_cases hiL : i < L
        · obtain ⟨d, hd⟩ : ∃ d, ds[i]? = some d := ⟨_, List.getElem?_eq_getElem (by have := HL.out; omega)⟩
          obtain ⟨bk, o, cap, hve, hbB, hbc⟩ := HH.out.at (by have := HL.out; omega)
          rw [← HL.out] at hve
          cases hve
          obtain ⟨h1, h2, h3⟩ := hbc i d hd
          have K1 := Lib.hid h1
          have K2 := Lib.hid h2
          have K3 := Lib.hid h3
          clear h1 h2 h3
          have hDi : D[i]? = some (toDd d) := by rw [HD.out, List.getElem?_map, hd]; rfl
          have HX := Lib.hid (HSZ.out d (List.mem_of_getElem? hd))
          have hok : Disk.pathOk d.path = true := HPR.out.1 (toDd d) (List.mem_of_getElem? hDi)
          have HOK := Lib.hid hok
          have HDI := Lib.hid hDi
          have hiI : (i : Int) < (L : Int) := by omega
          clear hbc hd hDi hok
          have e1 := (HBR.out.cell (p := ⟨bk, o + i * 3, none⟩) hbB).trans K1.out
          have e2 := (HBR.out.cell (p := ⟨bk, o + i * 3 + 1, none⟩) hbB).trans K2.out
          have e3 := (HBR.out.cell (p := ⟨bk, o + i * 3 + 2, none⟩) hbB).trans K3.out
          have hsl := Two.len HT.out
          have HCN := Lib.hid (Two.can HT.out (HE.out _ HBR.out) (by omega) d.kind d.path d.data (by have := HX.out.1; omega) HOK.out)
          obtain ⟨cb, hcb⟩ : ∃ b, b = Disk.canC sa.l (toDd d) := ⟨_, rfl⟩
          have HCB := Lib.hid hcb
          have hcn2 : Disk.canC sa.l ⟨d.kind, d.path, d.data⟩ = cb := hcb.symm
          rw [hcn2] at HCN
          clear hcb hcn2
          go_wp2_with fail
          refine HCN.out.mono ?_
          rintro e w1 ⟨rfl, hb1⟩
          have HT1 := Lib.hid (HT.out.below hb1)
          have HB1 := Lib.hid (HBR.out.trans (hb1.mono hzr))
          have f1 := (hb1.cell (p := ⟨bk, o + i * 3, none⟩) (by show bk < _; omega)).trans e1
          have f2 := (hb1.cell (p := ⟨bk, o + i * 3 + 1, none⟩) (by show bk < _; omega)).trans e2
          have f3 := (hb1.cell (p := ⟨bk, o + i * 3 + 2, none⟩) (by show bk < _; omega)).trans e3
          clear hb1 e1 e2 e3
          cases cb
          · go_wp2
            go_returns
            exact ⟨rfl, HB1.out⟩
          have HDO := Lib.hid (HT1.out.actT (n' := N0 + 2 * i + 1) (Nat.le_succ _) (fun O hO => does_any hO (HE.out _ HB1.out) (by omega) d.kind d.path d.data (by have := HX.out.1; omega)))
          obtain ⟨ta, hta⟩ : ∃ t, t = sa.does ⟨d.kind, d.path, d.data⟩ := ⟨_, rfl⟩
          have HTA : Hid (ta.l = Disk.runC l (D.take (i + 1)) ∧ ta.left = -1) := Lib.hid (by
            rw [hta, Disk.runC_next HDI.out, ← HRA.out]
            exact Disk.does_l sa (toDd d) HLA.out)
          rw [← hta] at HDO
          clear hta
          go_wp2_with fail
          refine HDO.out.mono ?_
          rintro e w2 ⟨rfl, hn2⟩
          have HT2 := Lib.hid hn2.two
          have HB2 := Lib.hid (HB1.out.trans hn2.below)
          have e1 := (HB2.out.cell (p := ⟨bk, o + i * 3, none⟩) hbB).trans K1.out
          have e2 := (HB2.out.cell (p := ⟨bk, o + i * 3 + 1, none⟩) hbB).trans K2.out
          have e3 := (HB2.out.cell (p := ⟨bk, o + i * 3 + 2, none⟩) hbB).trans K3.out
          clear hn2 f1 f2 f3
          have HKI := Lib.hid (HT2.out.kind d.path (by have := HX.out.1; omega))
          obtain ⟨kk, hkk⟩ : ∃ kk, kk = Disk.kind ta.l d.path := ⟨_, rfl⟩
          have HKK := Lib.hid hkk
          rw [← hkk] at HKI
          clear hkk
          go_wp2_with fail
          refine HKI.out.mono ?_
          rintro e w3 ⟨rfl, hb3⟩
          have HT3 := Lib.hid (HT2.out.below hb3)
          have HB3 := Lib.hid (HB2.out.trans (hb3.mono HB2.out.size))
          have f1 := (HB3.out.cell (p := ⟨bk, o + i * 3, none⟩) hbB).trans K1.out
          have f2 := (HB3.out.cell (p := ⟨bk, o + i * 3 + 1, none⟩) hbB).trans K2.out
          have f3 := (HB3.out.cell (p := ⟨bk, o + i * 3 + 2, none⟩) hbB).trans K3.out
          clear hb3 e1 e2 e3
          have HFI : Hid ((i : Int) < far ↔ i < F) := Lib.hid (by rw [HF.out]; omega)
          rcases stand_cases d.kind kk with (⟨r1, r2⟩ | ⟨r1, r2, r3⟩) | (⟨r1, r2, r3⟩ | ⟨r1, r2, r3⟩ | ⟨r1, r2, r3⟩)
          · go_wp2
            go_returns
            exact ⟨rfl, HB3.out⟩
          · go_wp2
            go_returns
            exact ⟨rfl, HB3.out⟩
          all_goals
            have HST : Hid (Disk.stands (Disk.runC l (D.take (i + 1))) (toDd d)) := Lib.hid (by
              rw [← HTA.out.1]
              have := HKK.out
              exact stands_of this r3)
            have HNX : Hid (∀ (j : Nat) (x : Disk.Dd), j < i + 1 → D[j]? = some x → Disk.canC (Disk.runC l (D.take j)) x = true ∧ Disk.stands (Disk.runC l (D.take (j + 1))) x) := Lib.hid (fun j x hj hx => by
              by_cases hji : j < i
              · exact HCAN.out j x hji hx
              · obtain rfl : j = i := by omega
                rw [HDI.out] at hx
                obtain rfl := Option.some.inj hx
                exact ⟨by rw [← HRA.out]; exact HCB.out.symm, HST.out⟩)
            clear r3
            by_cases hif : (i : Int) < far
            · have HDB := Lib.hid (HT3.out.swap.actT (n' := N0 + 2 * i + 1 + 1) (Nat.le_succ _) (fun O hO => does_any hO (HE.out _ HB3.out) (by omega) d.kind d.path d.data (by have := HX.out.1; omega)))
              obtain ⟨tb, htb⟩ : ∃ t, t = sb.does ⟨d.kind, d.path, d.data⟩ := ⟨_, rfl⟩
              have HTB : Hid (tb.l = Disk.runC l (D.take (min (i + 1) F)) ∧ tb.left = -1) := Lib.hid (by
                have hlt := HFI.out.1 hif
                rw [htb, Nat.min_eq_left (by omega), Disk.runC_next HDI.out]
                have hrb := HRB.out
                rw [Nat.min_eq_left (by omega)] at hrb
                rw [← hrb]
                exact Disk.does_l sb (toDd d) HLB.out)
              rw [← htb] at HDB
              clear htb
              go_wp2_with fail
              refine HDB.out.mono ?_
              rintro e w4 ⟨rfl, hn4⟩
              have HT4 := Lib.hid hn4.two.swap
              have HB4 := Lib.hid (HB3.out.trans hn4.below)
              clear hn4 f1 f2 f3
              go_wp2
              go_roundw
              case rel => exact ⟨i + 1, ta, tb, by go_num, by omega, HT4.out.more (by omega), HB4.out, HTA.out.2, HTB.out.2, HTA.out.1, HTB.out.1, HNX.out⟩
              case measure => simp [intOf]; omega
            · have HTB : Hid (sb.l = Disk.runC l (D.take (min (i + 1) F))) := Lib.hid (by
                have hlt : ¬ i < F := fun h => hif (HFI.out.2 h)
                rw [HRB.out, Nat.min_eq_right (by omega), Nat.min_eq_right (by omega)])
              go_wp2
              go_roundw
              case rel => exact ⟨i + 1, ta, sb, by go_num, by omega, HT3.out.more (by omega), HB3.out, HTA.out.2, HLB.out, HTA.out.1, HTB.out, HNX.out⟩
              case measure => simp [intOf]; omega
        · have hex : ¬ (i : Int) < (L : Int) := by omega
          have HALL : Hid (Disk.canAll l D) := Lib.hid (fun j x hx => HCAN.out j x (by have := (List.getElem?_eq_some_iff.1 hx).1; rw [HD.out, List.length_map, ← HL.out] at this; omega) hx)
          have HSA : Hid (sa.l = Disk.runC l D) := Lib.hid (by rw [HRA.out, List.take_of_length_le (by rw [HD.out, List.length_map, ← HL.out]; omega)])
          go_wp2
          go_loopw [13] (fun q wr => ∃ (j : Nat) (sc : Disk.S), q = .int .i64 j ∧ j ≤ L ∧ Two wr w.heap.size (fun _ => False) sda sdb (N0 + 2 * i + j) sa sc ∧ Below w.heap.size w wr ∧ sc.left = -1 ∧ sc.l = Disk.runC sb.l (D.take j)) (fun q _ => L - (intOf q).toNat)
          case atStart => exact ⟨0, sb, rfl, by omega, HT.out, HBR.out, HLB.out, rfl⟩
          case round =>
            have HI := Lib.hid hi
            obtain ⟨i0, hi0⟩ : ∃ x, x = i := ⟨i, rfl⟩
            obtain ⟨j, sc, rfl, hj, hT, hBr, hlc, hrc⟩ := hrel
            obtain ⟨wp, rfl⟩ : ∃ x, x = wr := ⟨wr, rfl⟩
            have HTP := Lib.hid hT
            have HBP := Lib.hid hBr
            have HLC := Lib.hid hlc
            have HRC := Lib.hid hrc
            have hzp := hBr.size
            clear hT hBr hlc hrc hi0
            by_cases hjL : j < L
            · obtain ⟨d, hd⟩ : ∃ d, ds[j]? = some d := ⟨_, List.getElem?_eq_getElem (by have := HL.out; omega)⟩
              obtain ⟨bk, o, cap, hve, hbB, hbc⟩ := HH.out.at (by have := HL.out; omega)
              rw [← HL.out] at hve
              cases hve
              obtain ⟨h1, h2, h3⟩ := hbc j d hd
              have K1 := Lib.hid h1
              have K2 := Lib.hid h2
              have K3 := Lib.hid h3
              clear h1 h2 h3
              have hDi : D[j]? = some (toDd d) := by rw [HD.out, List.getElem?_map, hd]; rfl
              have HX := Lib.hid (HSZ.out d (List.mem_of_getElem? hd))
              have hok : Disk.pathOk d.path = true := HPR.out.1 (toDd d) (List.mem_of_getElem? hDi)
              have HOK := Lib.hid hok
              have HDI := Lib.hid hDi
              have hiI : (j : Int) < (L : Int) := by omega
              clear hbc hd hDi hok
              have e1 := (HBP.out.cell (p := ⟨bk, o + j * 3, none⟩) hbB).trans K1.out
              have e2 := (HBP.out.cell (p := ⟨bk, o + j * 3 + 1, none⟩) hbB).trans K2.out
              have e3 := (HBP.out.cell (p := ⟨bk, o + j * 3 + 2, none⟩) hbB).trans K3.out
              have HDB := Lib.hid (HTP.out.swap.actT (n' := N0 + 2 * i + j + 1) (Nat.le_succ _) (fun O hO => does_any hO (HE.out _ HBP.out) (by omega) d.kind d.path d.data (by have := HX.out.1; omega)))
              obtain ⟨tb, htb⟩ : ∃ t, t = sc.does ⟨d.kind, d.path, d.data⟩ := ⟨_, rfl⟩
              have HTB : Hid (tb.l = Disk.runC sb.l (D.take (j + 1)) ∧ tb.left = -1) := Lib.hid (by
                rw [htb, Disk.runC_next HDI.out, ← HRC.out]
                exact Disk.does_l sc (toDd d) HLC.out)
              rw [← htb] at HDB
              clear htb
              go_wp2_with fail
              refine HDB.out.mono ?_
              rintro e w4 ⟨rfl, hn4⟩
              have HT4 := Lib.hid hn4.two.swap
              have HB4 := Lib.hid (HBP.out.trans hn4.below)
              clear hn4 e1 e2 e3
              go_wp2
              go_roundw
              case rel => exact ⟨j + 1, tb, by go_num, by omega, HT4.out, HB4.out, HTB.out.2, HTB.out.1⟩
              case measure => simp [intOf]; omega
            · have hex2 : ¬ (j : Int) < (L : Int) := by omega
              have HSC : Hid (sc.l = sa.l) := Lib.hid (by
                rw [HRC.out, List.take_of_length_le (by rw [HD.out, List.length_map, ← HL.out]; omega), HRB.out, HSA.out]
                have hmin : D.take (min i F) = D.take F := by
                  rw [List.take_eq_take_iff]
                  rw [HD.out, List.length_map, ← HL.out]
                  omega
                rw [hmin]
                exact Disk.again HHU.out HPR.out HALL.out F)
              have hla := Two.len HTP.out
              have hlb := Two.len HTP.out.swap
              have HA1 := Lib.hid (HTP.out.all (by omega))
              go_wp2_with fail
              refine HA1.out.mono ?_
              rintro e w1 ⟨v1, rfl, hr1, hb1⟩
              have HT1 := Lib.hid (HTP.out.below hb1)
              have HB1 := Lib.hid (HBP.out.trans (hb1.mono hzp))
              have HR1 := Lib.hid hr1.files
              have hz1 := hb1.size
              clear hr1 hb1
              have HA2 := Lib.hid (HT1.out.swap.all (by omega))
              go_wp2_with fail
              refine HA2.out.mono ?_
              rintro e w2 ⟨v2, rfl, hr2, hb2⟩
              have HB2 := Lib.hid (HB1.out.trans (hb2.mono HB1.out.size))
              have hr2' := hr2.files
              rw [HSC.out] at hr2'
              have HFF := Lib.hid (files17_any ((HR1.out.below hb2 (Nat.le_refl _)).mono hb2.size) hr2' (by rw [fls_length]; omega))
              clear hr2 hb2 hr2'
              go_wp2_with fail
              refine HFF.out.mono ?_
              rintro e w3 ⟨rfl, m, rfl⟩
              have HB3 := Lib.hid (bdrew HB2.out m)
              go_wp2
              go_returns
              exact ⟨rfl, HB3.out⟩

end Go.Proofs.YtnfklomokjhojaaGreatDoor
