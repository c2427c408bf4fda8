/- DeltaDoes' walk. -/
import Derived.Test.YtnfklomokjhojaaDoorDoesP
import Derived.Test.YtnfklomokjhojaaDoorDeltaBackP
import Derived.Test.YtnfklomokjhojaaDoorDiskA6
import Derived.Deep.RegionHeld3
namespace Go.Proofs.YtnfklomokjhojaaDoor
open Go.RowKit Go.Maps
set_option linter.unusedSimpArgs false
set_option linter.unusedVariables false
set_option maxHeartbeats 2000000 in
set_option maxRecDepth 100000 in
/-- The two lists of files are the same. -/
theorem files16_any {w : World} {B : Nat} {v1 v2 : Value} {ds : List Disk.Fl} (h1 : Files w B v1 ds) (h2 : Files w B v2 ds) (hn : ds.length ≤ 4398046511104) :
    Calls Tryd.prog 29 #[v1, v2] w fun e w' => e = .returned (.bool true) ∧ ∃ m, w' = w.drewN m := by
  obtain ⟨a1, c1, rfl⟩ := h1.form
  obtain ⟨a2, c2, rfl⟩ := h2.form
  obtain ⟨N, hN⟩ : ∃ N, N = ds.length := ⟨_, rfl⟩
  have H1 := Lib.hid h1
  have H2 := Lib.hid h2
  rw [← hN] at hn ⊢
  have HN := Lib.hid hN
  clear h1 h2 hN
  go_enter Tryd.func29, Tryd.ntmps29
  go_wp2
  go_loopw [5] (fun q wr => ∃ i m : Nat, q = .int .i64 i ∧ i ≤ N ∧ wr = w.drewN m) (fun q _ => N - (intOf q).toNat)
  case atStart => exact ⟨0, 0, rfl, by omega, rfl⟩
  case round =>
    obtain ⟨i, m, rfl, hi, rfl⟩ := hrel
    by_cases hiN : i < N
    · obtain ⟨d, hd⟩ : ∃ d, ds[i]? = some d := ⟨_, List.getElem?_eq_getElem (by have := HN.out; omega)⟩
      obtain ⟨b1, o1, cap1, hv1, hb1, hc1⟩ := H1.out.at (by have := HN.out; omega)
      obtain ⟨b2, o2, cap2, hv2, hb2, hc2⟩ := H2.out.at (by have := HN.out; omega)
      rw [← HN.out] at hv1 hv2
      cases hv1
      cases hv2
      obtain ⟨x1, x2, x3⟩ := hc1 i d hd
      obtain ⟨y1, y2, y3⟩ := hc2 i d hd
      have hiI : (i : Int) < (N : Int) := by omega
      have hdn := fun w => fileNeq w d d
      have hsd : sameF d d = true := by unfold sameF; simp
      rw [hsd] at hdn
      clear hc1 hc2 hd hsd
      go_wp2
      go_big_quiet (fail)
      go_wp2
      go_roundw
      case rel => exact ⟨i + 1, _, by go_num, by omega, rfl⟩
      case measure => simp [intOf]; omega
    · go_wp2
      go_returns
      exact ⟨rfl, _, rfl⟩
namespace Disk
theorem doD_cases {l l' : M} {d : Dd} (h : doD l d = some l') : pathOk d.path = true ∧ ((d.kind = 1 ∧ kind l d.path = 1 ∧ removeC l d.path = (0, l')) ∨ (d.kind = 2 ∧ kind l d.path = 2 ∧ removeC l d.path = (0, l')) ∨ (d.kind = 3 ∧ mkdirC l d.path = (0, l')) ∨ (d.kind = 4 ∧ writeC l d.path d.data = (0, l'))) := by
  have pr : (removeC l d.path).1 = 0 → pathOk d.path = true := fun h => by
    cases hp : pathOk d.path with
    | true => rfl
    | false => unfold removeC at h; rw [hp] at h; exact absurd h (by simp)
  have pm : (mkdirC l d.path).1 = 0 → pathOk d.path = true := fun h => by
    cases hp : pathOk d.path with
    | true => rfl
    | false => unfold mkdirC at h; rw [hp] at h; exact absurd h (by simp)
  have pw : (writeC l d.path d.data).1 = 0 → pathOk d.path = true := fun h => by
    cases hp : pathOk d.path with
    | true => rfl
    | false => unfold writeC at h; rw [hp] at h; exact absurd h (by simp)
  have pair : ∀ (c : Int × M), c.1 = 0 → some c.2 = some l' → c = (0, l') := fun c h1 h2 => by
    obtain ⟨x, y⟩ := c
    cases h2
    dsimp only at h1
    rw [h1]
  unfold doD at h
  by_cases h1 : d.kind = 1
  · rw [if_pos h1] at h
    split at h
    · rename_i hc
      exact ⟨pr hc.2, Or.inl ⟨h1, hc.1, pair _ hc.2 h⟩⟩
    · exact absurd h (by simp)
  rw [if_neg h1] at h
  by_cases h2 : d.kind = 2
  · rw [if_pos h2] at h
    split at h
    · rename_i hc
      exact ⟨pr hc.2, Or.inr (Or.inl ⟨h2, hc.1, pair _ hc.2 h⟩)⟩
    · exact absurd h (by simp)
  rw [if_neg h2] at h
  by_cases h3 : d.kind = 3
  · rw [if_pos h3] at h
    split at h
    · rename_i hc
      exact ⟨pm hc, Or.inr (Or.inr (Or.inl ⟨h3, pair _ hc h⟩))⟩
    · exact absurd h (by simp)
  rw [if_neg h3] at h
  by_cases h4 : d.kind = 4
  · rw [if_pos h4] at h
    split at h
    · rename_i hc
      exact ⟨pw hc, Or.inr (Or.inr (Or.inr ⟨h4, pair _ hc h⟩))⟩
    · exact absurd h (by simp)
  · rw [if_neg h4] at h; exact absurd h (by simp)
theorem doAll_at : ∀ {ds : List Dd} {l m : M} {i : Nat} {d : Dd}, doAll l ds = some m → ds[i]? = some d → ∃ li, doAll l (ds.take i) = some li ∧ ∃ l', doD li d = some l' ∧ doAll l (ds.take (i + 1)) = some l'
  | [], _, _, _, _, _, hd => by simp at hd
  | x :: r, l, m, 0, d, h, hd => by
    simp at hd
    subst hd
    rw [doAll] at h
    cases hx : doD l x with
    | none => rw [hx] at h; exact absurd h (by simp)
    | some l' => exact ⟨l, rfl, l', hx, by rw [List.take_succ_cons, List.take_zero, doAll, hx]; rfl⟩
  | x :: r, l, m, i + 1, d, h, hd => by
    rw [doAll] at h
    cases hx : doD l x with
    | none => rw [hx] at h; exact absurd h (by simp)
    | some l' =>
      rw [hx] at h
      obtain ⟨li, h1, l2, h2, h3⟩ := doAll_at (show doAll l' r = some m from h) (by simpa using hd)
      exact ⟨li, by rw [List.take_succ_cons, doAll, hx]; exact h1, l2, h2, by rw [List.take_succ_cons, doAll, hx]; exact h3⟩
end Disk
theorem RefIn.keeps {O : Nat → Prop} {w w' : World} {base rd : Nat} {l : Disk.M} {lv rv : Value} {left : Int} (h : RefIn w base rd l lv rv left) (hk : Keeps O w w') (hO : ∀ k, O k → k < base) : RefIn w' base rd l lv rv left := by
  have hb := h.rdb
  have hs := hk.block rd h.rdl (fun e => by have := hO rd e; omega)
  exact ⟨(World.cell?_of_block hs).trans h.c0, (World.cell?_of_block hs).trans h.c1, (World.cell?_of_block hs).trans h.c2, fun j => (World.frozen?_of_block hs).trans (h.fr j), own_keeps h.row hk (fun g hg e => by have := hO g e; have := (World.ownsRow.lt h.row g hg).1; omega), h.ne, h.rises, h.rdb⟩
/-- A new state behind a new state. -/
theorem DskNow.then {w w1 w' : World} {B : Nat} {O : Nat → Prop} {sd n n' : Nat} {s' : Disk.S} {P : (Nat → Prop) → Prop} {O1 : Nat → Prop} (hk : Keeps O w w1) (hO : ∀ k, O1 k → O k ∨ w.heap.size ≤ k) (h : DskNow w1 w' B O1 sd n s') : DskNow w w' B O sd n s' := by
  obtain ⟨⟨O', h1, h2⟩, h3⟩ := h
  refine ⟨⟨O', h1, fun k hk2 => ?_⟩, hk.trans h3 hO⟩
  rcases h2 k hk2 with h | h
  · exact hO k h
  · exact Or.inr (Nat.le_trans hk.size h)
set_option maxHeartbeats 8000000 in
set_option maxRecDepth 100000 in
theorem delta_does_law {w : World} {v1 v2 : Value} {before after : List Disk.Fl} (h1 : Files w w.heap.size v1 before) (h2 : Files w w.heap.size v2 after) (hE : Env w) (hn1 : before.length ≤ 1048576) (hsz1 : ∀ f ∈ before, f.path.length ≤ 1048576 ∧ f.data.length ≤ 1048576) (hn2 : after.length ≤ 1048576) (hsz2 : ∀ f ∈ after, f.path.length ≤ 1048576 ∧ f.data.length ≤ 1048576) :
    Calls Tryd.prog 7 #[v1, v2] w fun e w' => e = .returned (.bool true) ∧ Below w.heap.size w w' := by
  have HD1 := Lib.hid (delta_any h1 h2 (Nat.le_refl _) hE hn1 hsz1 hn2 hsz2)
  have HLD := Lib.hid (fun (W : World) (hb : Below w.heap.size w W) => load_any (h1.below hb (Nat.le_refl _)) hb.size (hE.below hb (Nat.le_refl _)) (by omega) (fun f hf => by have := hsz1 f hf; omega))
  have HRL := Lib.hid (fun (W : World) (hb : Below w.heap.size w W) => rload_any (h2.below hb (Nat.le_refl _)) hb.size (by omega) (fun f hf => by have := hsz2 f hf; omega))
  have HE := Lib.hid (fun (W : World) (hb : Below w.heap.size w W) => hE.below hb (Nat.le_refl _))
  have HLV := Lib.hid (fun (W : World) (hb : Below w.heap.size w W) => lives_any W (hE.below hb (Nat.le_refl _)))
  obtain ⟨a1, c1, rfl⟩ := h1.form
  obtain ⟨a2, c2, rfl⟩ := h2.form
  obtain ⟨N1, hN1⟩ : ∃ N, N = before.length := ⟨_, rfl⟩
  obtain ⟨N2, hN2⟩ : ∃ N, N = after.length := ⟨_, rfl⟩
  rw [← hN1] at HD1 HLD hn1 ⊢
  rw [← hN2] at HD1 HRL hn2 ⊢
  have HNN := Lib.hid (And.intro hN1 hN2)
  clear h1 h2 hsz1 hsz2 hE hN1 hN2
  rcases Disk.res_cases before after with hbad | ⟨a, b, hla, hlb, hra, hrb, hres⟩
  · have HP : Hid (∀ W e W', DeltaPost before after W e W' → ∃ v, e = .returned (.tuple #[v, .int .i64 1]) ∧ DRow W' W.heap.size v [] ∧ Below W.heap.size W W') := Lib.hid (fun W e W' h => by unfold DeltaPost at h; rw [hbad] at h; exact h)
    clear hbad
    go_enter Tryd.func7, Tryd.ntmps7
    go_wp2_with fail
    refine HD1.out.mono ?_
    intro e w2 hp
    obtain ⟨v2, rfl, hd2, hb2⟩ := HP.out _ e w2 hp
    obtain ⟨a3, c3, rfl⟩ := own_form hd2
    have hl0 : ([] : List Disk.Dd).length = 0 := rfl
    rw [hl0]
    have HB2 := Lib.hid hb2
    clear hp hd2 hb2 hl0
    go_wp2_with fail
    refine (HLV.out _ HB2.out).mono ?_
    rintro e w3 ⟨rfl, hb3⟩
    have HB3 := Lib.hid (HB2.out.trans (hb3.mono HB2.out.size))
    go_wp2
    go_returns
    exact ⟨rfl, HB3.out⟩
  · have hloa := Disk.read_load hra
    have hlob := Disk.read_load hrb
    have HDOES := Lib.hid (Disk.does (Disk.load_hung hloa) (Disk.load_hung hlob))
    have hlen : (Disk.delta a b).length ≤ 4194304 := by have := Disk.delta_length hla hlb; have := HNN.out; omega
    have HP : Hid (∀ W e W', DeltaPost before after W e W' → ∃ v, e = .returned (.tuple #[v, .int .i64 0]) ∧ DRow W' W.heap.size v (Disk.delta a b) ∧ Below W.heap.size W W') := Lib.hid (fun W e W' h => by unfold DeltaPost at h; rw [hres] at h; exact h)
    have HPL : Hid (∀ W e W', LoadPost before W e W' → ∃ sd bm n, e = .returned (.tuple #[.pointer (some ⟨sd, 0, none⟩), .int .i64 0]) ∧ DiskIn W' W.heap.size sd bm n a (.slice none 0 0) (-1) ∧ n ≤ before.length ∧ Below W.heap.size W W') := Lib.hid (fun W e W' h => by
      unfold LoadPost at h
      rw [hloa] at h
      obtain ⟨⟨sd, bm, n, h1, h2, h3⟩, h4⟩ := h
      exact ⟨sd, bm, n, h1, h2, h3, h4⟩)
    have HPR : Hid (∀ W e W', RLoadPost after W e W' → ∃ rd lv, e = .returned (.tuple #[.pointer (some ⟨rd, 0, none⟩), .bool true]) ∧ RefIn W' W.heap.size rd b lv (.slice none 0 0) (-1) ∧ Below W.heap.size W W') := Lib.hid (fun W e W' h => by
      unfold RLoadPost at h
      rw [hlob] at h
      obtain ⟨⟨rd, lv, h1, h2, h3⟩, h4⟩ := h
      exact ⟨rd, lv, h1, h2, h4⟩)
    have HOKA : Hid (∀ x ∈ a, Disk.pathOk x.1 = true) := Lib.hid (fun x hx => (Disk.load_hung hloa).ok _ _ (SM.look_mem (Disk.load_hung hloa).rises hx))
    have hblen : b.length ≤ 1048576 := by have := hlb.len; have := HNN.out; omega
    have HBL := Lib.hid hblen
    clear hla hlb hra hrb hres hloa hlob hblen
    obtain ⟨ds, hds⟩ : ∃ ds, ds = Disk.delta a b := ⟨_, rfl⟩
    rw [← hds] at HDOES HP hlen
    clear hds
    obtain ⟨D, hD⟩ : ∃ n, n = ds.length := ⟨_, rfl⟩
    have HDL := Lib.hid hD
    rw [← hD] at hlen
    clear hD
    go_enter Tryd.func7, Tryd.ntmps7
    go_wp2_with fail
    refine HD1.out.mono ?_
    intro e w2 hp
    obtain ⟨v2, rfl, hd2, hb2⟩ := HP.out _ e w2 hp
    have HDD2 := Lib.hid hd2.dds
    have HB2 := Lib.hid hb2
    obtain ⟨a3, c3, rfl⟩ := own_form hd2
    rw [← HDL.out] at HDD2 ⊢
    clear hp hd2 hb2
    go_wp2_with fail
    refine (HLD.out _ HB2.out).mono ?_
    intro e w3 hp
    obtain ⟨sd, bm, n0, rfl, hdi, hn0, hb3⟩ := HPL.out _ e w3 hp
    have HDI := Lib.hid hdi
    have HB3 := Lib.hid (HB2.out.trans (hb3.mono HB2.out.size))
    have HDD3 := Lib.hid (HDD2.out.below hb3 (Nat.le_refl _))
    have hz3 := hb3.size
    clear hp hdi hb3
    go_wp2_with fail
    refine (HRL.out _ HB3.out).mono ?_
    intro e w4 hp
    obtain ⟨rd, lv, rfl, hrf, hb4⟩ := HPR.out _ e w4 hp
    have HRF := Lib.hid hrf
    have HB4 := Lib.hid (HB3.out.trans (hb4.mono HB3.out.size))
    have HDD4 := Lib.hid (HDD3.out.below hb4 hz3)
    have hz4 := hb4.size
    have HDI4 := Lib.hid (HDI.out.sized hb4)
    have hO : ∀ k, (k = sd ∨ k = bm) → w2.heap.size ≤ k ∧ k < w3.heap.size := fun k hk => by
      have h1 := HDI.out.sdb; have h2 := HDI.out.bmb; have h3 := HDI.out.sdl; have h4 := HDI.out.bml
      rcases hk with rfl | rfl
      · exact ⟨h1, h3⟩
      · exact ⟨h2, h4⟩
    have HO := Lib.hid hO
    have HN0 : Hid (n0 ≤ 1048576) := Lib.hid (by have := HNN.out; omega)
    have HDSK : Hid (Dsk w4 w2.heap.size (fun k => k = sd ∨ k = bm) sd n0 ⟨a, [], -1⟩) := Lib.hid ⟨bm, n0, .slice none 0 0, ⟨Nat.le_refl _, by simp, by show (-1 : Int) ≤ _; decide, HOKA.out⟩, ⟨HDI4.out, World.ownsRow_nil _ _ _ _, by simp [Value.ownBlock], by simp [Value.ownBlock], Or.inl rfl, Or.inr rfl, fun g hg => (by cases hg), fun k hk => ⟨(hO k hk).1, by have := (hO k hk).2; omega⟩⟩⟩
    have HB24 : Hid (Below w.heap.size w w2) := HB2
    clear hp hrf hb4 hn0 hO
    go_wp2
    go_loopw [11] (fun q wr => ∃ (i : Nat) (s : Disk.S), q = .int .i64 i ∧ i ≤ D ∧ Disk.doAll a (ds.take i) = some s.l ∧ s.left = -1 ∧ DskNow w4 wr w2.heap.size (fun k => k = sd ∨ k = bm) sd (n0 + i) s) (fun q _ => D - (intOf q).toNat)
    case atStart => exact ⟨0, ⟨a, [], -1⟩, rfl, by omega, rfl, rfl, ⟨_, HDSK.out, fun k h => Or.inl h⟩, Keeps.refl _ _⟩
    case round =>
      obtain ⟨i, s, rfl, hi, hdo, hleft, hnow⟩ := hrel
      obtain ⟨wo, rfl⟩ : ∃ x, x = wr := ⟨wr, rfl⟩
      obtain ⟨⟨O1, hdsk, hO1⟩, hkeep⟩ := hnow
      have HDS1 := Lib.hid hdsk
      have HO1 := Lib.hid hO1
      have HKP := Lib.hid hkeep
      have HDO := Lib.hid hdo
      have HLEFT := Lib.hid hleft
      have HBO : Hid (Below w.heap.size w wo) := Lib.hid (HB4.out.trans (hkeep.to_below (fun k hk => by have := (HO.out k hk).1; have := HB2.out.size; omega) HB4.out.size))
      clear hdsk hO1 hdo hleft
      by_cases hiD : i < D
      · obtain ⟨d, hd⟩ : ∃ d, ds[i]? = some d := ⟨_, List.getElem?_eq_getElem (by have := HDL.out; omega)⟩
        obtain ⟨bk, o, cap, hve, hbB, hbc⟩ := HDD4.out.at (by have := HDL.out; omega)
        rw [← HDL.out] at hve
        cases hve
        obtain ⟨e1, e2, e3⟩ := hbc i d hd
        have hblk : wo.heap[bk]? = w4.heap[bk]? := hkeep.block bk (by omega) (fun hk => by have := (HO.out bk hk).1; omega)
        rw [← World.cell?_of_block (a := ⟨bk, o + i * 3, none⟩) hblk] at e1
        rw [← World.cell?_of_block (a := ⟨bk, o + i * 3 + 1, none⟩) hblk] at e2
        rw [← World.cell?_of_block (a := ⟨bk, o + i * 3 + 2, none⟩) hblk] at e3
        have hbko : bk < wo.heap.size := by have := hkeep.size; omega
        obtain ⟨li, hli, l', hst, hnx⟩ := Disk.doAll_at HDOES.out hd
        have hll : li = s.l := Option.some.inj (hli.symm.trans HDO.out)
        subst hll
        obtain ⟨hpo, hcs⟩ := Disk.doD_cases hst
        have hpl := Disk.pathOk_length hpo
        have HNX := Lib.hid hnx
        have hiI : (i : Int) < (D : Int) := by omega
        obtain ⟨dk, dp, dt⟩ := d
        dsimp only at e1 e2 e3 hpl hcs
        clear hbc hd hblk hli hst hnx hpo hkeep
        obtain ⟨bm1, m1, rv1, hm1, hat1⟩ := HDS1.out
        have HKI := Lib.hid (kind_any hat1.d.c0 hat1.d.things (bs dp) (bs_small (by omega)))
        rw [bs_list] at HKI
        have HSTEP : Hid (∀ (w' w1 : World) (r : Disk.Rw), Below wo.heap.size wo w1 → DskNow w1 w' w2.heap.size O1 sd (n0 + i + 1) (s.did l' r) → ∃ s', Disk.doAll a (ds.take (i + 1)) = some s'.l ∧ s'.left = -1 ∧ DskNow w4 w' w2.heap.size (fun k => k = sd ∨ k = bm) sd (n0 + (i + 1)) s') := Lib.hid (fun w' w1 r hb hn =>
          ⟨s.did l' r, HNX.out, by show Disk.off s.left = -1; rw [HLEFT.out]; rfl, DskNow.then (P := fun _ => True) (n' := 0) HKP.out HO1.out (DskNow.ahead (Keeps.of_below hb) hn)⟩)
        have hl0 : s.left ≠ 0 := by rw [HLEFT.out]; decide
        clear hat1 hm1
        have HN1 : Hid (n0 + i ≤ 1099511627776) := Lib.hid (by have := HN0.out; omega)
        rcases hcs with ⟨rfl, hk, hc⟩ | ⟨rfl, hk, hc⟩ | ⟨rfl, hc⟩ | ⟨rfl, hc⟩
        · have HR : Hid (s.remove dp = (0, s.did l' ⟨4, dp, []⟩)) := Lib.hid (by unfold Disk.S.remove; rw [hc, Disk.ask_yes hl0 rfl])
          rw [hk] at HKI
          clear hc hk hl0
          go_wp2_with fail
          refine HKI.out.mono ?_
          rintro e w5 ⟨rfl, hb5⟩
          have k1 := (hb5.cell (p := ⟨bk, o + i * 3, none⟩) hbko).trans e1
          have k2 := (hb5.cell (p := ⟨bk, o + i * 3 + 1, none⟩) hbko).trans e2
          have HB5 := Lib.hid hb5
          have HOP := Lib.hid (remove_any (HDS1.out.below hb5) (HE.out _ (HBO.out.trans (hb5.mono HBO.out.size))) HN1.out dp (by omega))
          clear hb5 e1 e2 e3
          go_wp2_with fail
          refine HOP.out.mono ?_
          rintro e w6 ⟨rfl, hn6⟩
          rw [HR.out] at hn6 ⊢
          have HN6 := Lib.hid (HSTEP.out _ _ _ HB5.out hn6)
          clear hn6
          go_wp2
          obtain ⟨s', t1, t2, t3⟩ := HN6.out
          go_roundw
          case rel => exact ⟨i + 1, s', by go_num, by omega, t1, t2, t3⟩
          case measure => simp [intOf]; omega
        · have HR : Hid (s.remove dp = (0, s.did l' ⟨4, dp, []⟩)) := Lib.hid (by unfold Disk.S.remove; rw [hc, Disk.ask_yes hl0 rfl])
          rw [hk] at HKI
          clear hc hk hl0
          go_wp2_with fail
          refine HKI.out.mono ?_
          rintro e w5 ⟨rfl, hb5⟩
          have k1 := (hb5.cell (p := ⟨bk, o + i * 3, none⟩) hbko).trans e1
          have k2 := (hb5.cell (p := ⟨bk, o + i * 3 + 1, none⟩) hbko).trans e2
          have HB5 := Lib.hid hb5
          have HOP := Lib.hid (remove_any (HDS1.out.below hb5) (HE.out _ (HBO.out.trans (hb5.mono HBO.out.size))) HN1.out dp (by omega))
          clear hb5 e1 e2 e3
          go_wp2_with fail
          refine HOP.out.mono ?_
          rintro e w6 ⟨rfl, hn6⟩
          rw [HR.out] at hn6 ⊢
          have HN6 := Lib.hid (HSTEP.out _ _ _ HB5.out hn6)
          clear hn6
          go_wp2
          obtain ⟨s', t1, t2, t3⟩ := HN6.out
          go_roundw
          case rel => exact ⟨i + 1, s', by go_num, by omega, t1, t2, t3⟩
          case measure => simp [intOf]; omega
        · have HR : Hid (s.mkdir dp = (0, s.did l' ⟨1, dp, []⟩)) := Lib.hid (by unfold Disk.S.mkdir; rw [hc, Disk.ask_yes hl0 rfl])
          obtain ⟨kk, hkk⟩ : ∃ k, k = Disk.kind s.l dp := ⟨_, rfl⟩
          rw [← hkk] at HKI
          clear hc hl0 hkk
          go_wp2_with fail
          refine HKI.out.mono ?_
          rintro e w5 ⟨rfl, hb5⟩
          have k1 := (hb5.cell (p := ⟨bk, o + i * 3, none⟩) hbko).trans e1
          have k2 := (hb5.cell (p := ⟨bk, o + i * 3 + 1, none⟩) hbko).trans e2
          have HB5 := Lib.hid hb5
          have HOP := Lib.hid (mkdir_any (HDS1.out.below hb5) (HE.out _ (HBO.out.trans (hb5.mono HBO.out.size))) HN1.out dp (by omega))
          clear hb5 e1 e2 e3
          go_wp2_with fail
          refine HOP.out.mono ?_
          rintro e w6 ⟨rfl, hn6⟩
          rw [HR.out] at hn6 ⊢
          have HN6 := Lib.hid (HSTEP.out _ _ _ HB5.out hn6)
          clear hn6
          go_wp2
          obtain ⟨s', t1, t2, t3⟩ := HN6.out
          go_roundw
          case rel => exact ⟨i + 1, s', by go_num, by omega, t1, t2, t3⟩
          case measure => simp [intOf]; omega
        · have HR : Hid (s.write dp dt = (0, s.did l' ⟨2, dp, []⟩)) := Lib.hid (by unfold Disk.S.write; rw [hc, Disk.ask_yes hl0 rfl])
          obtain ⟨kk, hkk⟩ : ∃ k, k = Disk.kind s.l dp := ⟨_, rfl⟩
          rw [← hkk] at HKI
          clear hc hl0 hkk
          go_wp2_with fail
          refine HKI.out.mono ?_
          rintro e w5 ⟨rfl, hb5⟩
          have k1 := (hb5.cell (p := ⟨bk, o + i * 3, none⟩) hbko).trans e1
          have k2 := (hb5.cell (p := ⟨bk, o + i * 3 + 1, none⟩) hbko).trans e2
          have k3 := (hb5.cell (p := ⟨bk, o + i * 3 + 2, none⟩) hbko).trans e3
          have HB5 := Lib.hid hb5
          clear hb5 e1 e2 e3
          go_wp2
          refine still_tail 11 (by kernel_rfl) (by kernel_rfl) (fun w7 hw7 => ?_)
          have HB7 : Hid (Below wo.heap.size wo w7) := Lib.hid (by rw [hw7]; exact HB5.out.drew)
          rw [show w5.cell? ⟨bk, o + i * 3 + 1, none⟩ = w7.cell? ⟨bk, o + i * 3 + 1, none⟩ by rw [hw7]; rfl] at k2
          rw [show w5.cell? ⟨bk, o + i * 3 + 2, none⟩ = w7.cell? ⟨bk, o + i * 3 + 2, none⟩ by rw [hw7]; rfl] at k3
          have HOP := Lib.hid (write_any (HDS1.out.below HB7.out) (HE.out _ (HBO.out.trans (HB7.out.mono HBO.out.size))) HN1.out dp dt (by omega))
          clear hw7 k1
          simp only [List.take_succ_cons, List.take_zero, List.drop_succ_cons, List.drop_zero]
          iterate 11 still_step
          refine wpStill_nil ?_
          go_wp2_with fail
          refine HOP.out.mono ?_
          rintro e w6 ⟨rfl, hn6⟩
          rw [HR.out] at hn6 ⊢
          have HN6 := Lib.hid (HSTEP.out _ _ _ HB7.out hn6)
          clear hn6
          go_wp2
          obtain ⟨s', t1, t2, t3⟩ := HN6.out
          go_roundw
          case rel => exact ⟨i + 1, s', by go_num, by omega, t1, t2, t3⟩
          case measure => simp [intOf]; omega
      · have HSB : Hid (s.l = b) := Lib.hid (by
          have h1 := HDO.out
          rw [List.take_of_length_le (by have := HDL.out; omega), HDOES.out] at h1
          exact (Option.some.inj h1).symm)
        have hex : ¬ (i : Int) < (D : Int) := by omega
        have HRW := Lib.hid (HRF.out.keeps hkeep (fun k hk => (HO.out k hk).2))
        have HALL : Hid (∀ W, W.heap = wo.heap → W.os = wo.os → W.tape = wo.tape → W.output = wo.output → Calls Tryd.prog 19 #[.pointer (some ⟨sd, 0, none⟩)] W fun e w' => ∃ v, e = .returned v ∧ FRow w' wo.heap.size v (fls b) ∧ Below wo.heap.size wo w') := Lib.hid (fun W hW h1 h2 h3 => by
          obtain ⟨bm1, m1, rv1, hm1, hat1⟩ := HDS1.out
          have hb : Below wo.heap.size wo W := ⟨h1, h2, h3, by rw [hW]; exact Nat.le_refl _, fun k _ => by rw [hW]⟩
          have hat2 := hat1.below hb
          have h := all_any hat2.d.c0 hat2.d.things (by rw [HSB.out]; have := HBL.out; omega)
          rw [HSB.out, hW] at h
          exact h.mono fun e w' ⟨v, h4, h5, h6⟩ => ⟨v, h4, h5, hb.trans (by rw [← hW]; rw [← hW] at h6; exact h6)⟩)
        have hlf : (fls b).length ≤ 4398046511104 := by rw [fls_length]; have := HBL.out; omega
        have HLF := Lib.hid hlf
        have HLI := Lib.hid HRW.out.row.files
        have hc0 := HRW.out.c0
        have hrdl := HRW.out.rdl
        obtain ⟨av, cv, rfl⟩ := own_form HRW.out.row
        clear hlf hkeep
        go_wp2
        go_region_held3 (fun w' => w'.cell? ⟨rd, 0, none⟩ = some (.slice av (fls b).length cv)) (first | exact hc0 | exact hc1) (first
          | (go_at_call 19; refine (HALL.out wo.drew rfl rfl rfl rfl).mono ?_; rintro e w7 ⟨v7, rfl, hr7, hb7⟩; have hc1 := (hb7.cell (p := ⟨rd, 0, none⟩) hrdl).trans hc0; have HC7 := Lib.hid (files16_any hr7.files (HLI.out.below hb7 (Nat.le_refl _) |>.mono hb7.size) HLF.out); have HB7 := Lib.hid hb7; clear hr7 hb7)
          | (go_at_call 29; refine HC7.out.mono ?_; rintro e w8 ⟨rfl, m8, rfl⟩))
        all_goals
          have HB8 := Lib.hid (HBO.out.trans ((bdrew HB7.out m8).mono HBO.out.size))
          obtain ⟨w8, hw8⟩ : ∃ x, x = w7.drewN m8 := ⟨_, rfl⟩
          rw [← hw8] at HB8 ⊢
          clear hw8
          go_wp2_with fail
          refine (HLV.out _ HB8.out).mono ?_
          rintro e w9 ⟨rfl, hb9⟩
          have HB9 := Lib.hid (HB8.out.trans (hb9.mono HB8.out.size))
          go_wp2
          go_returns
          exact ⟨rfl, HB9.out⟩
end Go.Proofs.YtnfklomokjhojaaDoor
