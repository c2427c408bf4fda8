/- journal.Commit: the walk. -/
import Derived.Test.YtdogacgpfnolfaaGreatDoorJrC
import Derived.Test.YtdogacgpfnolfaaGreatDoorJrA
import Derived.Test.YtdogacgpfnolfaaGreatDoorRefLoad
namespace Go.Proofs.YtdogacgpfnolfaaGreatDoor
open Go.RowKit Go.Maps
set_option linter.unusedSimpArgs false
set_option linter.unusedVariables false
theorem things_le {w : World} {bm n : Nat} {l : Disk.M} (h : Things w bm n l) : l.length ≤ n := by
  have := h.own.size_le
  simpa [SM.enc, Maps.size] using this
theorem Dsk.len {w : World} {B : Nat} {O : Nat → Prop} {sd n : Nat} {s : Disk.S} (h : Dsk w B O sd n s) : s.l.length ≤ n := by
  obtain ⟨bm, m, rv, hm, h1⟩ := h
  exact Nat.le_trans (things_le h1.d.things) hm.1
theorem Dsk.size {w : World} {B : Nat} {O : Nat → Prop} {sd n : Nat} {s : Disk.S} (h : Dsk w B O sd n s) : B ≤ w.heap.size := by
  obtain ⟨bm, m, rv, hm, h1⟩ := h
  have := h1.lim sd h1.os
  omega
theorem bind0 {s : Disk.S} {k : Disk.S → Int × Disk.S} : Disk.S.bind (0, s) k = k s := if_pos rfl
theorem bindN {c : Int} {s : Disk.S} {k : Disk.S → Int × Disk.S} (h : c ≠ 0) : Disk.S.bind (c, s) k = (c, s) := if_neg h
set_option maxHeartbeats 2000000 in
set_option maxRecDepth 100000 in
theorem commit_any {w : World} {B : Nat} {O : Nat → Prop} {sd n : Nat} {s : Disk.S} {v : Value} {ds : List PL.Plan.D} (h : Dsk w B O sd n s) (hE : Env w) (hg : 0 < B) (hd : DeedsOff w O v ds) (hh : Disk.Hung s.l) (hn : n + ds.length + 6 ≤ 1099511627776) (hm : ds.length ≤ 1048576) (hsz : ∀ d ∈ ds, d.path.length ≤ 1048576 ∧ d.data.length ≤ 1048576) :
    Calls Tryz.prog 9 #[.pointer (some ⟨sd, 0, none⟩), v] w (JPost w B O sd (n + ds.length + 6) (s.commit (canJ s.l ds) (PL.Plan.text ds) (ds.map toDd))) := by
  obtain ⟨a1, c1, hv, hat⟩ := id hd
  subst hv
  obtain ⟨N, hN⟩ : ∃ N, N = ds.length := ⟨_, rfl⟩
  obtain ⟨D, hD⟩ : ∃ D, D = ds.map toDd := ⟨_, rfl⟩
  have hlen := h.len
  have HH := Lib.hid hd
  have HSZ := Lib.hid hsz
  have H := Lib.hid h
  have HLIM := Lib.hid (fun k hk => (H.out.lim k hk).1)
  have HE := Lib.hid (fun (V : World) (hv : Keeps O w V) => env_keeps hE hv HLIM.out hg)
  have HG := Lib.hid hg
  have HDN := Lib.hid (Dsk.down h)
  have HKA : Hid (Calls Tryz.prog 11 #[.pointer (some ⟨sd, 0, none⟩), .string ⟨#[47, 106, 111, 117, 114, 110, 97, 108]⟩] w fun e w' => e = .returned (.int .i64 (Disk.kind s.l Disk.jA)) ∧ Below w.heap.size w w') := Lib.hid (Dsk.kind h Disk.jA (by decide))
  have HCAN := Lib.hid (fun (V : World) (hV : Below w.heap.size w V) => can_any (h.below hV) (hE.below hV (Nat.le_refl _)) (hd.keeps (O1 := O) (Keeps.of_below hV) (fun k h => Or.inl h)).deeds hh (by omega) hsz)
  have HPR := Lib.hid (fun (V : World) (hV : Below w.heap.size w V) => PL.print_any (hd.keeps (O1 := O) (Keeps.of_below hV) (fun k h => Or.inl h)).deeds (Nat.le_refl _) hm hsz)
  rw [← hN, ← hD]
  rw [← hN] at hn hm HCAN HPR
  have HN := Lib.hid hN
  have HD := Lib.hid hD
  clear hat h hsz hE hg hN hD hd hh
  by_cases hdn : s.left = 0
  · have HS : Hid (s.commit (canJ s.l ds) (PL.Plan.text ds) D = (15, s)) := Lib.hid (by unfold Disk.S.commit; rw [if_pos hdn])
    rw [HS.out]
    rw [decide_eq_true hdn] at HDN
    clear hdn HS
    go_enter Tryz.func9, Tryz.ntmps9
    go_wp2_with fail
    refine HDN.out.mono ?_
    rintro e w0 ⟨rfl, rfl⟩
    go_wp2
    go_returns
    exact And.intro rfl ((DskNow.of_below H.out (Below.refl _ _)).more (by omega))
  rw [decide_eq_false hdn] at HDN
  by_cases hk : Disk.kind s.l Disk.jA ≠ 0
  · have HS : Hid (s.commit (canJ s.l ds) (PL.Plan.text ds) D = (11, s)) := Lib.hid (by unfold Disk.S.commit; rw [if_neg hdn, if_pos hk])
    rw [HS.out]
    have hq : (Disk.kind s.l Disk.jA != 0) = true := by rw [bne, beq_eq_false_iff_ne.2 hk]; rfl
    obtain ⟨kk, hkk⟩ : ∃ kk, kk = Disk.kind s.l Disk.jA := ⟨_, rfl⟩
    rw [← hkk] at HKA hq
    clear hdn HS hk hkk
    go_enter Tryz.func9, Tryz.ntmps9
    go_wp2_with fail
    refine HDN.out.mono ?_
    rintro e w0 ⟨rfl, rfl⟩
    go_wp2_with fail
    refine HKA.out.mono ?_
    rintro e w1 ⟨rfl, hb1⟩
    have HB1 := Lib.hid hb1
    clear hb1
    go_wp2
    go_returns
    exact And.intro rfl ((DskNow.of_below H.out HB1.out).more (by omega))
  have hk0 : Disk.kind s.l Disk.jA = 0 := Decidable.byContradiction fun h => hk h
  rw [hk0] at HKA
  cases hcan : canJ s.l ds with
  | false =>
    have HS : Hid (s.commit false (PL.Plan.text ds) D = (44, s)) := Lib.hid (by unfold Disk.S.commit; rw [if_neg hdn, if_neg hk, if_pos (by decide)])
    rw [HS.out]
    rw [hcan] at HCAN
    clear hdn HS hk hk0 hcan
    go_enter Tryz.func9, Tryz.ntmps9
    go_wp2_with fail
    refine HDN.out.mono ?_
    rintro e w0 ⟨rfl, rfl⟩
    go_wp2_with fail
    refine HKA.out.mono ?_
    rintro e w1 ⟨rfl, hb1⟩
    have HB1 := Lib.hid hb1
    have HC1 := Lib.hid (HCAN.out w1 hb1)
    clear hb1
    go_wp2_with fail
    refine HC1.out.mono ?_
    rintro e w2 ⟨rfl, hb2⟩
    have HB2 := Lib.hid (HB1.out.trans (hb2.mono HB1.out.size))
    clear hb2
    go_wp2
    go_returns
    exact And.intro rfl ((DskNow.of_below H.out HB2.out).more (by omega))
  | true =>
    have HOK : Hid (PL.Plan.ok ds = true) := Lib.hid (by unfold canJ at hcan; rw [Bool.and_eq_true] at hcan; exact hcan.1)
    rw [hcan] at HCAN
    clear hcan
    by_cases h0 : N = 0
    · have HS : Hid (s.commit true (PL.Plan.text ds) D = (0, s)) := Lib.hid (by
        unfold Disk.S.commit
        rw [if_neg hdn, if_neg hk, if_neg (by decide), if_pos]
        rw [HD.out, List.length_eq_zero_iff.1 (show ds.length = 0 by rw [← HN.out]; exact h0)]
        rfl)
      rw [HS.out]
      subst h0
      clear hdn HS hk hk0
      go_enter Tryz.func9, Tryz.ntmps9
      go_wp2_with fail
      refine HDN.out.mono ?_
      rintro e w0 ⟨rfl, rfl⟩
      go_wp2_with fail
      refine HKA.out.mono ?_
      rintro e w1 ⟨rfl, hb1⟩
      have HB1 := Lib.hid hb1
      have HC1 := Lib.hid (HCAN.out w1 hb1)
      clear hb1
      go_wp2_with fail
      refine HC1.out.mono ?_
      rintro e w2 ⟨rfl, hb2⟩
      have HB2 := Lib.hid (HB1.out.trans (hb2.mono HB1.out.size))
      clear hb2
      go_wp2
      go_returns
      exact And.intro rfl ((DskNow.of_below H.out HB2.out).more (by omega))
    have HEQ0 : Hid (s.commit true (PL.Plan.text ds) D = Disk.S.bind (s.mkdir Disk.jA) fun s1 => Disk.S.bind (s1.write Disk.jN (PL.Plan.text ds)) fun s2 => Disk.S.bind (s2.rename Disk.jN Disk.jT) fun s3 => s3.endJ D) := Lib.hid (by
      unfold Disk.S.commit
      rw [if_neg hdn, if_neg hk, if_neg (by decide), if_neg]
      intro e
      rw [HD.out, List.map_eq_nil_iff] at e
      exact h0 (by rw [HN.out, e]; rfl))
    have hq0 : ((N : Int) == 0) = false := beq_eq_false_iff_ne.2 (by omega)
    have hPR : PL.printRes ds = .tuple #[.string (bs (PL.Plan.text ds)), .int .i64 0] := by unfold PL.printRes; rw [if_pos HOK.out]
    rw [hPR] at HPR
    clear hdn hk hk0 h0 hPR
    go_enter Tryz.func9, Tryz.ntmps9
    go_wp2_with fail
    refine HDN.out.mono ?_
    rintro e w0 ⟨rfl, rfl⟩
    go_wp2_with fail
    refine HKA.out.mono ?_
    rintro e w1 ⟨rfl, hb1⟩
    have HB1 := Lib.hid hb1
    have HC1 := Lib.hid (HCAN.out w1 hb1)
    clear hb1
    go_wp2_with fail
    refine HC1.out.mono ?_
    rintro e w2 ⟨rfl, hb2⟩
    have HB2 := Lib.hid (HB1.out.trans (hb2.mono HB1.out.size))
    have HPR2 := Lib.hid (HPR.out w2 HB2.out)
    clear hb2
    go_wp2_with fail
    refine HPR2.out.mono ?_
    rintro e y0 ⟨rfl, hb3⟩
    have HB3 := Lib.hid (HB2.out.trans (hb3.mono HB2.out.size))
    have HS0 : Hid (DskNow w y0 B O sd (n + 0) s) := Lib.hid (DskNow.of_below H.out HB3.out)
    clear hb3
    obtain ⟨⟨O0, hd0, hO0⟩, hk0⟩ := HS0.out
    have HK0 := Lib.hid hk0
    have HO0 := Lib.hid hO0
    have HC0 : Hid (Calls Tryz.prog 24 #[.pointer (some ⟨sd, 0, none⟩), .string ⟨#[47, 106, 111, 117, 114, 110, 97, 108]⟩] y0 (AskPost y0 B O0 sd (n + 0) (s.mkdir Disk.jA))) := Lib.hid (mkdir_any hd0 (HE.out _ hk0) (by omega) Disk.jA (by decide))
    obtain ⟨r, hr⟩ : ∃ r, r = s.mkdir Disk.jA := ⟨_, rfl⟩
    rw [← hr] at HC0
    have HR0 := Lib.hid hr
    obtain ⟨rc0, s1⟩ := r
    clear hr hd0 hO0 hk0
    go_wp2_with fail
    refine HC0.out.mono ?_
    rintro e y1 ⟨rfl, hn1⟩
    have HS1 := Lib.hid (DskNow.after HK0.out HO0.out hn1)
    clear hn1
    by_cases hc0 : rc0 ≠ 0
    · have HF : Hid (s.commit true (PL.Plan.text ds) D = (rc0, s1)) := Lib.hid (HEQ0.out.trans (by rw [← HR0.out]; exact bindN hc0))
      have hq : (rc0 != 0) = true := by rw [bne, beq_eq_false_iff_ne.2 hc0]; rfl
      clear hc0
      go_wp2
      go_returns
      rw [HF.out]
      exact And.intro rfl (HS1.out.more (show n + 0 + 1 ≤ n + N + 6 by omega))
    have hc0 : rc0 = 0 := Decidable.byContradiction fun h => hc0 h
    subst hc0

    have HEQ1 : Hid (s.commit true (PL.Plan.text ds) D = Disk.S.bind (s1.write Disk.jN (PL.Plan.text ds)) fun s2 => Disk.S.bind (s2.rename Disk.jN Disk.jT) fun s3 => s3.endJ D) := Lib.hid (HEQ0.out.trans (by rw [← HR0.out]; exact bind0))
    obtain ⟨⟨O1, hd1, hO1⟩, hk1⟩ := HS1.out
    have HK1 := Lib.hid hk1
    have HO1 := Lib.hid hO1
    have HC1 : Hid (Calls Tryz.prog 25 #[.pointer (some ⟨sd, 0, none⟩), .string ⟨#[47, 106, 111, 117, 114, 110, 97, 108, 47, 112, 108, 97, 110, 46, 110, 101, 119]⟩, .string (bs (PL.Plan.text ds))] y1 (AskPost y1 B O1 sd (n + 1) (s1.write Disk.jN (PL.Plan.text ds)))) := Lib.hid (write_any hd1 (HE.out _ hk1) (by omega) Disk.jN (PL.Plan.text ds) (by decide))
    obtain ⟨r, hr⟩ : ∃ r, r = s1.write Disk.jN (PL.Plan.text ds) := ⟨_, rfl⟩
    rw [← hr] at HC1
    have HR1 := Lib.hid hr
    obtain ⟨rc1, s2⟩ := r
    clear hr hd1 hO1 hk1
    go_wp2_with fail
    refine HC1.out.mono ?_
    rintro e y2 ⟨rfl, hn2⟩
    have HS2 := Lib.hid (DskNow.after HK1.out HO1.out hn2)
    clear hn2
    by_cases hc1 : rc1 ≠ 0
    · have HF : Hid (s.commit true (PL.Plan.text ds) D = (rc1, s2)) := Lib.hid (HEQ1.out.trans (by rw [← HR1.out]; exact bindN hc1))
      have hq : (rc1 != 0) = true := by rw [bne, beq_eq_false_iff_ne.2 hc1]; rfl
      clear hc1
      go_wp2
      go_returns
      rw [HF.out]
      exact And.intro rfl (HS2.out.more (show n + 1 + 1 ≤ n + N + 6 by omega))
    have hc1 : rc1 = 0 := Decidable.byContradiction fun h => hc1 h
    subst hc1

    have HEQ2 : Hid (s.commit true (PL.Plan.text ds) D = Disk.S.bind (s2.rename Disk.jN Disk.jT) fun s3 => s3.endJ D) := Lib.hid (HEQ1.out.trans (by rw [← HR1.out]; exact bind0))
    obtain ⟨⟨O2, hd2, hO2⟩, hk2⟩ := HS2.out
    have HK2 := Lib.hid hk2
    have HO2 := Lib.hid hO2
    have HC2 : Hid (Calls Tryz.prog 26 #[.pointer (some ⟨sd, 0, none⟩), .string ⟨#[47, 106, 111, 117, 114, 110, 97, 108, 47, 112, 108, 97, 110, 46, 110, 101, 119]⟩, .string ⟨#[47, 106, 111, 117, 114, 110, 97, 108, 47, 112, 108, 97, 110]⟩] y2 (AskPost y2 B O2 sd (n + 2) (s2.rename Disk.jN Disk.jT))) := Lib.hid (rename_any hd2 (HE.out _ hk2) hd2.size (by omega) Disk.jN Disk.jT (by decide) (by decide))
    obtain ⟨r, hr⟩ : ∃ r, r = s2.rename Disk.jN Disk.jT := ⟨_, rfl⟩
    rw [← hr] at HC2
    have HR2 := Lib.hid hr
    obtain ⟨rc2, s3⟩ := r
    clear hr hd2 hO2 hk2
    go_wp2_with fail
    refine HC2.out.mono ?_
    rintro e y3 ⟨rfl, hn3⟩
    have HS3 := Lib.hid (DskNow.after HK2.out HO2.out hn3)
    clear hn3
    by_cases hc2 : rc2 ≠ 0
    · have HF : Hid (s.commit true (PL.Plan.text ds) D = (rc2, s3)) := Lib.hid (HEQ2.out.trans (by rw [← HR2.out]; exact bindN hc2))
      have hq : (rc2 != 0) = true := by rw [bne, beq_eq_false_iff_ne.2 hc2]; rfl
      clear hc2
      go_wp2
      go_returns
      rw [HF.out]
      exact And.intro rfl (HS3.out.more (show n + 2 + 1 ≤ n + N + 6 by omega))
    have hc2 : rc2 = 0 := Decidable.byContradiction fun h => hc2 h
    subst hc2

    have HEQ3 : Hid (s.commit true (PL.Plan.text ds) D = s3.endJ D) := Lib.hid (HEQ2.out.trans (by rw [← HR2.out]; exact bind0))
    obtain ⟨⟨O3, hd3, hO3⟩, hk3⟩ := HS3.out
    have HK3 := Lib.hid hk3
    have HO3 := Lib.hid hO3
    have HEN := Lib.hid (end_any hd3 (HE.out _ hk3) HG.out (HH.out.keeps hk3 hO3) (show n + 3 + ds.length + 3 ≤ 1099511627776 by have := HN.out; omega) (fun d hd => by have := HSZ.out d hd; omega))
    rw [← HN.out, ← HD.out] at HEN
    clear hd3 hO3 hk3
    go_wp2_with fail
    refine HEN.out.mono ?_
    rintro e w9 ⟨rfl, hn9⟩
    have HS9 := Lib.hid ((DskNow.after HK3.out HO3.out hn9).more (show n + 3 + N + 3 ≤ n + N + 6 by omega))
    clear hn9
    go_wp2
    go_returns
    rw [HEQ3.out]
    exact And.intro rfl HS9.out
end Go.Proofs.YtdogacgpfnolfaaGreatDoor

namespace Go.Proofs.YtdogacgpfnolfaaGreatDoor
open Go.RowKit Go.Maps
set_option linter.unusedSimpArgs false
set_option linter.unusedVariables false
/-- What Parse tells, as the disk's deeds. -/
def parseJ (T : List UInt8) : Int × List Disk.Dd := ((PL.Plan.parse T).1, (PL.Plan.parse T).2.map toDd)
theorem kind_cases (l : Disk.M) (p : List UInt8) : Disk.kind l p = 0 ∨ Disk.kind l p = 1 ∨ Disk.kind l p = 2 := by
  unfold Disk.kind
  split
  · exact Or.inr (Or.inr rfl)
  · split
    · exact Or.inl rfl
    · split
      · exact Or.inr (Or.inr rfl)
      · exact Or.inr (Or.inl rfl)
def nameOk (l : Disk.M) (n : List UInt8) : Bool := (decide (n = Disk.nT) || decide (n = Disk.nN)) && decide (Disk.kind l (Disk.jA ++ [47] ++ n) = 1)
theorem namesOk_eq (l : Disk.M) : Disk.namesOk l = (Disk.names l Disk.jA).all (nameOk l) := rfl
theorem bs_addJ (b : List UInt8) (h : b.length ≤ 4398046511104) (w : World) : (Op.stringOp .add ⟨#[47, 106, 111, 117, 114, 110, 97, 108, 47]⟩ (bs b)).run Tryz.prog w = .ok (.string (bs (Disk.jA ++ [47] ++ b))) w := by
  have h1 := run_string_add_sum (P := Tryz.prog) w ⟨#[47, 106, 111, 117, 114, 110, 97, 108, 47]⟩ (bs b) (by rw [show (bs b).size = b.length from by show b.toArray.size = _; simp]; show 9 + b.length ≤ _; omega)
  rw [h1]
  refine congrArg (fun x => Result.ok (Value.string x) w) ?_
  show ByteArray.append _ _ = _
  apply ByteArray.ext
  show _ = (Disk.jA ++ [47] ++ b).toArray
  simp [bs, Disk.jA, ByteArray.append, ByteArray.data_append]
theorem names_len {l : Disk.M} (hok : ∀ x ∈ l, Disk.pathOk x.1 = true) {p x : List UInt8} (h : x ∈ Disk.names l p) : x.length ≤ 4096 := by
  unfold Disk.names at h
  obtain ⟨y, hy, rfl⟩ := List.mem_map.1 h
  have := Disk.pathOk_length (hok y (List.mem_filter.1 hy).1)
  unfold Disk.nm
  rw [List.length_drop]
  omega
theorem enc1_map (ns : List (List UInt8)) : ns.flatMap enc1 = ns.map sv := by
  induction ns with
  | nil => rfl
  | cons x r ih => rw [List.flatMap_cons, ih]; rfl
set_option maxHeartbeats 4000000 in
set_option maxRecDepth 100000 in
theorem recover_any {w : World} {B M : Nat} {O : Nat → Prop} {sd n : Nat} {s : Disk.S} (h : Dsk w B O sd n s) (hE : Env w) (hg : 0 < B) (hn : n + M + 3 ≤ 1099511627776) (hT : (Disk.readR s.l Disk.jT).1.length ≤ 3500000000000) (hM : (PL.Plan.parse (Disk.readR s.l Disk.jT).1).2.length ≤ M) :
    Calls Tryz.prog 13 #[.pointer (some ⟨sd, 0, none⟩)] w (JPost w B O sd (n + M + 3) (s.recover parseJ)) := by
  have H := Lib.hid h
  have hlen := h.len
  have HOKP : Hid (∀ x ∈ s.l, Disk.pathOk x.1 = true) := Lib.hid (by obtain ⟨bm, m, rv, hm, h1⟩ := h; exact hm.2.2.2)
  have HLIM := Lib.hid (fun k hk => (H.out.lim k hk).1)
  have HE := Lib.hid (fun (V : World) (hv : Keeps O w V) => env_keeps hE hv HLIM.out hg)
  have HG := Lib.hid hg
  have HT := Lib.hid hT
  have HM := Lib.hid hM
  have HDN := Lib.hid (Dsk.down h)
  have HKA : Hid (∀ V, Below w.heap.size w V → Calls Tryz.prog 11 #[.pointer (some ⟨sd, 0, none⟩), .string ⟨#[47, 106, 111, 117, 114, 110, 97, 108]⟩] V fun e w' => e = .returned (.int .i64 (Disk.kind s.l Disk.jA)) ∧ Below V.heap.size V w') := Lib.hid (fun V hV => Dsk.kind (H.out.below hV) Disk.jA (by decide))
  have HKT : Hid (∀ V, Below w.heap.size w V → Calls Tryz.prog 11 #[.pointer (some ⟨sd, 0, none⟩), .string ⟨#[47, 106, 111, 117, 114, 110, 97, 108, 47, 112, 108, 97, 110]⟩] V fun e w' => e = .returned (.int .i64 (Disk.kind s.l Disk.jT)) ∧ Below V.heap.size V w') := Lib.hid (fun V hV => Dsk.kind (H.out.below hV) Disk.jT (by decide))
  clear h hE hg hT hM
  by_cases hdn : s.left = 0
  · have HS : Hid (s.recover parseJ = (15, s)) := Lib.hid (by unfold Disk.S.recover; rw [if_pos hdn])
    rw [HS.out]
    rw [decide_eq_true hdn] at HDN
    clear hdn HS
    go_enter Tryz.func13, Tryz.ntmps13
    go_wp2_with fail
    refine HDN.out.mono ?_
    rintro e w0 ⟨rfl, rfl⟩
    go_wp2
    go_returns
    exact And.intro rfl ((DskNow.of_below H.out (Below.refl _ _)).more (by omega))
  rw [decide_eq_false hdn] at HDN
  rcases kind_cases s.l Disk.jA with hk | hk | hk
  · have HS : Hid (s.recover parseJ = (0, s)) := Lib.hid (by unfold Disk.S.recover; rw [if_neg hdn, if_pos hk])
    rw [HS.out]
    rw [hk] at HKA
    clear hdn HS hk
    go_enter Tryz.func13, Tryz.ntmps13
    go_wp2_with fail
    refine HDN.out.mono ?_
    rintro e w0 ⟨rfl, rfl⟩
    go_wp2_with fail
    refine (HKA.out w (Below.refl _ _)).mono ?_
    rintro e w1 ⟨rfl, hb1⟩
    have HB1 := Lib.hid hb1
    clear hb1
    go_wp2
    go_returns
    exact And.intro rfl ((DskNow.of_below H.out HB1.out).more (by omega))
  · have HS : Hid (s.recover parseJ = (44, s)) := Lib.hid (by unfold Disk.S.recover; rw [if_neg hdn, if_neg (by rw [hk]; decide), if_pos hk])
    rw [HS.out]
    rw [hk] at HKA
    clear hdn HS hk
    go_enter Tryz.func13, Tryz.ntmps13
    go_wp2_with fail
    refine HDN.out.mono ?_
    rintro e w0 ⟨rfl, rfl⟩
    go_wp2_with fail
    refine (HKA.out w (Below.refl _ _)).mono ?_
    rintro e w1 ⟨rfl, hb1⟩
    have HB1 := Lib.hid hb1
    clear hb1
    go_wp2_with fail
    refine (HKA.out w1 HB1.out).mono ?_
    rintro e w2 ⟨rfl, hb2⟩
    have HB2 := Lib.hid (HB1.out.trans (hb2.mono HB1.out.size))
    clear hb2
    go_wp2
    go_returns
    exact And.intro rfl ((DskNow.of_below H.out HB2.out).more (by omega))
  have HEQ : Hid (s.recover parseJ = if !Disk.namesOk s.l then (44, s) else if Disk.kind s.l Disk.jT = 0 then s.gone else if (parseJ (Disk.readR s.l Disk.jT).1).1 ≠ 0 then (44, s) else s.endJ (parseJ (Disk.readR s.l Disk.jT).1).2) := Lib.hid (by
    unfold Disk.S.recover
    rw [if_neg hdn, if_neg (by rw [hk]; decide), if_neg (by rw [hk]; decide)])
  have HLR : Hid (Disk.listR s.l Disk.jA = (Disk.names s.l Disk.jA, 0)) := Lib.hid (by unfold Disk.listR; rw [if_neg (by rintro ⟨_, e⟩; exact absurd e (by decide)), if_neg (by rw [hk]; decide), if_neg (by rw [hk]; decide)])
  rw [hk] at HKA
  clear hdn hk
  obtain ⟨ns, hns⟩ : ∃ ns, ns = Disk.names s.l Disk.jA := ⟨_, rfl⟩
  obtain ⟨K, hK⟩ : ∃ K, K = ns.length := ⟨_, rfl⟩
  have HNS := Lib.hid hns
  have HKL := Lib.hid hK
  have HNL : Hid (∀ x ∈ ns, x.length ≤ 4096) := Lib.hid (fun x hx => names_len HOKP.out (by rw [← hns]; exact hx))
  have hKb : K ≤ 1099511627776 := by
    have e : K ≤ s.l.length := by rw [hK, hns]; unfold Disk.names; rw [List.length_map]; exact List.length_filter_le _ _
    omega
  clear hns hK
  have HLS : Hid (∀ V, Below w.heap.size w V → Calls Tryz.prog 28 #[.pointer (some ⟨sd, 0, none⟩), .string ⟨#[47, 106, 111, 117, 114, 110, 97, 108]⟩] V (ListPost s.l Disk.jA V)) := Lib.hid (fun V hV => Dsk.list (H.out.below hV) (HE.out _ (Keeps.of_below hV)) (by omega) Disk.jA (by decide))
  go_enter Tryz.func13, Tryz.ntmps13
  go_wp2_with fail
  refine HDN.out.mono ?_
  rintro e w0 ⟨rfl, rfl⟩
  go_wp2_with fail
  refine (HKA.out w (Below.refl _ _)).mono ?_
  rintro e w1 ⟨rfl, hb1⟩
  have HB1 := Lib.hid hb1
  clear hb1
  go_wp2_with fail
  refine (HKA.out w1 HB1.out).mono ?_
  rintro e w2 ⟨rfl, hb2⟩
  have HB2 := Lib.hid (HB1.out.trans (hb2.mono HB1.out.size))
  clear hb2
  have HLS2 := Lib.hid (HLS.out w2 HB2.out)
  go_wp2_with fail
  refine HLS2.out.mono ?_
  rintro e w3 ⟨v3, rfl, hr3, hb3⟩
  rw [HLR.out] at hr3 ⊢
  dsimp only at hr3 ⊢
  rw [← HNS.out] at hr3
  have HB3 := Lib.hid (HB2.out.trans (hb3.mono HB2.out.size))
  have hz3 := HB3.out.size
  have HROW : Hid (Row w3 w3.heap.size v3 (ns.map sv)) := Lib.hid (by
    have := hr3
    unfold SRow at this
    rw [enc1_map] at this
    have hh := Row.of_own this
    exact hh)
  obtain ⟨a3, c3, rfl⟩ := own_form hr3
  rw [← HKL.out] at HROW ⊢
  clear hr3 hb3
  go_wp2
  go_loopw [32] (fun q wr => ∃ i : Nat, q = .int .i64 i ∧ i ≤ K ∧ (∀ x ∈ ns.take i, nameOk s.l x = true) ∧ Below w3.heap.size w3 wr) (fun q _ => K - (intOf q).toNat)
  case atStart => exact ⟨0, rfl, by omega, fun x hx => by simp at hx, Below.refl _ _⟩
  case round =>
    obtain ⟨i, rfl, hi, hall, hbr⟩ := hrel
    obtain ⟨wo, rfl⟩ : ∃ x, x = wr := ⟨wr, rfl⟩
    have HALL := Lib.hid hall
    have HBR := Lib.hid (HB3.out.trans (hbr.mono hz3))
    have HBR3 := Lib.hid hbr
    clear hall hbr
    by_cases hiK : i < K
    · obtain ⟨x, hx⟩ : ∃ x, ns[i]? = some x := ⟨_, List.getElem?_eq_getElem (by have := HKL.out; omega)⟩
      obtain ⟨bk, o, cap, hve, hcap, hbk, hbc⟩ := HROW.out.at (by rw [List.length_map, ← HKL.out]; omega)
      rw [List.length_map, ← HKL.out] at hve
      cases hve
      have h1 := hbc i (sv x) (by rw [List.getElem?_map, hx]; rfl)
      have e1 := (HBR3.out.cell (p := ⟨bk, o + i, none⟩) hbk).trans h1
      have hiI : (i : Int) < (K : Int) := by omega
      have HX := Lib.hid hx
      have hxl := HNL.out x (List.mem_of_getElem? hx)
      have HMEM : Hid (x ∈ ns) := Lib.hid (List.mem_of_getElem? hx)
      unfold sv at e1
      clear hbc h1 hx hcap
      have hs1 := str_eq_lit (bs x) [112, 108, 97, 110]
      have hs2 := str_eq_lit (bs x) [112, 108, 97, 110, 46, 110, 101, 119]
      rw [bs_list] at hs1 hs2
      have HADD := bs_addJ x (by omega)
      have HKX : Hid (∀ V, Below wo.heap.size wo V → Calls Tryz.prog 11 #[.pointer (some ⟨sd, 0, none⟩), .string (bs (Disk.jA ++ [47] ++ x))] V fun e w' => e = .returned (.int .i64 (Disk.kind s.l (Disk.jA ++ [47] ++ x))) ∧ Below V.heap.size V w') := Lib.hid (fun V hV => Dsk.kind (H.out.below (HBR.out.trans (hV.mono HBR.out.size))) _ (by
        rw [List.length_append]
        have : (Disk.jA ++ [47]).length = 9 := rfl
        omega))
      obtain ⟨jx, hjx⟩ : ∃ jx, jx = Disk.jA ++ [47] ++ x := ⟨_, rfl⟩
      have HJX := Lib.hid hjx
      rw [← hjx] at HADD HKX
      obtain ⟨kk, hkk⟩ : ∃ kk, kk = Disk.kind s.l jx := ⟨_, rfl⟩
      have HKK := Lib.hid hkk
      rw [← hkk] at HKX
      clear hjx hkk
      have HNO : Hid (nameOk s.l x = false → s.recover parseJ = (44, s)) := Lib.hid (fun hno => by
        rw [HEQ.out, if_pos]
        rw [namesOk_eq, ← HNS.out]
        have : ns.all (nameOk s.l) = false := by
          rw [Bool.eq_false_iff]
          intro hh
          have := List.all_eq_true.1 hh x HMEM.out
          rw [hno] at this
          exact absurd this (by simp)
        rw [this]; rfl)
      have hcase : (x = Disk.nT ∨ x = Disk.nN) ∨ (x ≠ Disk.nT ∧ x ≠ Disk.nN) := by
        by_cases hh1 : x = Disk.nT
        · exact Or.inl (Or.inl hh1)
        · by_cases hh2 : x = Disk.nN
          · exact Or.inl (Or.inr hh2)
          · exact Or.inr ⟨hh1, hh2⟩
      rcases hcase with hxn | ⟨hx1, hx2⟩
      · have hb : (((bs x).toList == [112, 108, 97, 110]) = true ∧ ((bs x).toList != [112, 108, 97, 110]) = false) ∨ (((bs x).toList == [112, 108, 97, 110]) = false ∧ ((bs x).toList != [112, 108, 97, 110]) = true ∧ ((bs x).toList == [112, 108, 97, 110, 46, 110, 101, 119]) = true ∧ ((bs x).toList != [112, 108, 97, 110, 46, 110, 101, 119]) = false) := by
          rcases hxn with hxn | hxn
          · have : ((bs x).toList == [112, 108, 97, 110]) = true := by rw [hs1]; exact decide_eq_true hxn
            exact Or.inl ⟨this, by rw [bne, this]; rfl⟩
          · have e1 : ((bs x).toList == [112, 108, 97, 110]) = false := by rw [hs1]; exact decide_eq_false (by rw [hxn]; decide)
            have e2 : ((bs x).toList == [112, 108, 97, 110, 46, 110, 101, 119]) = true := by rw [hs2]; exact decide_eq_true hxn
            exact Or.inr ⟨e1, by rw [bne, e1]; rfl, e2, by rw [bne, e2]; rfl⟩
        have HNM : Hid (nameOk s.l x = decide (kk = 1)) := Lib.hid (by
          unfold nameOk
          rw [← HJX.out, ← HKK.out]
          rcases hxn with h | h
          · rw [decide_eq_true h]; rfl
          · rw [decide_eq_true (p := x = Disk.nN) h, Bool.or_true]; rfl)
        clear hxn hs1 hs2
        rcases hb with ⟨b1, b2⟩ | ⟨b1, b2, b3, b4⟩
        all_goals
          by_cases hkk1 : kk = 1
          · have hq : (kk != 1) = false := by rw [hkk1]; rfl
            have HNX : Hid (∀ y ∈ ns.take (i + 1), nameOk s.l y = true) := Lib.hid (fun y hy => by
              rw [List.take_add_one, HX.out] at hy
              rcases List.mem_append.1 hy with hy | hy
              · exact HALL.out y hy
              · have e : y = x := by simpa using hy
                rw [e, HNM.out]; exact decide_eq_true hkk1)
            have HKX1 := Lib.hid (HKX.out wo (Below.refl _ _))
            clear hkk1
            go_wp2_with fail
            refine HKX1.out.mono ?_
            rintro e w5 ⟨rfl, hb5⟩
            have HB5 := Lib.hid (HBR3.out.trans (hb5.mono HBR3.out.size))
            clear hb5
            go_wp2
            go_roundw
            case rel => exact ⟨i + 1, by go_num, by omega, HNX.out, HB5.out⟩
            case measure => simp [intOf]; omega
          · have hq : (kk != 1) = true := by rw [bne, beq_eq_false_iff_ne.2 hkk1]; rfl
            have hno : nameOk s.l x = false := HNM.out.trans (decide_eq_false hkk1)
            have HF : Hid (s.recover parseJ = (44, s)) := Lib.hid (HNO.out hno)
            clear hno
            have HKX1 := Lib.hid (HKX.out wo (Below.refl _ _))
            clear hkk1
            go_wp2_with fail
            refine HKX1.out.mono ?_
            rintro e w5 ⟨rfl, hb5⟩
            have HB5 := Lib.hid (HBR.out.trans (hb5.mono HBR.out.size))
            clear hb5
            go_wp2
            go_returns
            rw [HF.out]
            exact And.intro rfl ((DskNow.of_below H.out HB5.out).more (by omega))
      · have b1 : ((bs x).toList == [112, 108, 97, 110]) = false := by rw [hs1]; exact decide_eq_false hx1
        have b2 : ((bs x).toList == [112, 108, 97, 110, 46, 110, 101, 119]) = false := by rw [hs2]; exact decide_eq_false hx2
        have b3 : ((bs x).toList != [112, 108, 97, 110]) = true := by rw [bne, b1]; rfl
        have b4 : ((bs x).toList != [112, 108, 97, 110, 46, 110, 101, 119]) = true := by rw [bne, b2]; rfl
        have hno : nameOk s.l x = false := by unfold nameOk; rw [decide_eq_false hx1, decide_eq_false hx2]; rfl
        have HF : Hid (s.recover parseJ = (44, s)) := Lib.hid (HNO.out hno)
        clear hno
        clear hx1 hx2 hs1 hs2
        go_wp2
        go_returns
        rw [HF.out]
        exact And.intro rfl ((DskNow.of_below H.out HBR.out).more (by omega))
    · have hiI : ¬ (i : Int) < (K : Int) := by omega
      have HNA : Hid (Disk.namesOk s.l = true) := Lib.hid (by
        rw [namesOk_eq, ← HNS.out, List.all_eq_true]
        intro x hx
        exact HALL.out x (by rw [List.take_of_length_le (by rw [← HKL.out]; omega)]; exact hx))
      have HKT1 := Lib.hid (HKT.out wo HBR.out)
      by_cases hkt : Disk.kind s.l Disk.jT = 0
      · have HF : Hid (s.recover parseJ = s.gone) := Lib.hid (by rw [HEQ.out, HNA.out, if_neg (by decide), if_pos hkt])
        rw [hkt] at HKT1
        clear hkt
        go_wp2_with fail
        refine HKT1.out.mono ?_
        rintro e w5 ⟨rfl, hb5⟩
        have HB5 := Lib.hid (HBR.out.trans (hb5.mono HBR.out.size))
        have HGN := Lib.hid (gone_any (H.out.below HB5.out) (HE.out _ (Keeps.of_below HB5.out)) (by omega) HG.out)
        clear hb5
        go_wp2_with fail
        refine HGN.out.mono ?_
        rintro e w6 ⟨rfl, hn6⟩
        have HS6 := Lib.hid ((DskNow.ahead (Keeps.of_below HB5.out) hn6).more (show n + 2 ≤ n + M + 3 by omega))
        clear hn6
        go_wp2
        go_returns
        rw [HF.out]
        exact And.intro rfl HS6.out
      · have hq : (Disk.kind s.l Disk.jT == 0) = false := beq_eq_false_iff_ne.2 hkt
        have HEQ2 : Hid (s.recover parseJ = if (parseJ (Disk.readR s.l Disk.jT).1).1 ≠ 0 then (44, s) else s.endJ (parseJ (Disk.readR s.l Disk.jT).1).2) := Lib.hid (by rw [HEQ.out, HNA.out, if_neg (by decide), if_neg hkt])
        obtain ⟨kk, hkk⟩ : ∃ kk, kk = Disk.kind s.l Disk.jT := ⟨_, rfl⟩
        rw [← hkk] at HKT1 hq
        clear hkt hkk
        have HRD : Hid (∀ V, Below w.heap.size w V → Calls Tryz.prog 20 #[.pointer (some ⟨sd, 0, none⟩), .string ⟨#[47, 106, 111, 117, 114, 110, 97, 108, 47, 112, 108, 97, 110]⟩] V fun e w' => e = .returned (.tuple #[.string (bs (Disk.readR s.l Disk.jT).1), .int .i64 (Disk.readR s.l Disk.jT).2]) ∧ Below V.heap.size V w') := Lib.hid (fun V hV => Dsk.read (H.out.below hV) (HE.out _ (Keeps.of_below hV)) Disk.jT (by decide))
        obtain ⟨rd, hrd⟩ : ∃ rd, rd = Disk.readR s.l Disk.jT := ⟨_, rfl⟩
        rw [← hrd] at HRD HEQ2 HT HM
        clear hrd
        obtain ⟨T, er⟩ := rd
        dsimp only at HRD HEQ2 HT HM
        have HPA := Lib.hid (fun V => PL.parse_any (bs T) (by show T.toArray.size ≤ _; simp; exact HT.out) V)
        rw [bs_list] at HPA
        go_wp2_with fail
        refine HKT1.out.mono ?_
        rintro e w5 ⟨rfl, hb5⟩
        have HB5 := Lib.hid (HBR.out.trans (hb5.mono HBR.out.size))
        have HRD5 := Lib.hid (HRD.out w5 HB5.out)
        clear hb5
        go_wp2_with fail
        refine HRD5.out.mono ?_
        rintro e w6 ⟨rfl, hb6⟩
        have HB6 := Lib.hid (HB5.out.trans (hb6.mono HB5.out.size))
        have HPA6 := Lib.hid (HPA.out w6)
        clear hb6
        go_wp2_with fail
        refine HPA6.out.mono ?_
        rintro e w7 ⟨v7, rfl, hd7, hb7, hf7⟩
        have HB7 := Lib.hid (HB6.out.trans (hb7.mono HB6.out.size))
        have HEQ3 : Hid (s.recover parseJ = if (PL.Plan.parse T).1 ≠ 0 then (44, s) else s.endJ ((PL.Plan.parse T).2.map toDd)) := HEQ2
        have HOKA : Hid ((PL.Plan.parse T).1 = 0 → ∀ d ∈ (PL.Plan.parse T).2, d.path.length ≤ 4398046511104) := Lib.hid (fun e d hd => by
          have h1 := PL.Plan.text_parse (T := T) (ds := (PL.Plan.parse T).2) (by rw [← e])
          have h2 := (PL.Plan.ok_all h1.2 d hd).2.2.2.1
          rw [pathOk_eq] at h2
          have := Disk.pathOk_length h2
          omega)
        obtain ⟨pr, hpr⟩ : ∃ pr, pr = PL.Plan.parse T := ⟨_, rfl⟩
        rw [← hpr] at hd7 HEQ3 HM HOKA ⊢
        obtain ⟨pc, pds⟩ := pr
        dsimp only at hd7 HEQ3 HM HOKA ⊢
        have HOFF : Hid (DeedsOff w7 O v7 pds) := Lib.hid (by
          obtain ⟨a, cap, hv, hc⟩ := hd7.is
          refine ⟨a, cap, hv, fun i d hd => ?_⟩
          obtain ⟨bk, o, ha, hbk, hcs⟩ := hc i d hd
          have hfr := hf7 bk (by rw [hv, ha]; rfl)
          exact ⟨bk, o, ha, ⟨hbk, fun hO => by have := (H.out.lim bk hO).2; have := HB6.out.size; omega⟩, hcs⟩)
        clear hpr hd7 hb7 hf7 HEQ2 HPA HPA6
        by_cases hpc : pc = 0
        · subst hpc
          have HF : Hid (s.recover parseJ = s.endJ (pds.map toDd)) := Lib.hid (by rw [HEQ3.out, if_neg (show ¬ (0 : Int) ≠ 0 by decide)])
          have HEN := Lib.hid (end_any (H.out.below HB7.out) (HE.out _ (Keeps.of_below HB7.out)) HG.out HOFF.out (by have := HM.out; omega) (HOKA.out rfl))
          go_wp2_with fail
          refine HEN.out.mono ?_
          rintro e w9 ⟨rfl, hn9⟩
          have HS9 := Lib.hid ((DskNow.ahead (Keeps.of_below HB7.out) hn9).more (show n + pds.length + 3 ≤ n + M + 3 by have := HM.out; omega))
          clear hn9
          go_wp2
          go_returns
          rw [HF.out]
          exact And.intro rfl HS9.out
        · have hq2 : (pc != 0) = true := by rw [bne, beq_eq_false_iff_ne.2 hpc]; rfl
          have HF : Hid (s.recover parseJ = (44, s)) := Lib.hid (by rw [HEQ3.out, if_pos hpc])
          clear hpc
          go_wp2
          go_returns
          rw [HF.out]
          exact And.intro rfl ((DskNow.of_below H.out HB7.out).more (by omega))
end Go.Proofs.YtdogacgpfnolfaaGreatDoor

namespace Go.Proofs.YtdogacgpfnolfaaGreatDoor
open Go.RowKit Go.Maps
set_option linter.unusedSimpArgs false
set_option linter.unusedVariables false
namespace PL.Plan
theorem parse_code (T : List UInt8) : (parse T).1 = 0 ∨ ((parse T).1 ≠ 0 ∧ (parse T).2 = []) := by
  unfold parse
  split
  · exact Or.inr ⟨by simp, rfl⟩
  · exact Or.inr ⟨by simp, rfl⟩
  · split
    · split
      · split
        · exact Or.inl rfl
        · exact Or.inr ⟨by simp, rfl⟩
      · exact Or.inr ⟨by simp, rfl⟩
    · exact Or.inr ⟨by simp, rfl⟩
end PL.Plan
/-- The slice v has the files fs, in a block that is none of O. -/
def FilesAt (w : World) (O : Nat → Prop) (v : Value) (fs : List Disk.Fl) : Prop := ∃ a cap, v = .slice a fs.length cap ∧ ∀ (i : Nat) d, fs[i]? = some d → ∃ bk o, a = some ⟨bk, o, none⟩ ∧ (bk < w.heap.size ∧ ¬ O bk) ∧
    w.cell? ⟨bk, o + i * 3, none⟩ = some (.string (bs d.path)) ∧ w.cell? ⟨bk, o + i * 3 + 1, none⟩ = some (.bool d.dir) ∧ w.cell? ⟨bk, o + i * 3 + 2, none⟩ = some (.string (bs d.data))
theorem FilesAt.files {w : World} {O : Nat → Prop} {v : Value} {fs : List Disk.Fl} (h : FilesAt w O v fs) : Files w w.heap.size v fs := by
  obtain ⟨a, cap, hv, hc⟩ := h
  refine ⟨a, cap, hv, fun i d hd => ?_⟩
  obtain ⟨bk, o, h1, h2, h3⟩ := hc i d hd
  exact ⟨bk, o, h1, h2.1, h3⟩
theorem FilesAt.keeps {w w' : World} {O O1 : Nat → Prop} {v : Value} {fs : List Disk.Fl} (h : FilesAt w O v fs) (hk : Keeps O w w') (hO : ∀ k, O1 k → O k ∨ w.heap.size ≤ k) : FilesAt w' O1 v fs := by
  obtain ⟨a, cap, hv, hc⟩ := h
  refine ⟨a, cap, hv, fun i d hd => ?_⟩
  obtain ⟨bk, o, h1, ⟨h2, h3⟩, c1, c2, c3⟩ := hc i d hd
  have hs := hk.block bk h2 h3
  exact ⟨bk, o, h1, ⟨Nat.lt_of_lt_of_le h2 hk.size, fun hh => by
    rcases hO bk hh with h | h
    · exact h3 h
    · omega⟩, (World.cell?_of_block hs).trans c1, (World.cell?_of_block hs).trans c2, (World.cell?_of_block hs).trans c3⟩
theorem FilesAt.of_row {w : World} {base : Nat} {v : Value} {O : Nat → Prop} {fs : List Disk.Fl} (h : FRow w base v fs) (hO : ∀ k, O k → k < base) : FilesAt w O v fs := by
  have hlt := World.ownsRow.lt h
  obtain ⟨a, cap, hv, hc⟩ := h.files.is
  refine ⟨a, cap, hv, fun i d hd => ?_⟩
  obtain ⟨bk, o, ha, hbk, hcs⟩ := hc i d hd
  have h1 := (hlt bk (by rw [hv, ha]; rfl)).1
  exact ⟨bk, o, ha, ⟨hbk, fun hh => by have := hO _ hh; omega⟩, hcs⟩
/-- The document's disk has the files fs, away from O. -/
def FilesOff (w : World) (O : Nat → Prop) (rd : Nat) (fs : List Disk.Fl) : Prop := ∃ lv, (rd < w.heap.size ∧ ¬ O rd) ∧ w.cell? ⟨rd, 0, none⟩ = some lv ∧ FilesAt w O lv fs
theorem FilesOff.keeps {w w' : World} {O O1 : Nat → Prop} {rd : Nat} {fs : List Disk.Fl} (h : FilesOff w O rd fs) (hk : Keeps O w w') (hO : ∀ k, O1 k → O k ∨ w.heap.size ≤ k) : FilesOff w' O1 rd fs := by
  obtain ⟨lv, ⟨h1, h2⟩, h3, h4⟩ := h
  exact ⟨lv, ⟨Nat.lt_of_lt_of_le h1 hk.size, fun hh => by
    rcases hO rd hh with h | h
    · exact h2 h
    · omega⟩, (World.cell?_of_block (hk.block rd h1 h2)).trans h3, h4.keeps hk hO⟩
theorem FilesOff.of_ref {w : World} {base rd : Nat} {l : Disk.M} {lv rv : Value} {left : Int} {O : Nat → Prop} (h : RefIn w base rd l lv rv left) (hO : ∀ k, O k → k < base) : FilesOff w O rd (fls l) :=
  ⟨lv, ⟨h.rdl, fun hh => by have := hO _ hh; have := h.rdb; omega⟩, h.c0, FilesAt.of_row h.row hO⟩
theorem DskNow.then_below {w w1 w2 : World} {B : Nat} {O : Nat → Prop} {sd n : Nat} {s : Disk.S} (h : DskNow w w1 B O sd n s) (hb : Below w1.heap.size w1 w2) : DskNow w w2 B O sd n s := by
  obtain ⟨⟨O1, h1, h2⟩, h3⟩ := h
  exact ⟨⟨O1, h1.below hb, h2⟩, h3.then_below hb⟩
def DisksPost (fs : List Disk.Fl) (w : World) (e : Ending) (w' : World) : Prop := (match Disk.load fs with
  | none => e = .returned (.tuple #[.pointer none, .pointer none, .bool false])
  | some l => ∃ sd rd O, e = .returned (.tuple #[.pointer (some ⟨sd, 0, none⟩), .pointer (some ⟨rd, 0, none⟩), .bool true]) ∧ Dsk w' w.heap.size O sd 1048576 (loadS l) ∧ FilesOff w' O rd (fls l)) ∧ Below w.heap.size w w'
set_option maxHeartbeats 2000000 in
set_option maxRecDepth 100000 in
theorem disks_any {w : World} {B : Nat} {v : Value} {fs : List Disk.Fl} (h : Files w B v fs) (hB : B ≤ w.heap.size) (hE : Env w) (hn : fs.length ≤ 1048576) (hsz : ∀ f ∈ fs, f.path.length ≤ 1048576 ∧ f.data.length ≤ 1048576) :
    Calls Tryz.prog 6 #[v] w (DisksPost fs w) := by
  obtain ⟨a1, c1, rfl⟩ := h.form
  have HLD := Lib.hid (load_any h hB hE (by omega) (fun f hf => by have := hsz f hf; omega))
  have HRL := Lib.hid (fun (V : World) (hV : Below w.heap.size w V) => rload_any (h.below hV hB) (Nat.le_trans hB hV.size) (by omega) (fun f hf => by have := hsz f hf; omega))
  have HN := Lib.hid hn
  unfold LoadPost at HLD
  unfold RLoadPost at HRL
  unfold DisksPost
  obtain ⟨N, hN⟩ : ∃ N, N = fs.length := ⟨_, rfl⟩
  rw [← hN] at HLD HRL HN ⊢
  cases hl : Disk.load fs with
  | none =>
    rw [hl] at HLD HRL
    clear h hE hn hsz hN hl
    go_enter Tryz.func6, Tryz.ntmps6
    go_wp2_with fail
    refine HLD.out.mono ?_
    rintro e w1 ⟨rfl, hb1⟩
    have HB1 := Lib.hid hb1
    have HR1 := Lib.hid (HRL.out w1 hb1)
    clear hb1
    go_wp2_with fail
    refine HR1.out.mono ?_
    rintro e w2 ⟨rfl, hb2⟩
    have HB2 := Lib.hid (HB1.out.trans (hb2.mono HB1.out.size))
    clear hb2
    go_wp2
    go_returns
    exact ⟨rfl, HB2.out⟩
  | some l =>
    rw [hl] at HLD HRL
    have HOK := Lib.hid (load_ok hl)
    clear h hE hn hsz hN hl
    go_enter Tryz.func6, Tryz.ntmps6
    go_wp2_with fail
    refine HLD.out.mono ?_
    rintro e w1 ⟨⟨sd, bm, n, rfl, hd1, hn1⟩, hb1⟩
    have HB1 := Lib.hid hb1
    have HD1 := Lib.hid (Dsk.loaded (N := 1048576) hd1 (Nat.le_refl _) (by have := HN.out; omega) HOK.out.1)
    have HLT : Hid (∀ k, (k = sd ∨ k = bm) → k < w1.heap.size) := Lib.hid (fun k hk => (HD1.out.1.lim k hk).2)
    have HR1 := Lib.hid (HRL.out w1 hb1)
    clear hb1 hd1 hn1
    go_wp2_with fail
    refine HR1.out.mono ?_
    rintro e w2 ⟨⟨rd, lv, rfl, hr2, hn2⟩, hb2⟩
    have HB2 := Lib.hid (HB1.out.trans (hb2.mono HB1.out.size))
    have HD2 := Lib.hid (HD1.out.1.below hb2)
    have HF2 := Lib.hid (FilesOff.of_ref (O := fun k => k = sd ∨ k = bm) hr2 HLT.out)
    clear hb2 hr2 hn2
    go_wp2
    go_returns
    exact ⟨⟨sd, rd, _, rfl, HD2.out, HF2.out⟩, HB2.out⟩
set_option maxRecDepth 100000 in
theorem commit_nil (w : World) : Calls Tryz.prog 9 #[.pointer none, .slice none 0 0] w fun e w' => e = .returned (.int .i64 1) ∧ w = w' := by
  go_enter Tryz.func9, Tryz.ntmps9
  go_wp2
  go_returns
  exact ⟨rfl, rfl⟩
set_option maxRecDepth 100000 in
theorem recover_nil (w : World) : Calls Tryz.prog 13 #[.pointer none] w fun e w' => e = .returned (.int .i64 1) ∧ w = w' := by
  go_enter Tryz.func13, Tryz.ntmps13
  go_wp2
  go_returns
  exact ⟨rfl, rfl⟩
def liveD : List PL.Plan.D := [⟨4, [47, 97], [120]⟩]
def liveS : Disk.S := ⟨[([47, 97], ⟨false, [120]⟩)], [⟨1, Disk.jA, []⟩, ⟨2, Disk.jN, []⟩, ⟨3, Disk.jN, Disk.jT⟩, ⟨2, [47, 97], []⟩, ⟨4, Disk.jT, []⟩, ⟨4, Disk.jA, []⟩], -1⟩
theorem live_commit : (loadS []).commit (canJ (loadS []).l liveD) (PL.Plan.text liveD) (liveD.map toDd) = (0, liveS) := by decide +kernel
theorem live_read : Disk.readR liveS.l [47, 97] = ([120], 0) := by decide +kernel
theorem live_recover : liveS.recover parseJ = (0, liveS) := Disk.recover_none (by decide) (by decide)
theorem live_T : Disk.readR liveS.l Disk.jT = ([], 12) := by decide +kernel
theorem parse_len (T : List UInt8) : (PL.Plan.parse T).2.length ≤ T.length := by
  rcases PL.Plan.parse_code T with h | ⟨_, h⟩
  · have h1 := PL.Plan.text_parse (T := T) (ds := (PL.Plan.parse T).2) (by rw [← h])
    have h2 := (PL.Plan.text_sizes h1.2).1
    rw [h1.1] at h2
    exact h2
  · rw [h]; exact Nat.zero_le _
theorem gMax_lt {w : World} (hE : Env w) : 0 < w.heap.size := by
  obtain ⟨m, hm⟩ := hE
  exact size_of_cell hm
set_option maxHeartbeats 4000000 in
set_option maxRecDepth 100000 in
theorem lives18_any (w : World) (hE : Env w) : Calls Tryz.prog 7 #[] w fun e w' => e = .returned (.bool true) ∧ Below w.heap.size w w' := by
  have HDS := Lib.hid (disks_any (Files.nil w w.heap.size) (Nat.le_refl _) hE (Nat.zero_le _) (fun f hf => by simp at hf))
  have HE := Lib.hid hE
  have HG := Lib.hid (gMax_lt hE)
  unfold DisksPost at HDS
  rw [show Disk.load [] = some [] from rfl] at HDS
  clear hE
  go_enter Tryz.func7, Tryz.ntmps7
  go_wp2_with fail
  refine HDS.out.mono ?_
  rintro e w1 ⟨⟨sd, rd, O, rfl, hd1, _⟩, hb1⟩
  have HB1 := Lib.hid hb1
  have HD1 := Lib.hid hd1
  have HLIM := Lib.hid (fun k hk => HD1.out.lim k hk)
  have HE1 := Lib.hid (fun (V : World) (hv : Keeps O w1 V) => env_keeps (HE.out.below HB1.out (Nat.le_refl _)) hv (fun k hk => (HLIM.out k hk).1) HG.out)
  obtain ⟨W, hW⟩ : ∃ W, W = w1.alloc (.cells #[.int .i64 4, .string ⟨#[47, 97]⟩, .string ⟨#[120]⟩] 39) := ⟨_, rfl⟩
  have HBW : Hid (Below w1.heap.size w1 W) := Lib.hid (by rw [hW]; exact (Below.refl _ w1).alloc (Nat.le_refl _) _)
  have HOFF : Hid (DeedsOff W O (.slice (some ⟨w1.heap.size, 0, none⟩) 1 1) liveD) := Lib.hid (by
    refine ⟨_, _, rfl, fun i d hd => ⟨w1.heap.size, 0, rfl, ⟨by rw [hW]; simp, fun hh => by have := (HLIM.out _ hh).2; omega⟩, ?_⟩⟩
    cases i with
    | zero =>
      obtain rfl : d = ⟨4, [47, 97], [120]⟩ := (Option.some.inj hd).symm
      refine ⟨by rw [hW]; simp, by rw [hW]; simp; rfl, by rw [hW]; simp; rfl⟩
    | succ j => simp [liveD] at hd)
  have HCM := Lib.hid (commit_any (HD1.out.below HBW.out) (HE1.out _ (Keeps.of_below HBW.out)) HG.out HOFF.out Disk.hung_nil (by decide) (by decide) (fun d hd => by rw [List.mem_singleton.1 hd]; decide))
  unfold JPost at HCM
  rw [live_commit] at HCM
  clear hd1 hb1
  go_wp2_with fail
  try rw [← hW]
  refine HCM.out.mono ?_
  rintro e w2 ⟨rfl, hn2⟩
  have HS2 := Lib.hid (DskNow.ahead (Keeps.of_below HBW.out) hn2)
  clear hn2 hW
  obtain ⟨⟨O2, hd2, hO2⟩, hk2⟩ := HS2.out
  have HD2 := Lib.hid hd2
  have HK2 := Lib.hid hk2
  have HL2 : Hid (∀ k, O2 k → w.heap.size ≤ k) := Lib.hid (fun k hk => (HD2.out.lim k hk).1)
  have HE2 := Lib.hid (fun (V : World) (hv : Below w2.heap.size w2 V) => (HE1.out _ HK2.out).below hv (Nat.le_refl _))
  have HRD : Hid (Calls Tryz.prog 20 #[.pointer (some ⟨sd, 0, none⟩), .string ⟨#[47, 97]⟩] w2 fun e w' => e = .returned (.tuple #[.string ⟨#[120]⟩, .int .i64 0]) ∧ Below w2.heap.size w2 w') := Lib.hid (by
    have := Dsk.read HD2.out (HE2.out _ (Below.refl _ _)) [47, 97] (by decide)
    rw [live_read] at this
    exact this)
  clear hd2 hO2 hk2
  go_wp2_with fail
  refine HRD.out.mono ?_
  rintro e w3 ⟨rfl, hb3⟩
  have HB3 := Lib.hid hb3
  have HRW := Lib.hid (Dsk.raws (HD2.out.below hb3) (by decide))
  clear hb3
  go_wp2_with fail
  refine HRW.out.mono ?_
  rintro e w4 ⟨v4, rfl, hr4, hb4⟩
  have HB4 := Lib.hid (HB3.out.trans (hb4.mono HB3.out.size))
  obtain ⟨a4, c4, rfl⟩ := own_form hr4
  rw [show liveS.raws.length = 6 from rfl]
  have HRC := Lib.hid (recover_any (M := 0) (HD2.out.below HB4.out) (HE2.out _ HB4.out) HG.out (by decide) (by rw [live_T]; decide) (by rw [live_T]; decide))
  unfold JPost at HRC
  rw [live_recover] at HRC
  clear hr4 hb4
  go_wp2_with fail
  refine HRC.out.mono ?_
  rintro e w5 ⟨rfl, hn5⟩
  have HB5 : Hid (Below w.heap.size w w5) := Lib.hid (HB1.out.trans ((HK2.out.to_below (fun k hk => (HLIM.out k hk).1) HB1.out.size).trans ((HB4.out.mono (Nat.le_trans HB1.out.size HK2.out.size)).trans (hn5.keeps.to_below HL2.out (Nat.le_trans (Nat.le_trans HB1.out.size HK2.out.size) HB4.out.size)))))
  clear hn5
  go_wp2_with fail
  refine (commit_nil _).mono ?_
  rintro e w6 ⟨rfl, rfl⟩
  go_wp2_with fail
  refine (recover_nil _).mono ?_
  rintro e w7 ⟨rfl, rfl⟩
  go_wp2
  go_returns
  exact ⟨rfl, HB5.out⟩
end Go.Proofs.YtdogacgpfnolfaaGreatDoor
