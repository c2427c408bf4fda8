/- journal.can: the walk. -/
import Derived.Test.YtdogacgpfnolfaaGreatDoorJrW
import Derived.Test.YtdogacgpfnolfaaGreatDoorZLaws
import Derived.Maps.Keyed
import Derived.Maps.OwnSet
namespace Go.Proofs.YtdogacgpfnolfaaGreatDoor
open Go.RowKit Go.Maps
set_option linter.unusedSimpArgs false
set_option linter.unusedVariables false
theorem wp_scope_1 {P : Program} {a : Act} {w : World} {Q : Exit → Act → World → Prop} {c r0 : Code} (h0 : findLabel c 0 = some (Code.skip.seq r0)) (J : Act → World → Prop) (μ : Act → World → Nat)
    (pass : ∀ m a w, J a w → μ a w ≤ m → r0.wp P (Exit.jumps (fun l a' w' => (l = 0 ∧ J a' w') ∧ μ a' w' < m) Q) a w)
    (first : (∀ m a w, J a w → μ a w ≤ m → r0.wp P (Exit.jumps (fun l a' w' => (l = 0 ∧ J a' w') ∧ μ a' w' < m) Q) a w) → ∃ m, c.wp P (Exit.jumps (fun l a' w' => (l = 0 ∧ J a' w') ∧ μ a' w' < m) Q) a w) : (Code.scope c).wp P Q a w := by
  obtain ⟨m0, hfirst⟩ := first pass
  refine wp_scope_labels (fun _ => Code.skip.seq r0) (fun l a w => l = 0 ∧ J a w) (fun _ => μ) ?_ ?_ ?_
  · rintro l a w ⟨rfl, _⟩
    exact h0
  · refine Code.wp_mono (fun e a w h => ?_) hfirst
    cases e with
    | goto l => exact h.1
    | normal => exact h
    | exit id => exact h
    | ret => exact h
    | panic ch => exact h
    | outgrown => exact h
  · rintro l a w ⟨rfl, h⟩
    exact wp_skip_seq (pass _ a w h (Nat.le_refl _))
theorem wpList_insert_own {H : Type} {P : Program} (w : World) {ops : Array Oper} {rest : List Oper} {o : Oper} {a : Act} {Q : Exit → Act → World → Prop}
    (hg : o.guard = none) (m x v : Operand) (t : TypeId) (hop : o.op = Op.insert t m x v)
    (k e : TypeId) (K : Keyed P k) (ht : P.underlying t = some (.map k e)) (R : Value → Option (DataW H × List MemPlace)) (b n : Nat) (D : DataW H)
    (hm : a.eval m = .map (some b)) (hown : w.ownsMap P k R b n D) (hn : n < maxLen) (key val : Value) (kl : Lit) (hx : a.eval x = key) (hv : a.eval v = val) (hkey : keyOf P k key = some kl)
    (d : DataW H) (ps : List MemPlace) (hval : R val = some (d, ps))
    (hK : ∀ w', w'.ownsMap P k R b (n + 1) (D.put kl d) → w.grownBy w' (some b) → wpList P ops Q rest (a.put o.dst undef) w') :
    wpList P ops Q (o :: rest) a w := by
  refine wpList_plain hg fun K' hK' => ?_
  obtain ⟨w', hrun, r1, r2⟩ := hown.update K ht hn hkey hval
  unfold Oper.wp
  simp [execOp, hop, hm, hx, hv, hrun, Result.andThen]
  exact hK' _ _ (hK w' r1 r2)
theorem keyInt {a : Int} (h : (Lit.int .i64 a).wf = true) : keyOf Tryz.prog 3 (.int .i64 a) = some (.int .i64 a) := by
  simp [keyOf, mapKey, Tryz.underlying3, h]
abbrev WD := DataW Unit
/-- What is wanted of each kind of deed. -/
def wantD : WD := (((DataW.map [] : WD).put (.int .i64 1) (.lit (.int .i64 1))).put (.int .i64 2) (.lit (.int .i64 2))).put (.int .i64 3) (.lit (.int .i64 0))
def wantK (k : Int) : Int := if k = 1 then 1 else if k = 2 then 2 else 0
def wantB (k : Int) : Bool := decide (k = 1) || (decide (k = 2) || decide (k = 3))
theorem wantD_at {k : Int} (h : 1 ≤ k ∧ k ≤ 4) : wantD.atKey (.int .i64 k) (.lit (.int .i64 0)) = .lit (.int .i64 (wantK k)) ∧ Maps.has wantD (.int .i64 k) = wantB k := by
  have hk : k = 1 ∨ k = 2 ∨ k = 3 ∨ k = 4 := by omega
  rcases hk with rfl | rfl | rfl | rfl <;> exact ⟨by rfl, by rfl⟩
theorem want_eq {l : Disk.M} {d : Disk.Dd} (hk : 1 ≤ d.kind ∧ d.kind ≤ 4) : Disk.want l d = (!wantB d.kind || decide (Disk.kind l d.path = wantK d.kind)) := by
  obtain ⟨k, p, t⟩ := d
  have hk : k = 1 ∨ k = 2 ∨ k = 3 ∨ k = 4 := by simp only at hk; omega
  unfold Disk.want
  rcases hk with rfl | rfl | rfl | rfl <;> simp [wantB, wantK]
/-- Can deeds be done on a disk? -/
def canJ (l : Disk.M) (ds : List PL.Plan.D) : Bool := PL.Plan.ok ds && Disk.S.tries (loadS l) (ds.map toDd)
def CanJ (w : World) (sd sd2 N N0 : Nat) (a1 : Option Addr) (c1 : Nat) (D : List Disk.Dd) (good : Bool) (a : Act) (wr : World) : Prop :=
  ∃ (i : Nat) (si : Disk.S) (O1 : Nat → Prop), (i ≤ N ∧ Dsk wr w.heap.size O1 sd2 (N0 + i) si ∧ Below w.heap.size w wr ∧ si.tries (D.drop i) = good) ∧ ∃ u2 u3 u4 u6 u8 u9 u10 u11 u12 u13 u14 u15 u16 u17 u18 u19 u20 u21 u22 u23 u24 u25 u26 u27 u28 u29 u30 u31 u32 u33 u34 u35 u36 u37 u38 u39 u40 u41 u42 u43 u44 u45 u46 u47 u48 u49 u50 u51 u52 u53 u54 u55 : Value, a = { tmps := #[.pointer (some ⟨sd, 0, none⟩), .slice a1 N c1, u2, u3, u4, .pointer (some ⟨sd2, 0, none⟩), u6, .int .i64 i, u8, u9, u10, u11, u12, u13, u14, u15, u16, u17, u18, u19, u20, u21, u22, u23, u24, u25, u26, u27, u28, u29, u30, u31, u32, u33, u34, u35, u36, u37, u38, u39, u40, u41, u42, u43, u44, u45, u46, u47, u48, u49, u50, u51, u52, u53, u54, u55], defers := [] }
theorem fls_path {l : Disk.M} (h : Disk.Hung l) : ∀ f ∈ fls l, f.path.length ≤ 4096 := fun f hf => by
  unfold fls at hf
  obtain ⟨x, hx, rfl⟩ := List.mem_map.1 hf
  exact Disk.pathOk_length (h.ok _ _ (SM.look_mem h.rises hx))
set_option maxHeartbeats 16000000 in
set_option maxRecDepth 100000 in
theorem can_any {w : World} {B : Nat} {O : Nat → Prop} {sd n : Nat} {s : Disk.S} {v : Value} {ds : List PL.Plan.D} (h : Dsk w B O sd n s) (hE : Env w) (hd : PL.Deeds w w.heap.size v ds) (hh : Disk.Hung s.l) (hn : s.l.length + ds.length < 1099511627776) (hsz : ∀ d ∈ ds, d.path.length ≤ 1048576 ∧ d.data.length ≤ 1048576) :
    Calls Tryz.prog 22 #[.pointer (some ⟨sd, 0, none⟩), v] w fun e w' => e = .returned (.bool (canJ s.l ds)) ∧ Below w.heap.size w w' := by
  have hmm := @run_makeMap Tryz.prog
  obtain ⟨a1, c1, rfl⟩ := hd.form
  obtain ⟨N, hN⟩ : ∃ N, N = ds.length := ⟨_, rfl⟩
  have HH := Lib.hid hd
  have HSZ := Lib.hid hsz
  have HE := Lib.hid (fun (V : World) (hv : Below w.heap.size w V) => hE.below hv (Nat.le_refl _))
  have HCK := Lib.hid (PL.check_any hd (Nat.le_refl _) (by omega) (fun d hd => by have := hsz d hd; omega))
  have HALL := Lib.hid (fun (V : World) (hV : Below w.heap.size w V) => Dsk.all (h.below hV) (by omega))
  have HHU := Lib.hid hh
  rw [← hN] at hn HCK ⊢
  have HN := Lib.hid hN
  have HMM := Lib.hid hmm
  clear hd hsz hE h hh hN hmm
  cases hok : PL.Plan.ok ds with
  | false =>
    have HF : Hid (canJ s.l ds = false) := Lib.hid (by unfold canJ; rw [hok]; rfl)
    rw [HF.out]
    rw [PL.Plan.code_no hok] at HCK
    clear hok
    go_enter Tryz.func22, Tryz.ntmps22
    go_wp2
    go_step3
    go_wp2_with fail
    refine HCK.out.mono ?_
    rintro e w1 ⟨rfl, hb1⟩
    have HB1 := Lib.hid hb1
    clear hb1
    go_wp2
    try rw [Exit.noGoto_ret]
    go_returns
    exact ⟨rfl, HB1.out⟩
  | true =>
    have HKIND := Lib.hid (fun d hd => (PL.Plan.ok_all hok d hd))
    obtain ⟨D, hD⟩ : ∃ D, D = ds.map toDd := ⟨_, rfl⟩
    obtain ⟨good, hgood⟩ : ∃ g, g = Disk.S.tries (loadS s.l) D := ⟨_, rfl⟩
    have HF : Hid (canJ s.l ds = good) := Lib.hid (by unfold canJ; rw [hok, hgood, hD]; rfl)
    have HG := Lib.hid hgood
    have HD := Lib.hid hD
    rw [HF.out]
    rw [PL.Plan.code_yes hok] at HCK
    clear hok hD hgood
    obtain ⟨N0, hN0⟩ : ∃ x, x = s.l.length := ⟨_, rfl⟩
    rw [← hN0] at hn
    have HN0 := Lib.hid hN0
    clear hN0
    go_enter Tryz.func22, Tryz.ntmps22
    go_wp2
    refine wp_scope_1 rfl (fun a wr => ∃ sd2, CanJ w sd sd2 N N0 a1 c1 D good a wr) (fun a _ => N - (intOf (a.tmps.getD 7 undef)).toNat) ?_ ?_
    · intro m a wr hJ hmu
      obtain ⟨sd2, i, si, O1, ⟨hi, hdk, hB, htr⟩, u2, u3, u4, u6, u8, u9, u10, u11, u12, u13, u14, u15, u16, u17, u18, u19, u20, u21, u22, u23, u24, u25, u26, u27, u28, u29, u30, u31, u32, u33, u34, u35, u36, u37, u38, u39, u40, u41, u42, u43, u44, u45, u46, u47, u48, u49, u50, u51, u52, u53, u54, u55, rfl⟩ := hJ
      have hmu' : N - i ≤ m := by simpa [intOf] using hmu
      have HDK := Lib.hid hdk
      have HB := Lib.hid hB
      have HTR := Lib.hid htr
      have hzr := hB.size
      clear hdk hB htr hmu
      obtain ⟨wo, rfl⟩ : ∃ x, x = wr := ⟨wr, rfl⟩
      by_cases hiN : i = N
      · subst hiN
        have HGD : Hid (good = true) := Lib.hid (by
          rw [← HTR.out, List.drop_of_length_le (by rw [HD.out, List.length_map, ← HN.out]; exact Nat.le_refl _)]
          rfl)
        have hq : (((i : Nat) : Int) == ((i : Nat) : Int)) = true := by simp
        go_wp2
        rw [Exit.jumps_ret]
        go_returns
        exact ⟨by rw [HGD.out]; rfl, HB.out⟩
      · have hlt : i < N := by omega
        have hq : (((i : Nat) : Int) == ((N : Nat) : Int)) = false := by rw [beq_eq_false_iff_ne]; omega
        obtain ⟨d, hd⟩ : ∃ d, ds[i]? = some d := ⟨_, List.getElem?_eq_getElem (by have := HN.out; omega)⟩
        obtain ⟨bk, o, cap, hve, hbB, hbc⟩ := HH.out.at (by have := HN.out; omega)
        rw [← HN.out] at hve
        cases hve
        obtain ⟨h1, h2, h3⟩ := hbc i d hd
        have hDi : D[i]? = some (toDd d) := by rw [HD.out, List.getElem?_map, hd]; rfl
        have HX := Lib.hid (HSZ.out d (List.mem_of_getElem? hd))
        have hkd := HKIND.out d (List.mem_of_getElem? hd)
        have hk1 : 1 ≤ d.kind := hkd.1
        have hk4 : d.kind ≤ 4 := hkd.2.1
        have HDI := Lib.hid hDi
        have hcl : (i : Int) < (c1 : Int) ∨ True := Or.inr trivial
        obtain ⟨dk, dp, dt⟩ := d
        dsimp only at h1 h2 h3 hk1 hk4
        have HXP : Hid (dp.length ≤ 1048576) := Lib.hid HX.out.1
        have e1 := (HB.out.cell (p := ⟨bk, o + i * 3, none⟩) hbB).trans h1
        have e2 := (HB.out.cell (p := ⟨bk, o + i * 3 + 1, none⟩) hbB).trans h2
        have e3 := (HB.out.cell (p := ⟨bk, o + i * 3 + 2, none⟩) hbB).trans h3
        have hwf : (Lit.int .i64 dk).wf = true := by
          simp only [Lit.wf, IntKind.min, IntKind.max, IntKind.signed, IntKind.bits, Bool.and_eq_true, decide_eq_true_eq, if_true]
          omega
        have HKEY := Lib.hid (keyInt hwf)
        have HWD := Lib.hid (wantD_at (k := dk) ⟨hk1, hk4⟩)
        have HWE := Lib.hid (want_eq (l := si.l) (d := ⟨dk, dp, dt⟩) ⟨hk1, hk4⟩)
        have HCONS : Hid (good = (Disk.want si.l ⟨dk, dp, dt⟩ && (decide ((si.doJ ⟨dk, dp, dt⟩).1 = 0) && Disk.S.tries (si.doJ ⟨dk, dp, dt⟩).2 (D.drop (i + 1))))) := Lib.hid (by
          have hh := List.getElem?_eq_some_iff.1 HDI.out
          have := HTR.out
          rw [List.drop_eq_getElem_cons hh.1, hh.2] at this
          exact this.symm)
        have hz1 : (wo.alloc (.cells #[.int .i64 dk, .string (bs dp), .string (bs dt)] 39)).heap.size = wo.heap.size + 1 := by simp
        obtain ⟨W, hW⟩ : ∃ W, W = wo.alloc (.cells #[.int .i64 dk, .string (bs dp), .string (bs dt)] 39) := ⟨_, rfl⟩
        have l0 : W.cell? ⟨wo.heap.size, 0, none⟩ = some (.int .i64 dk) := by rw [hW]; simp
        have l1 : W.cell? ⟨wo.heap.size, 1, none⟩ = some (.string (bs dp)) := by rw [hW]; simp
        have l2 : W.cell? ⟨wo.heap.size, 2, none⟩ = some (.string (bs dt)) := by rw [hW]; simp
        have HBW : Hid (Below wo.heap.size wo W) := Lib.hid (by rw [hW]; exact (Below.refl _ wo).alloc (Nat.le_refl _) _)
        rw [← hW] at hz1
        clear hbc hd hDi hkd HX h1 h2 h3 hwf hcl
        have hmm := HMM.out
        have hky1 : keyOf Tryz.prog 3 (.int .i64 1) = some (.int .i64 1) := keyInt (by decide)
        have hky2 : keyOf Tryz.prog 3 (.int .i64 2) = some (.int .i64 2) := keyInt (by decide)
        have hky3 : keyOf Tryz.prog 3 (.int .i64 3) = some (.int .i64 3) := keyInt (by decide)
        have hpe0 : plainElem (H := Unit) Tryz.prog 3 (.int .i64 0) = some (.lit (.int .i64 0), []) := plainElem_int Tryz.underlying3 (by decide)
        have hpe1 : plainElem (H := Unit) Tryz.prog 3 (.int .i64 1) = some (.lit (.int .i64 1), []) := plainElem_int Tryz.underlying3 (by decide)
        have hpe2 : plainElem (H := Unit) Tryz.prog 3 (.int .i64 2) = some (.lit (.int .i64 2), []) := plainElem_int Tryz.underlying3 (by decide)
        have hown0 : (W.alloc (.map #[] 0)).ownsMap Tryz.prog 3 (plainElem Tryz.prog 3) (wo.heap.size + 1) 0 (DataW.map [] : WD) := by rw [← hz1]; exact World.ownsMap_made _ _ _ _
        obtain ⟨w1, hrun1, hown1, hgr1⟩ := hown0.update (t := 86) (Maps.int_keyed Tryz.underlying3) Tryz.underlying86 (by unfold maxLen; omega) hky1 hpe1
        obtain ⟨w2, hrun2, hown2, hgr2⟩ := hown1.update (t := 86) (Maps.int_keyed Tryz.underlying3) Tryz.underlying86 (by unfold maxLen; omega) hky2 hpe2
        obtain ⟨w3, hrun3, hown3, hgr3⟩ := hown2.update (t := 86) (Maps.int_keyed Tryz.underlying3) Tryz.underlying86 (by unfold maxLen; omega) hky3 hpe0
        rw [hW] at hrun1
        have HOWN : Hid (w3.ownsMap Tryz.prog 3 (plainElem Tryz.prog 3) (wo.heap.size + 1) 3 wantD) := Lib.hid hown3
        have HBM : Hid (Below W.heap.size W w3) := Lib.hid ((((Below.refl _ W).alloc (Nat.le_refl _) _).grown hgr1 (by simp) (fun g e => by cases e; omega)).grown hgr2 (by have := hgr1.size; simp at this; omega) (fun g e => by cases e; omega) |>.grown hgr3 (by have := hgr1.size; have := hgr2.size; simp at *; omega) (fun g e => by cases e; omega))
        have m0 := (HBM.out.cell (p := ⟨wo.heap.size, 0, none⟩) (by show wo.heap.size < _; omega)).trans l0
        have m1 := (HBM.out.cell (p := ⟨wo.heap.size, 1, none⟩) (by show wo.heap.size < _; omega)).trans l1
        have m2 := (HBM.out.cell (p := ⟨wo.heap.size, 2, none⟩) (by show wo.heap.size < _; omega)).trans l2
        have hz3 := HBM.out.size
        have HB3 := Lib.hid (HB.out.trans ((HBW.out.trans (HBM.out.mono (by omega))).mono hzr))
        have HBO := Lib.hid (HBW.out.trans (HBM.out.mono (by omega)))
        have HDK3 := Lib.hid ((HDK.out.below HBW.out).below HBM.out)
        clear hky1 hky2 hky3 hpe0 hpe1 hpe2 hown0 hown1 hown2 hown3 hgr1 hgr2 hgr3 l0 l1 l2 hW
        have HKI := Lib.hid (Dsk.kind HDK3.out dp (by have := HXP.out; omega))
        have HDOF := Lib.hid (fun (V : World) (hV : Below w3.heap.size w3 V) => do_any (HDK3.out.below hV) (HE.out _ (HB3.out.trans (hV.mono (by omega)))) (by omega) dk dp dt (by have := HXP.out; omega))
        obtain ⟨r, hr⟩ : ∃ r, r = si.doJ ⟨dk, dp, dt⟩ := ⟨_, rfl⟩
        have HR := Lib.hid hr
        rw [← hr] at HDOF HCONS
        obtain ⟨rc, s2⟩ := r
        obtain ⟨kk, hkk⟩ : ∃ kk, kk = Disk.kind si.l dp := ⟨_, rfl⟩
        rw [← hkk] at HKI
        have HKK := Lib.hid hkk
        clear hr hkk
        cases hwb : wantB dk with
        | true =>
          rw [hwb] at HWD HWE
          by_cases hkw : kk = wantK dk
          · have hq2 : (kk != wantK dk) = false := by rw [hkw]; simp
            have HCON2 : Hid (good = (decide (rc = 0) && s2.tries (D.drop (i + 1)))) := Lib.hid (by rw [HCONS.out, HWE.out]; dsimp only; rw [← HKK.out, decide_eq_true hkw]; rfl)
            clear hwb hkw HWE HCONS
            go_wp2_with (at_lookup; refine wpList_lookup_own_ok_int _ rfl _ _ 86 rfl 3 3 .i64 (Maps.int_keyed Tryz.underlying3) Tryz.underlying86 Tryz.underlying3 (Tryz.zeroValue3 _) (wo.heap.size + 1) 3 wantD rfl HOWN.out _ (.int .i64 dk) rfl HKEY.out ?_; intro c hat hwc; obtain rfl : c = wantK dk := (by have h1 := HWD.out.1.symm.trans hat; simp only [DataW.lit.injEq, Lit.int.injEq, true_and] at h1; exact h1.symm); rw [HWD.out.2])
            refine HKI.out.mono ?_
            rintro e w4 ⟨rfl, hb4⟩
            have n0 := (hb4.cell (p := ⟨wo.heap.size, 0, none⟩) (by show wo.heap.size < _; omega)).trans m0
            have n1 := (hb4.cell (p := ⟨wo.heap.size, 1, none⟩) (by show wo.heap.size < _; omega)).trans m1
            have n2 := (hb4.cell (p := ⟨wo.heap.size, 2, none⟩) (by show wo.heap.size < _; omega)).trans m2
            have HBB := Lib.hid (HBO.out.trans (hb4.mono (by omega)))
            have HDO := Lib.hid (HDOF.out w4 hb4)
            clear hb4 m0 m1 m2
            go_wp2_with fail
            refine HDO.out.mono ?_
            rintro e w5 ⟨rfl, hd5⟩
            have HK5 := Lib.hid ((Keeps.of_below (O := O1) HBB.out).trans hd5.keeps (fun k h => Or.inl h))
            obtain ⟨⟨O2, hdd, hO2⟩, _⟩ := hd5
            have HD5 := Lib.hid hdd
            have HB5 := Lib.hid (HB.out.trans (HK5.out.to_below (fun k hk => (HDK.out.lim k hk).1) hzr))
            clear hdd hO2
            by_cases hrc : rc = 0
            · subst hrc
              have HTN : Hid (s2.tries (D.drop (i + 1)) = good) := Lib.hid (by rw [HCON2.out]; simp)
              go_wp2
              go_step3
              exact ⟨⟨rfl, ⟨sd2, i + 1, s2, O2, ⟨by omega, HD5.out, HB5.out, HTN.out⟩, _, _, _, _, _, _, _, _, _, _, _, _, _, _, _, _, _, _, _, _, _, _, _, _, _, _, _, _, _, _, _, _, _, _, _, _, _, _, _, _, _, _, _, _, _, _, _, _, _, _, _, _, by go_num⟩⟩, by simp [intOf]; omega⟩
            · have hq3 : (rc == 0) = false := beq_eq_false_iff_ne.2 hrc
              have HGD : Hid (good = false) := Lib.hid (by rw [HCON2.out, decide_eq_false hrc]; rfl)
              clear hrc
              go_wp2
              rw [Exit.jumps_ret]
              go_returns
              exact ⟨by rw [HGD.out]; rfl, HB5.out⟩
          · have hq2 : (kk != wantK dk) = true := by rw [bne, beq_eq_false_iff_ne.2 hkw]; rfl
            have HGD : Hid (good = false) := Lib.hid (by rw [HCONS.out, HWE.out]; dsimp only; rw [← HKK.out, decide_eq_false hkw]; rfl)
            clear hwb hkw HWE HCONS
            go_wp2_with (at_lookup; refine wpList_lookup_own_ok_int _ rfl _ _ 86 rfl 3 3 .i64 (Maps.int_keyed Tryz.underlying3) Tryz.underlying86 Tryz.underlying3 (Tryz.zeroValue3 _) (wo.heap.size + 1) 3 wantD rfl HOWN.out _ (.int .i64 dk) rfl HKEY.out ?_; intro c hat hwc; obtain rfl : c = wantK dk := (by have h1 := HWD.out.1.symm.trans hat; simp only [DataW.lit.injEq, Lit.int.injEq, true_and] at h1; exact h1.symm); rw [HWD.out.2])
            refine HKI.out.mono ?_
            rintro e w4 ⟨rfl, hb4⟩
            have HB4 := Lib.hid (HB3.out.trans (hb4.mono (by omega)))
            clear hb4
            go_wp2
            rw [Exit.jumps_ret]
            go_returns
            exact ⟨by rw [HGD.out]; rfl, HB4.out⟩
        | false =>
          rw [hwb] at HWD HWE
          have HCON2 : Hid (good = (decide (rc = 0) && s2.tries (D.drop (i + 1)))) := Lib.hid (by rw [HCONS.out, HWE.out]; rfl)
          clear hwb HWE HCONS
          go_wp2_with (at_lookup; refine wpList_lookup_own_ok_int _ rfl _ _ 86 rfl 3 3 .i64 (Maps.int_keyed Tryz.underlying3) Tryz.underlying86 Tryz.underlying3 (Tryz.zeroValue3 _) (wo.heap.size + 1) 3 wantD rfl HOWN.out _ (.int .i64 dk) rfl HKEY.out ?_; intro c hat hwc; obtain rfl : c = wantK dk := (by have h1 := HWD.out.1.symm.trans hat; simp only [DataW.lit.injEq, Lit.int.injEq, true_and] at h1; exact h1.symm); rw [HWD.out.2])
          have HBB := Lib.hid HBO.out
          have HDO := Lib.hid (HDOF.out w3 (Below.refl _ _))
          refine HDO.out.mono ?_
          rintro e w5 ⟨rfl, hd5⟩
          have HK5 := Lib.hid ((Keeps.of_below (O := O1) HBB.out).trans hd5.keeps (fun k h => Or.inl h))
          obtain ⟨⟨O2, hdd, hO2⟩, _⟩ := hd5
          have HD5 := Lib.hid hdd
          have HB5 := Lib.hid (HB.out.trans (HK5.out.to_below (fun k hk => (HDK.out.lim k hk).1) hzr))
          clear hdd hO2
          by_cases hrc : rc = 0
          · subst hrc
            have HTN : Hid (s2.tries (D.drop (i + 1)) = good) := Lib.hid (by rw [HCON2.out]; simp)
            go_wp2
            go_step3
            exact ⟨⟨rfl, ⟨sd2, i + 1, s2, O2, ⟨by omega, HD5.out, HB5.out, HTN.out⟩, _, _, _, _, _, _, _, _, _, _, _, _, _, _, _, _, _, _, _, _, _, _, _, _, _, _, _, _, _, _, _, _, _, _, _, _, _, _, _, _, _, _, _, _, _, _, _, _, _, _, _, _, by go_num⟩⟩, by simp [intOf]; omega⟩
          · have hq3 : (rc == 0) = false := beq_eq_false_iff_ne.2 hrc
            have HGD : Hid (good = false) := Lib.hid (by rw [HCON2.out, decide_eq_false hrc]; rfl)
            clear hrc
            go_wp2
            rw [Exit.jumps_ret]
            go_returns
            exact ⟨by rw [HGD.out]; rfl, HB5.out⟩
    · intro pass
      have HP := Lib.hid pass
      clear pass
      refine ⟨N, ?_⟩
      go_wp2_with fail
      refine HCK.out.mono ?_
      rintro e w1 ⟨rfl, hb1⟩
      have HB1 := Lib.hid hb1
      have HAL := Lib.hid (HALL.out w1 hb1)
      clear hb1
      go_wp2_with fail
      refine HAL.out.mono ?_
      rintro e w2 ⟨v2, rfl, hr2, hb2⟩
      have HB2 := Lib.hid (HB1.out.trans (hb2.mono HB1.out.size))
      have HLD := Lib.hid (load_any hr2.files (Nat.le_refl _) (HE.out _ HB2.out) (by rw [fls_length]; have := HN0.out; omega) (fun f hf => by have := fls_path HHU.out f hf; omega))
      unfold LoadPost at HLD
      rw [Disk.load_fls HHU.out] at HLD
      clear hr2 hb2
      go_wp2_with fail
      refine HLD.out.mono ?_
      rintro e w3 ⟨⟨sd2, bm2, n2, rfl, hd2, hn2⟩, hb3⟩
      have HB3 := Lib.hid (HB2.out.trans (hb3.mono HB2.out.size))
      have HDK := Lib.hid (Dsk.loaded (N := N0) hd2 HB2.out.size (by rw [HN0.out]; rw [fls_length] at hn2; exact hn2) (fun x hx => HHU.out.ok _ _ (SM.look_mem HHU.out.rises hx))).1
      clear hd2 hn2 hb3
      go_wp2
      go_step3
      rename_i K hK; refine hK _ _ (HP.out N _ _ ?_ ?_)
      · exact ⟨sd2, 0, loadS s.l, _, ⟨Nat.zero_le _, HDK.out, HB3.out, by rw [HG.out]; rfl⟩, _, _, _, _, _, _, _, _, _, _, _, _, _, _, _, _, _, _, _, _, _, _, _, _, _, _, _, _, _, _, _, _, _, _, _, _, _, _, _, _, _, _, _, _, _, _, _, _, _, _, _, _, rfl⟩
      · simp [intOf]
end Go.Proofs.YtdogacgpfnolfaaGreatDoor
