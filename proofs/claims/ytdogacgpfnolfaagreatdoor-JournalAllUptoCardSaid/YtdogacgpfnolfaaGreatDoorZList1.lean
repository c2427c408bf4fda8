/- The names in a directory: disk's List: the walk. -/
import Derived.Test.YtdogacgpfnolfaaGreatDoorZListP
import Derived.Test.YtdogacgpfnolfaaGreatDoorDiskA6
namespace Go.Proofs.YtdogacgpfnolfaaGreatDoor
open Go.RowKit Go.Maps Go.Sort
set_option linter.unusedSimpArgs false
set_option linter.unusedVariables false
def enc1 (x : List UInt8) : List Value := [.string (bs x)]
theorem enc1_length (x : List UInt8) : (enc1 x).length = 1 := rfl
theorem infoSt : (Tryz.prog.info? 9).map (fun i => (i.zero, i.size, i.bytes)) = some (some (.string ByteArray.empty), 1, 16) := by kernel_rfl
/-- A row of texts of the call's own. -/
abbrev SRow (w : World) (base : Nat) (v : Value) (ns : List (List UInt8)) : Prop := w.ownsRow base 9 1 v ns.length (ns.flatMap enc1)
theorem SRow.snoc {w : World} {base n : Nat} {v : Value} {ns : List (List UInt8)} {x : List UInt8} (h : w.ownsRow base 9 1 v (n + 1) (ns.flatMap enc1 ++ [.string (bs x)])) (hn : ns.length = n) : SRow w base v (ns ++ [x]) := by
  show w.ownsRow base 9 1 v (ns ++ [x]).length ((ns ++ [x]).flatMap enc1)
  rw [List.length_append, hn, List.flatMap_append]
  exact h
theorem putCells_one (d : Array (List UInt8)) (c : Array Value) : putCells (id : Value → Value) 0 (flatK enc1 1 d) c = putCells encStr 0 d c := by
  have hsz : (flatK enc1 1 d).size = d.size := by simp
  unfold putCells
  congr 1
  funext k x
  rw [hsz]
  by_cases h : 0 ≤ k ∧ k < 0 + d.size
  · rw [if_pos h, if_pos h, get_flatK enc1 1 d (k - 0) (by omega)]
    have e1 : (k - 0) / 1 = k - 0 := Nat.div_one _
    have e2 : (k - 0) % 1 = 0 := Nat.mod_one _
    rw [e1, e2]
    rfl
  · rw [if_neg h, if_neg h]
theorem putRow_one (w : World) (g : Nat) (d : Array (List UInt8)) : putRowK enc1 1 w g 0 d = putRow encStr w g 0 d := by
  unfold putRowK putRow
  congr 1
  funext c
  exact putCells_one d c
theorem sortS_any {w : World} {base : Nat} {v : Value} {ds S : List (List UInt8)} (h : SRow w base v ds) (hp : ds.Perm S) (hS : S.Pairwise fun x y => bytesBefore x y = true) (hn : ds.length < 4611686018427387904) :
    Calls Tryz.prog 58 #[v] w fun e w' => e = .returned (.tuple #[]) ∧ SRow w' base v S ∧ w.grownBy w' v.ownBlock := by
  rcases Nat.eq_zero_or_pos ds.length with h0 | h0
  · have e1 : ds = [] := List.length_eq_zero_iff.1 h0
    subst e1
    have e2 : S = [] := List.nil_perm.1 hp
    subst e2
    obtain ⟨a, c, rfl⟩ := own_form h
    refine (Tryz.slices_Sort_string_none a c w).mono ?_
    rintro e w1 ⟨rfl, rfl⟩
    exact ⟨rfl, h, ⟨rfl, rfl, rfl, Nat.le_refl _, fun _ _ _ => rfl⟩⟩
  · obtain ⟨g, cap, rfl, hg, hbg, hH, hall⟩ := own_sortK enc1_length h h0
    have hH2 : Holds encStr w g 0 ds.toArray := fun j hj => by
      have h1 := hH j (by simpa using hj)
      refine ⟨?_, h1.2⟩
      rw [h1.1, get_flatK enc1 1 ds.toArray j (by simpa using hj), Nat.div_one, Nat.mod_one]
      rfl
    refine (Tryz.slices_Sort_string g 0 cap ds w hH2 hg hn).mono ?_
    rintro e w1 ⟨rfl, n, os, rfl⟩
    rw [sort_names hp hS]
    have hr := hall S hp.length_eq.symm n os
    have e1 : sortWorldK enc1 1 w g 0 n S.toArray os = grow (putRow encStr (Sort.ahead w n) g 0 S.toArray) os := by
      unfold sortWorldK
      rw [putRow_one]
    rw [e1] at hr
    refine ⟨rfl, ?_, hr.2⟩
    have h1 := hr.1
    rw [hp.length_eq] at h1 ⊢
    exact h1
/-- What List leaves. -/
def ListPost (l : Disk.M) (p : List UInt8) (w : World) (e : Ending) (w' : World) : Prop := ∃ v, e = .returned (.tuple #[v, .int .i64 (Disk.listR l p).2]) ∧ SRow w' w.heap.size v (Disk.listR l p).1 ∧ Below w.heap.size w w'
theorem ListPost.no {l : Disk.M} {p : List UInt8} {w w' : World} {k : Int} (h : Disk.listR l p = ([], k)) (hb : Below w.heap.size w w') : ListPost l p w (.returned (.tuple #[.slice none 0 0, .int .i64 k])) w' := by
  unfold ListPost
  rw [h]
  exact ⟨_, rfl, World.ownsRow_nil _ _ _ _, hb⟩
set_option maxHeartbeats 8000000 in
set_option maxRecDepth 100000 in
theorem list_any {w : World} {sd bm n : Nat} {l : Disk.M} (hT : w.cell? ⟨sd, 0, none⟩ = some (.map (some bm))) (hM : Things w bm n l) (hE : Env w) (hok : ∀ x ∈ l, Disk.pathOk x.1 = true) (hn : l.length ≤ 1099511627776) (p : List UInt8) (hp : p.length ≤ 4398046511104) :
    Calls Tryz.prog 28 #[.pointer (some ⟨sd, 0, none⟩), .string (bs p)] w (ListPost l p w) := by
  obtain ⟨i0, hi, hz0, hz1, hz2⟩ := info_parts infoSt
  have e1 := str_eq_lit (bs p) [47]
  rw [bs_list] at e1
  have HB := Lib.hid (below_any (bs p) (by show p.toArray.size ≤ _; simp; omega) w hE)
  rw [bs_list] at HB
  have hps := bs_small hp
  have HM := Lib.hid hM
  have hsd := size_of_cell hT
  have hbm := hM.lt
  have HRI := Lib.hid hM.rises
  have HOK := Lib.hid hok
  clear hM hE hok
  have HKI : Hid (∀ W, Below w.heap.size w W → Calls Tryz.prog 11 #[.pointer (some ⟨sd, 0, none⟩), .string (bs p)] W fun e w' => e = .returned (.int .i64 (Disk.kind l p)) ∧ Below W.heap.size W w') := Lib.hid (fun W hW => by
    have := kind_any (w := W) (by rw [hW.cell (p := ⟨sd, 0, none⟩) hsd]; exact hT) (HM.out.below hW hbm) (bs p) hps
    rwa [bs_list] at this)
  have HT2 : Hid (∀ W, Below w.heap.size w W → W.cell? ⟨sd, 0, none⟩ = some (.map (some bm)) ∧ Things W bm n l) := Lib.hid (fun W hW => ⟨by rw [hW.cell (p := ⟨sd, 0, none⟩) hsd]; exact hT, HM.out.below hW hbm⟩)
  obtain ⟨kk, hkk⟩ : ∃ k, k = Disk.kind l p := ⟨_, rfl⟩
  have HR : Hid (Disk.listR l p = if p ≠ [47] ∧ Disk.pathOk p = false then ([], 10) else if kk = 0 then ([], 12) else if kk = 1 then ([], 13) else (Disk.names l p, 0)) := Lib.hid (by rw [hkk]; rfl)
  rw [← hkk] at HKI
  clear hkk
  have CS : (p ≠ [47] ∧ Disk.pathOk p = false) ∨ ((p = [47] ∨ Disk.pathOk p = true) ∧ Disk.listR l p = if kk = 0 then ([], 12) else if kk = 1 then ([], 13) else (Disk.names l p, 0)) := by
    by_cases h47 : p = [47]
    · exact Or.inr ⟨Or.inl h47, by rw [HR.out, if_neg (by rintro ⟨h, _⟩; exact h h47)]⟩
    · cases hpo : Disk.pathOk p
      · exact Or.inl ⟨h47, rfl⟩
      · exact Or.inr ⟨Or.inr rfl, by rw [HR.out, if_neg (by rintro ⟨_, h⟩; rw [hpo] at h; exact absurd h (by simp))]⟩
  rcases CS with ⟨h47, hpo⟩ | ⟨hmay, hres⟩
  · have HF : Hid (Disk.listR l p = ([], 10)) := Lib.hid (by rw [HR.out, if_pos ⟨h47, hpo⟩])
    rw [decide_eq_false h47] at e1
    rw [hpo] at HB
    clear h47 hpo
    go_enter Tryz.func28, Tryz.ntmps28
    go_wp2_with fail
    refine HB.out.mono ?_
    rintro e w1 ⟨rfl, hb1⟩
    go_wp2
    go_returns
    exact ListPost.no HF.out hb1
  have HRES := Lib.hid hres
  clear hres
  -- the gate: with or without the check of the path
  have GATE : (p = [47]) ∨ (p ≠ [47] ∧ Disk.pathOk p = true) := by
    by_cases h47 : p = [47]
    · exact Or.inl h47
    · exact Or.inr ⟨h47, hmay.resolve_left h47⟩
  clear hmay
  by_cases h0 : kk = 0
  · have HF : Hid (Disk.listR l p = ([], 12)) := Lib.hid (by rw [HRES.out, if_pos h0])
    have q0 : (kk == 0) = true := beq_iff_eq.2 h0
    clear h0
    rcases GATE with h47 | ⟨h47, hpo⟩
    · rw [decide_eq_true h47] at e1
      clear h47
      go_enter Tryz.func28, Tryz.ntmps28
      go_wp2_with fail
      refine (HKI.out _ (Below.refl _ _)).mono ?_
      rintro e w1 ⟨rfl, hb1⟩
      go_wp2
      go_returns
      exact ListPost.no HF.out hb1
    · rw [decide_eq_false h47] at e1
      rw [hpo] at HB
      clear h47 hpo
      go_enter Tryz.func28, Tryz.ntmps28
      go_wp2_with fail
      refine HB.out.mono ?_
      rintro e w1 ⟨rfl, hb1⟩
      go_wp2_with fail
      refine (HKI.out _ hb1).mono ?_
      rintro e w2 ⟨rfl, hb2⟩
      go_wp2
      go_returns
      exact ListPost.no HF.out (hb1.trans (hb2.mono hb1.size))
  have q0 : (kk == 0) = false := beq_eq_false_iff_ne.2 h0
  by_cases h1 : kk = 1
  · have HF : Hid (Disk.listR l p = ([], 13)) := Lib.hid (by rw [HRES.out, if_neg h0, if_pos h1])
    have q1 : (kk == 1) = true := beq_iff_eq.2 h1
    clear h0 h1
    rcases GATE with h47 | ⟨h47, hpo⟩
    · rw [decide_eq_true h47] at e1
      clear h47
      go_enter Tryz.func28, Tryz.ntmps28
      go_wp2_with fail
      refine (HKI.out _ (Below.refl _ _)).mono ?_
      rintro e w1 ⟨rfl, hb1⟩
      go_wp2
      go_returns
      exact ListPost.no HF.out hb1
    · rw [decide_eq_false h47] at e1
      rw [hpo] at HB
      clear h47 hpo
      go_enter Tryz.func28, Tryz.ntmps28
      go_wp2_with fail
      refine HB.out.mono ?_
      rintro e w1 ⟨rfl, hb1⟩
      go_wp2_with fail
      refine (HKI.out _ hb1).mono ?_
      rintro e w2 ⟨rfl, hb2⟩
      go_wp2
      go_returns
      exact ListPost.no HF.out (hb1.trans (hb2.mono hb1.size))
  have q1 : (kk == 1) = false := beq_eq_false_iff_ne.2 h1
  have HF : Hid (Disk.listR l p = (Disk.names l p, 0)) := Lib.hid (by rw [HRES.out, if_neg h0, if_neg h1])
  clear h0 h1
  rcases GATE with h47 | ⟨h47, hpo⟩
  · rw [decide_eq_true h47] at e1
    clear h47
    go_enter Tryz.func28, Tryz.ntmps28
    go_wp2_with fail
    refine (HKI.out _ (Below.refl _ _)).mono ?_
    rintro e w3 ⟨rfl, hb3⟩
    have HBW := Lib.hid hb3
    have HT3 := Lib.hid (HT2.out _ hb3)
    have d3 := HT3.out.1
    clear hb3
    go_wp2_with (first | (at_range; refine wpList_range elT rfl _ 55 rfl 63 Tryz.underlying9 Tryz.underlying55 rfl HT3.out.2 ?_; intro w4 cnt0 hrg hg4 hs4))
    try go_frame
    obtain ⟨r0, hr0⟩ : ∃ r, r = w3.heap.size := ⟨_, rfl⟩
    rw [← hr0] at hrg hs4 ⊢
    have HB4 : Hid (Below w.heap.size w w4) := Lib.hid (HBW.out.grown hg4 (by have := HBW.out.size; omega) (fun j hj => by cases hj))
    have hz3 : w.heap.size ≤ r0 := by have := HBW.out.size; omega
    clear hr0 hg4
    go_loopw [6] (fun q wr => ∃ (left : List UInt8 → Bool) (cnt : Nat) (X : List (List UInt8)) (vv : Value), vv = q ∧ SRange Tryz.prog 9 elT wr bm r0 n l left cnt ∧ X.Perm (Disk.listed left l p) ∧ SRow wr (r0 + 1) vv X ∧ Below w.heap.size w wr ∧ r0 + 1 ≤ wr.heap.size) (fun _ wr => wr.rangeLeft bm r0)
    case atStart => exact ⟨_, _, [], _, rfl, hrg, by rw [Disk.listed_start HRI.out], World.ownsRow_nil _ _ _ _, HB4.out, by omega⟩
    case round =>
      obtain ⟨left, cnt, X, v, rfl, hrg2, hX, hrow, hBr, hsz⟩ := hrel
      obtain ⟨wo, rfl⟩ : ∃ x, x = wr := ⟨wr, rfl⟩
      have HRG := Lib.hid hrg2
      have HX := Lib.hid hX
      have HROW0 : Hid (SRow wo (r0 + 1) v X) := Lib.hid hrow
      have HBR := Lib.hid hBr
      have hXl : X.length ≤ 1099511627776 := by rw [hX.length_eq]; exact Nat.le_trans (Disk.listed_length _ _ _) hn
      clear hrg hs4 hrg2 hX hBr
      obtain ⟨av, cv, rfl⟩ := own_form hrow
      obtain ⟨M, hMM⟩ : ∃ M, M = X.length := ⟨_, rfl⟩
      have HROW : Hid (World.ownsRow wo (r0 + 1) 9 1 (.slice av M cv) M (X.flatMap enc1)) := Lib.hid (by rw [hMM]; exact hrow)
      rw [← hMM] at hXl HROW0 ⊢
      have HMM := Lib.hid hMM
      clear hrow hMM
      go_wp2_with (first | (at_next; refine wpList_next elT rfl _ rfl Tryz.underlying9 (fun c => .agg #[.bool c.dir, .string (bs c.data)]) (fun c => rfl) rfl HRG.out ?_ ?_))
      · intro hno
        have HSORT := Lib.hid (sortS_any HROW0.out (by have := HX.out; rwa [Disk.listed_end hno] at this) (Disk.names_rise HRI.out HOK.out p) (by have := HMM.out; omega))
        clear hno
        go_wp2_with fail
        refine HSORT.out.mono ?_
        rintro e w5 ⟨rfl, hr5, hg5⟩
        have HR5 := Lib.hid hr5
        have HB5 := Lib.hid (HBR.out.grown hg5 HBR.out.size (fun g hg => by have := (World.ownsRow.lt HROW.out g hg).1; omega))
        clear hr5 hg5
        go_wp2
        go_returns
        refine ⟨.slice av M cv, by rw [HF.out] <;> rfl, ?_, HB5.out⟩
        rw [HF.out]
        exact own_mono HR5.out (by omega)
      · intro s c w5 cnt1 hls hlk hss hrg5 hlt hg5 hs5 hen
        have HLT := Lib.hid hlt
        have HRG5 := Lib.hid hrg5
        have HB5 := Lib.hid (HBR.out.grown hg5 HBR.out.size (fun j hj => by cases hj; exact hz3))
        have HROW5 : Hid (World.ownsRow w5 (r0 + 1) 9 1 (.slice av M cv) M (X.flatMap enc1)) := Lib.hid (World.ownsRow.kept HROW.out hg5 (by
          cases ho : (Value.slice av M cv).ownBlock with
          | none => exact Or.inl rfl
          | some g => exact Or.inr (fun e => by have := (World.ownsRow.lt HROW.out g ho).1; have := Option.some.inj e; omega)))
        have hz5 : r0 + 1 ≤ w5.heap.size := by omega
        clear hs5
        have HNM : Hid (some bm ≠ (Value.slice av M cv).ownBlock) := Lib.hid (fun e => by have := (World.ownsRow.lt HROW.out bm e.symm).1; omega)
        have hso := HOK.out _ (SM.look_some hlk)
        dsimp only at hso
        have hsl := Disk.pathOk_length hso
        have hsz2 : s.size ≤ 4096 := by simpa using hsl
        have HPAR := Lib.hid (parent_any s (by omega))
        obtain ⟨q, hq⟩ : ∃ q, q = Disk.parent s.data.toList := ⟨_, rfl⟩
        rw [← hq] at HPAR
        have hqe := sv_inj (a := q) (b := p)
        by_cases he : q = p
        · have hpar : Disk.parent s.data.toList = p := by rw [← hq]; exact he
          have HST := Lib.hid (Disk.listed_in HRI.out hlk hls HX.out hpar)
          have hlast := Disk.last_pre s hso hpar
          have hsplit := Disk.parent_split hso hpar
          obtain ⟨K, hK⟩ : ∃ K, K = (Disk.pre p).length := ⟨_, rfl⟩
          have hKs : K ≤ s.size := by
            have := congrArg List.length hsplit
            rw [List.length_append, ← hK] at this
            have h2 : s.data.toList.length = s.size := by simp
            omega
          have HX2 : Hid (s.extract K s.size = bs (Disk.nm p s.data.toList)) := Lib.hid (by
            rw [← bs_of (s.extract K s.size)]
            congr 1
            unfold Disk.nm
            rw [← hK]
            simp [List.extract]
            exact List.take_of_length_le (by simp))
          have hlastK : Go.Lib.lastIndexByte s 47 = (K : Int) - 1 := by rw [← hK] at hlast; omega
          have HLI : Hid (∀ w, Calls Tryz.prog 57 #[.string s, .int .u8 47] w fun e w' => e = .returned (.int .i64 ((K : Int) - 1)) ∧ w' = w) := Lib.hid (fun w => by rw [← hlastK]; exact Tryz.strings_LastIndexByte s 47 (by omega) w)
          have hw : IntKind.i64.wrap ((K : Int) - 1 + 1) = (K : Int) := by rw [IntWalk.i64_in _ (by omega)]; omega
          have hw2 : (K : Int) - 1 + 1 = (K : Int) := by omega
          have hwK : IntKind.i64.wrap (K : Int) = (K : Int) := IntWalk.i64_in _ (by omega)
          have hK0 : (0 : Int) ≤ (K : Int) := by omega
          have hKI : (K : Int) ≤ (s.size : Int) := by omega
          rw [decide_eq_true he] at hqe
          clear he hpar hlast hsplit hK hlastK hls hlk hrg5 hlt hg5 hq hso hsl hss
          go_wp2_with fail
          refine (HPAR.out _).mono ?_
          rintro e w6 ⟨rfl, rfl⟩
          obtain ⟨w5, rfl⟩ : ∃ x, x = w6 := ⟨w6, rfl⟩
          go_wp2_with fail
          refine (HLI.out _).mono ?_
          rintro e w6 ⟨rfl, rfl⟩
          obtain ⟨w5, rfl⟩ : ∃ x, x = w6 := ⟨w6, rfl⟩
          go_wp2_with (first | (at_builtin; refine wpList_append_own_at _ rfl _ _ 65 rfl (r0 + 1) 9 i0 (.string ByteArray.empty) 1 16 Tryz.underlying65 hi hz0 hz1 hz2 rfl (by decide) _ _ _ rfl (World.ownsRow.alloc HROW5.out _) ⟨w5.heap.size, 0, none⟩ 1 1 [.string (s.extract K s.size)] rfl rfl (new_cells2 _ _ (by first | rfl | simp) _ _) (fun x hx => by simp at hx; rcases hx with rfl; rfl) (by unfold maxLen; omega) (by omega) (by simp; omega) ?_; intro v8 w8 hown8 hgrow8 _ hloc8))
          have HB8 := Lib.hid ((HB5.out.alloc (by omega) _).grown hgrow8 (by simp; omega) (fun g hg => by have := (World.ownsRow.lt HROW5.out g hg).1; omega))
          have HRG8 := Lib.hid ((HRG5.out.alloc _).kept hgrow8 HNM.out (fun e => by have := (World.ownsRow.lt HROW5.out _ e.symm).1; omega))
          have hz8 := hgrow8.size
          have HO8 : Hid (SRow w8 (r0 + 1) v8 (X ++ [Disk.nm p s.data.toList])) := Lib.hid (SRow.snoc (by rw [← HX2.out]; exact hown8) HMM.out.symm)
          obtain ⟨a8, c8, rfl⟩ := own_form hown8
          clear hown8 hgrow8 hloc8
          go_roundw
          case rel => exact ⟨_, cnt1, _, _, rfl, HRG8.out, HST.out, HO8.out, HB8.out, by simp at hz8; omega⟩
          case measure => rw [HRG8.out.left_eq, HRG.out.left_eq]; exact HLT.out
        · have HST := Lib.hid (Disk.listed_out HRI.out hlk hls HX.out (by rw [← hq]; exact he))
          rw [decide_eq_false he] at hqe
          clear he hls hlk hrg5 hlt hg5 hq hso hsl hss
          go_wp2_with fail
          refine (HPAR.out _).mono ?_
          rintro e w6 ⟨rfl, rfl⟩
          obtain ⟨w5, rfl⟩ : ∃ x, x = w6 := ⟨w6, rfl⟩
          go_wp2
          go_roundw
          case rel => exact ⟨_, cnt1, X, _, rfl, HRG5.out, HST.out, by have := HROW5.out; rw [HMM.out] at this ⊢; exact this, HB5.out, by omega⟩
          case measure => rw [HRG5.out.left_eq, HRG.out.left_eq]; exact HLT.out
  · rw [decide_eq_false h47] at e1
    rw [hpo] at HB
    clear h47 hpo
    go_enter Tryz.func28, Tryz.ntmps28
    go_wp2_with fail
    refine HB.out.mono ?_
    rintro e w1 ⟨rfl, hb1⟩
    go_wp2_with fail
    refine (HKI.out _ hb1).mono ?_
    rintro e w3 ⟨rfl, hb2⟩
    have HBW := Lib.hid (hb1.trans (hb2.mono hb1.size))
    have HT3 := Lib.hid (HT2.out _ HBW.out)
    have d3 := HT3.out.1
    clear hb1 hb2
    go_wp2_with (first | (at_range; refine wpList_range elT rfl _ 55 rfl 63 Tryz.underlying9 Tryz.underlying55 rfl HT3.out.2 ?_; intro w4 cnt0 hrg hg4 hs4))
    try go_frame
    obtain ⟨r0, hr0⟩ : ∃ r, r = w3.heap.size := ⟨_, rfl⟩
    rw [← hr0] at hrg hs4 ⊢
    have HB4 : Hid (Below w.heap.size w w4) := Lib.hid (HBW.out.grown hg4 (by have := HBW.out.size; omega) (fun j hj => by cases hj))
    have hz3 : w.heap.size ≤ r0 := by have := HBW.out.size; omega
    clear hr0 hg4
    go_loopw [6] (fun q wr => ∃ (left : List UInt8 → Bool) (cnt : Nat) (X : List (List UInt8)) (vv : Value), vv = q ∧ SRange Tryz.prog 9 elT wr bm r0 n l left cnt ∧ X.Perm (Disk.listed left l p) ∧ SRow wr (r0 + 1) vv X ∧ Below w.heap.size w wr ∧ r0 + 1 ≤ wr.heap.size) (fun _ wr => wr.rangeLeft bm r0)
    case atStart => exact ⟨_, _, [], _, rfl, hrg, by rw [Disk.listed_start HRI.out], World.ownsRow_nil _ _ _ _, HB4.out, by omega⟩
    case round =>
      obtain ⟨left, cnt, X, v, rfl, hrg2, hX, hrow, hBr, hsz⟩ := hrel
      obtain ⟨wo, rfl⟩ : ∃ x, x = wr := ⟨wr, rfl⟩
      have HRG := Lib.hid hrg2
      have HX := Lib.hid hX
      have HROW0 : Hid (SRow wo (r0 + 1) v X) := Lib.hid hrow
      have HBR := Lib.hid hBr
      have hXl : X.length ≤ 1099511627776 := by rw [hX.length_eq]; exact Nat.le_trans (Disk.listed_length _ _ _) hn
      clear hrg hs4 hrg2 hX hBr
      obtain ⟨av, cv, rfl⟩ := own_form hrow
      obtain ⟨M, hMM⟩ : ∃ M, M = X.length := ⟨_, rfl⟩
      have HROW : Hid (World.ownsRow wo (r0 + 1) 9 1 (.slice av M cv) M (X.flatMap enc1)) := Lib.hid (by rw [hMM]; exact hrow)
      rw [← hMM] at hXl HROW0 ⊢
      have HMM := Lib.hid hMM
      clear hrow hMM
      go_wp2_with (first | (at_next; refine wpList_next elT rfl _ rfl Tryz.underlying9 (fun c => .agg #[.bool c.dir, .string (bs c.data)]) (fun c => rfl) rfl HRG.out ?_ ?_))
      · intro hno
        have HSORT := Lib.hid (sortS_any HROW0.out (by have := HX.out; rwa [Disk.listed_end hno] at this) (Disk.names_rise HRI.out HOK.out p) (by have := HMM.out; omega))
        clear hno
        go_wp2_with fail
        refine HSORT.out.mono ?_
        rintro e w5 ⟨rfl, hr5, hg5⟩
        have HR5 := Lib.hid hr5
        have HB5 := Lib.hid (HBR.out.grown hg5 HBR.out.size (fun g hg => by have := (World.ownsRow.lt HROW.out g hg).1; omega))
        clear hr5 hg5
        go_wp2
        go_returns
        refine ⟨.slice av M cv, by rw [HF.out] <;> rfl, ?_, HB5.out⟩
        rw [HF.out]
        exact own_mono HR5.out (by omega)
      · intro s c w5 cnt1 hls hlk hss hrg5 hlt hg5 hs5 hen
        have HLT := Lib.hid hlt
        have HRG5 := Lib.hid hrg5
        have HB5 := Lib.hid (HBR.out.grown hg5 HBR.out.size (fun j hj => by cases hj; exact hz3))
        have HROW5 : Hid (World.ownsRow w5 (r0 + 1) 9 1 (.slice av M cv) M (X.flatMap enc1)) := Lib.hid (World.ownsRow.kept HROW.out hg5 (by
          cases ho : (Value.slice av M cv).ownBlock with
          | none => exact Or.inl rfl
          | some g => exact Or.inr (fun e => by have := (World.ownsRow.lt HROW.out g ho).1; have := Option.some.inj e; omega)))
        have hz5 : r0 + 1 ≤ w5.heap.size := by omega
        clear hs5
        have HNM : Hid (some bm ≠ (Value.slice av M cv).ownBlock) := Lib.hid (fun e => by have := (World.ownsRow.lt HROW.out bm e.symm).1; omega)
        have hso := HOK.out _ (SM.look_some hlk)
        dsimp only at hso
        have hsl := Disk.pathOk_length hso
        have hsz2 : s.size ≤ 4096 := by simpa using hsl
        have HPAR := Lib.hid (parent_any s (by omega))
        obtain ⟨q, hq⟩ : ∃ q, q = Disk.parent s.data.toList := ⟨_, rfl⟩
        rw [← hq] at HPAR
        have hqe := sv_inj (a := q) (b := p)
        by_cases he : q = p
        · have hpar : Disk.parent s.data.toList = p := by rw [← hq]; exact he
          have HST := Lib.hid (Disk.listed_in HRI.out hlk hls HX.out hpar)
          have hlast := Disk.last_pre s hso hpar
          have hsplit := Disk.parent_split hso hpar
          obtain ⟨K, hK⟩ : ∃ K, K = (Disk.pre p).length := ⟨_, rfl⟩
          have hKs : K ≤ s.size := by
            have := congrArg List.length hsplit
            rw [List.length_append, ← hK] at this
            have h2 : s.data.toList.length = s.size := by simp
            omega
          have HX2 : Hid (s.extract K s.size = bs (Disk.nm p s.data.toList)) := Lib.hid (by
            rw [← bs_of (s.extract K s.size)]
            congr 1
            unfold Disk.nm
            rw [← hK]
            simp [List.extract]
            exact List.take_of_length_le (by simp))
          have hlastK : Go.Lib.lastIndexByte s 47 = (K : Int) - 1 := by rw [← hK] at hlast; omega
          have HLI : Hid (∀ w, Calls Tryz.prog 57 #[.string s, .int .u8 47] w fun e w' => e = .returned (.int .i64 ((K : Int) - 1)) ∧ w' = w) := Lib.hid (fun w => by rw [← hlastK]; exact Tryz.strings_LastIndexByte s 47 (by omega) w)
          have hw : IntKind.i64.wrap ((K : Int) - 1 + 1) = (K : Int) := by rw [IntWalk.i64_in _ (by omega)]; omega
          have hw2 : (K : Int) - 1 + 1 = (K : Int) := by omega
          have hwK : IntKind.i64.wrap (K : Int) = (K : Int) := IntWalk.i64_in _ (by omega)
          have hK0 : (0 : Int) ≤ (K : Int) := by omega
          have hKI : (K : Int) ≤ (s.size : Int) := by omega
          rw [decide_eq_true he] at hqe
          clear he hpar hlast hsplit hK hlastK hls hlk hrg5 hlt hg5 hq hso hsl hss
          go_wp2_with fail
          refine (HPAR.out _).mono ?_
          rintro e w6 ⟨rfl, rfl⟩
          obtain ⟨w5, rfl⟩ : ∃ x, x = w6 := ⟨w6, rfl⟩
          go_wp2_with fail
          refine (HLI.out _).mono ?_
          rintro e w6 ⟨rfl, rfl⟩
          obtain ⟨w5, rfl⟩ : ∃ x, x = w6 := ⟨w6, rfl⟩
          go_wp2_with (first | (at_builtin; refine wpList_append_own_at _ rfl _ _ 65 rfl (r0 + 1) 9 i0 (.string ByteArray.empty) 1 16 Tryz.underlying65 hi hz0 hz1 hz2 rfl (by decide) _ _ _ rfl (World.ownsRow.alloc HROW5.out _) ⟨w5.heap.size, 0, none⟩ 1 1 [.string (s.extract K s.size)] rfl rfl (new_cells2 _ _ (by first | rfl | simp) _ _) (fun x hx => by simp at hx; rcases hx with rfl; rfl) (by unfold maxLen; omega) (by omega) (by simp; omega) ?_; intro v8 w8 hown8 hgrow8 _ hloc8))
          have HB8 := Lib.hid ((HB5.out.alloc (by omega) _).grown hgrow8 (by simp; omega) (fun g hg => by have := (World.ownsRow.lt HROW5.out g hg).1; omega))
          have HRG8 := Lib.hid ((HRG5.out.alloc _).kept hgrow8 HNM.out (fun e => by have := (World.ownsRow.lt HROW5.out _ e.symm).1; omega))
          have hz8 := hgrow8.size
          have HO8 : Hid (SRow w8 (r0 + 1) v8 (X ++ [Disk.nm p s.data.toList])) := Lib.hid (SRow.snoc (by rw [← HX2.out]; exact hown8) HMM.out.symm)
          obtain ⟨a8, c8, rfl⟩ := own_form hown8
          clear hown8 hgrow8 hloc8
          go_roundw
          case rel => exact ⟨_, cnt1, _, _, rfl, HRG8.out, HST.out, HO8.out, HB8.out, by simp at hz8; omega⟩
          case measure => rw [HRG8.out.left_eq, HRG.out.left_eq]; exact HLT.out
        · have HST := Lib.hid (Disk.listed_out HRI.out hlk hls HX.out (by rw [← hq]; exact he))
          rw [decide_eq_false he] at hqe
          clear he hls hlk hrg5 hlt hg5 hq hso hsl hss
          go_wp2_with fail
          refine (HPAR.out _).mono ?_
          rintro e w6 ⟨rfl, rfl⟩
          obtain ⟨w5, rfl⟩ : ∃ x, x = w6 := ⟨w6, rfl⟩
          go_wp2
          go_roundw
          case rel => exact ⟨_, cnt1, X, _, rfl, HRG5.out, HST.out, by have := HROW5.out; rw [HMM.out] at this ⊢; exact this, HB5.out, by omega⟩
          case measure => rw [HRG5.out.left_eq, HRG.out.left_eq]; exact HLT.out
end Go.Proofs.YtdogacgpfnolfaaGreatDoor
