/- What a disk tells: All, Raws, Read; the power: the walks. -/
import Derived.Test.YtdogacgpfnolfaaGreatDoorDkA
import Derived.Test.YtdogacgpfnolfaaGreatDoorRaws
import Derived.Test.YtdogacgpfnolfaaGreatDoorSorts
import Derived.Test.YtdogacgpfnolfaaGreatDoorSortRow
namespace Go.Proofs.YtdogacgpfnolfaaGreatDoor
open Go.RowKit Go.Maps Go.Sort
set_option linter.unusedSimpArgs false
set_option linter.unusedVariables false
namespace Disk
def encF (x : List UInt8 × T) : Dd := ⟨if x.2.dir then 1 else 0, x.1, x.2.data⟩
def decF (d : Dd) : Fl := ⟨d.path, decide (d.kind = 1), d.data⟩
theorem dec_enc (x : List UInt8 × T) : decF (encF x) = ⟨x.1, x.2.dir, x.2.data⟩ := by
  obtain ⟨p, ⟨d, t⟩⟩ := x
  cases d <;> rfl
/-- What has been told of what is not to come. -/
def told (left : List UInt8 → Bool) (l : M) : List Fl := (part left (fun _ => 0) 0 encF l).map decF
theorem told_length (left : List UInt8 → Bool) (l : M) : (told left l).length ≤ l.length := by
  unfold told
  rw [List.length_map]
  exact part_length _ _ _ _ _
theorem told_start {l : M} (hl : SM.Rises l) : told (fun p => (SM.look l p).isSome) l = [] := by unfold told; rw [part_start _ _ _ hl]; rfl
theorem told_end {left : List UInt8 → Bool} (h : ∀ p, left p = false) (l : M) : told left l = fls l := by
  unfold told fls
  rw [part_end h]
  unfold pick
  have e : (l.filter fun x => (fun _ : List UInt8 × T => (0 : Nat)) x == 0) = l := List.filter_eq_self.2 (fun _ _ => rfl)
  rw [e, List.map_map]
  exact List.map_congr_left (fun x _ => dec_enc x)
theorem told_step {left : List UInt8 → Bool} {l : M} (hr : SM.Rises l) {p : List UInt8} {t : T} (hl : SM.look l p = some t) (hp : left p = true) {X : List Fl} (hX : X.Perm (told left l)) : (X ++ [(⟨p, t.dir, t.data⟩ : Fl)]).Perm (told (fun q => left q && !(q == p)) l) := by
  have h := (part_step (c := fun _ => 0) (k := 0) (f := encF) hr hl hp).map decF
  rw [if_pos (by decide), List.map_append, List.map_singleton, dec_enc] at h
  exact (hX.append_right _).trans h.symm
end Disk
instance inhFl : Inhabited Disk.Fl := ⟨⟨[], false, []⟩⟩
theorem flCells_length (d : Disk.Fl) : (flCells d).length = 3 := rfl
theorem one3F : ∀ x, ∀ v ∈ flCells x, v.oneCell' = true := fun x v hv => by
  simp [flCells] at hv
  rcases hv with rfl | rfl | rfl <;> rfl
def cfF (x y : Disk.Fl) : Int := Go.Lib.compareBytes x.path y.path
theorem ltF : Go.Proofs.ltOf cfF = fun x y => bytesBefore x.path y.path := by
  funext x y
  exact compare_before x.path y.path
theorem fls_rise {l : Disk.M} (h : SM.Rises l) : (fls l).Pairwise fun x y => bytesBefore x.path y.path = true := by
  unfold fls
  rw [List.pairwise_map]
  exact h.imp id
set_option maxHeartbeats 1000000 in
set_option maxRecDepth 100000 in
theorem closureF_any (x y : Disk.Fl) (W : World) : Calls Tryz.prog 32 #[.agg (flCells x).toArray, .agg (flCells y).toArray] W fun e w' => e = .returned (.int .i64 (cfF x y)) ∧ ∃ q os', w' = grow (W.drewN q) os' := by
  have hcon : ∀ W, Calls Tryz.prog 33 #[.string (bs x.path), .string (bs y.path)] W fun e w' => e = .returned (.int .i64 (cfF x y)) ∧ w' = W := fun W => Tryz.strings_Compare (bs x.path) (bs y.path) W
  have HC := Lib.hid hcon
  clear hcon
  obtain ⟨r, hr⟩ : ∃ r, r = cfF x y := ⟨_, rfl⟩
  rw [← hr] at HC ⊢
  clear hr
  show Calls Tryz.prog 32 #[.agg #[.string (bs x.path), .bool x.dir, .string (bs x.data)], .agg #[.string (bs y.path), .bool y.dir, .string (bs y.data)]] W _
  go_enter Tryz.func32, Tryz.ntmps32
  go_wp2_with fail
  refine (HC.out _).mono ?_
  rintro e w1 ⟨rfl, rfl⟩
  go_wp2
  go_returns
  exact ⟨rfl, 0, _, by rw [alloc_eq_grow, alloc_eq_grow, grow_grow]; rfl⟩
/-- The sort of files by their paths. -/
theorem sortF_any {w : World} {base : Nat} {v : Value} {ds S : List Disk.Fl} (h : FRow w base v ds) (hp : ds.Perm S) (hS : S.Pairwise fun x y => bytesBefore x.path y.path = true) (hn : ds.length < 4611686018427387904) :
    Calls Tryz.prog 31 #[v, .func (.func 32) #[] #[]] w fun e w' => e = .returned (.tuple #[]) ∧ FRow w' base v S ∧ w.grownBy w' v.ownBlock := by
  rcases Nat.eq_zero_or_pos ds.length with h0 | h0
  · have e1 : ds = [] := List.length_eq_zero_iff.1 h0
    subst e1
    have e2 : S = [] := List.nil_perm.1 hp
    subst e2
    obtain ⟨a, c, rfl⟩ := own_form h
    have hcon := AnyF.slices_SortFunc_none (P := Tryz.prog) { Tryz.sortFile with } a c (.func (.func 32) #[] #[]) w
    change Calls Tryz.prog 31 _ _ _ at hcon
    refine hcon.mono ?_
    rintro e w1 ⟨rfl, rfl⟩
    exact ⟨rfl, h, ⟨rfl, rfl, rfl, Nat.le_refl _, fun _ _ _ => rfl⟩⟩
  · obtain ⟨g, cap, rfl, hg, hbg, hH, hall⟩ := own_sortK flCells_length h h0
    have eg : ∀ args w, (callFunc 32 args).run Tryz.prog w = .ok (.enter 32 args) w := enters_of Tryz.func32 (by kernel_rfl) rfl
    have hcon := AnyQ.slices_SortFunc (P := Tryz.prog) Tryz.sortFile 3 Tryz.isAgg70 Tryz.sizeOf70 flCells flCells_length one3F cfF (by rw [ltF]; exact swo_before _) 32 #[] g 0 cap ds.toArray w eg
      (fun m os dk hs x y => closureF_any x y _) hH hg (by simpa using hn)
    rw [List.size_toArray, ltF] at hcon
    change Calls Tryz.prog 31 _ _ _ at hcon
    refine hcon.mono ?_
    rintro e w1 ⟨rfl, d', n, os, hp1, hs1, rfl⟩
    have hd := sort_unique (fun d : Disk.Fl => d.path) hp1 hs1 hS hp
    subst hd
    have hr := hall S hp.length_eq.symm n os
    refine ⟨rfl, ?_, hr.2⟩
    have h1 := hr.1
    rw [hp.length_eq] at h1 ⊢
    exact h1
theorem FRow.not_map {P : Program} {k : TypeId} {α : Type} {E : El α} {w : World} {base b n : Nat} {v : Value} {ds : List Disk.Fl} {l : List (List UInt8 × α)} (h : FRow w base v ds) (hm : SMap P k E w b n l) : some b ≠ v.ownBlock := fun e => by
  rcases h.2 with ⟨rfl, _⟩ | ⟨g, cap, cur, rfl, _, h2, _⟩
  · cases e
  · obtain ⟨⟨es, clock, h1, _⟩, _⟩ := hm
    have e : b = g := by cases e; rfl
    subst e
    rw [h2] at h1
    cases h1
set_option maxHeartbeats 4000000 in
set_option maxRecDepth 100000 in
theorem all_any {w : World} {sd bm n : Nat} {l : Disk.M} (hT : w.cell? ⟨sd, 0, none⟩ = some (.map (some bm))) (hM : Things w bm n l) (hn : l.length ≤ 1099511627776) :
    Calls Tryz.prog 15 #[.pointer (some ⟨sd, 0, none⟩)] w fun e w' => ∃ v, e = .returned v ∧ FRow w' w.heap.size v (fls l) ∧ Below w.heap.size w w' := by
  obtain ⟨i0, hi, hz0, hz1, hz2⟩ := info_parts infoFl
  have HM := Lib.hid hM
  have hbm := hM.lt
  have HRI := Lib.hid hM.rises
  clear hM
  go_enter Tryz.func15, Tryz.ntmps15
  go_wp2_with (first | (at_range; refine wpList_range elT rfl _ 55 rfl 63 Tryz.underlying9 Tryz.underlying55 rfl HM.out ?_; intro w1 cnt0 hrg hg1 hs1))
  try go_frame
  have HB1 : Hid (Below w.heap.size w w1) := Lib.hid ((Below.refl _ _).grown hg1 (Nat.le_refl _) (fun j hj => by cases hj))
  go_loopw [3] (fun q wr => ∃ (left : List UInt8 → Bool) (cnt : Nat) (X : List Disk.Fl) (vv : Value), vv = q ∧ SRange Tryz.prog 9 elT wr bm w.heap.size n l left cnt ∧ X.Perm (Disk.told left l) ∧ FRow wr (w.heap.size + 1) vv X ∧ Below w.heap.size w wr ∧ w.heap.size + 1 ≤ wr.heap.size) (fun _ wr => wr.rangeLeft bm w.heap.size)
  case atStart => exact ⟨_, _, [], _, rfl, hrg, by rw [Disk.told_start HRI.out], World.ownsRow_nil _ _ _ _, HB1.out, by omega⟩
  case round =>
    obtain ⟨left, cnt, X, v, rfl, hrg2, hX, hrow, hBr, hsz⟩ := hrel
    obtain ⟨wo, rfl⟩ : ∃ x, x = wr := ⟨wr, rfl⟩
    have HRG := Lib.hid hrg2
    have HX := Lib.hid hX
    have HROW0 : Hid (FRow wo (w.heap.size + 1) v X) := Lib.hid hrow
    have HBR := Lib.hid hBr
    have hXl : X.length ≤ 1099511627776 := by rw [hX.length_eq]; exact Nat.le_trans (Disk.told_length _ _) hn
    clear hrg hg1 hs1 hrg2 hX hBr
    obtain ⟨av, cv, rfl⟩ := own_form hrow
    obtain ⟨M, hMM⟩ : ∃ M, M = X.length := ⟨_, rfl⟩
    have HROW : Hid (World.ownsRow wo (w.heap.size + 1) 70 3 (.slice av M cv) M (X.flatMap flCells)) := Lib.hid (by rw [hMM]; exact hrow)
    rw [← hMM] at hXl HROW0 ⊢
    have HMM := Lib.hid hMM
    clear hrow hMM
    go_wp2_with (first | (at_next; refine wpList_next elT rfl _ rfl Tryz.underlying9 (fun c => .agg #[.bool c.dir, .string (bs c.data)]) (fun c => rfl) rfl HRG.out ?_ ?_))
    · intro hno
      have HSORT := Lib.hid (sortF_any HROW0.out (by have := HX.out; rwa [Disk.told_end hno] at this) (fls_rise HRI.out) (by have := HMM.out; omega))
      clear hno
      go_wp2_with fail
      refine HSORT.out.mono ?_
      rintro e w2 ⟨rfl, hr2, hg2⟩
      have HR2 := Lib.hid hr2
      have HB2 := Lib.hid (HBR.out.grown hg2 HBR.out.size (fun g hg => by have := (World.ownsRow.lt HROW.out g hg).1; omega))
      clear hr2 hg2
      go_wp2
      go_returns
      exact ⟨_, rfl, own_mono HR2.out (by omega), HB2.out⟩
    · intro s c w4 cnt1 hls hlk hss hrg4 hlt hg4 hs4 hen
      have HST := Lib.hid (Disk.told_step HRI.out hlk hls HX.out)
      have HLT := Lib.hid hlt
      have HRG4 := Lib.hid hrg4
      have HB4 := Lib.hid (HBR.out.grown hg4 HBR.out.size (fun j hj => by cases hj; exact Nat.le_refl _))
      have HROW4 : Hid (World.ownsRow w4 (w.heap.size + 1) 70 3 (.slice av M cv) M (X.flatMap flCells)) := Lib.hid (World.ownsRow.kept HROW.out hg4 (by
        cases ho : (Value.slice av M cv).ownBlock with
        | none => exact Or.inl rfl
        | some g => exact Or.inr (fun e => by have := (World.ownsRow.lt HROW.out g ho).1; have := Option.some.inj e; omega)))
      have HES : Hid (s = bs s.data.toList) := Lib.hid (bs_of s).symm
      have HZ4 : Hid (w4.heap.size = wo.heap.size) := Lib.hid hs4
      have hz4 : w.heap.size + 1 ≤ w4.heap.size := by omega
      have HE4 : Hid (bm < w4.heap.size) := Lib.hid hrg4.owns.lt
      have HNM : Hid (some bm ≠ (Value.slice av M cv).ownBlock) := Lib.hid (HROW0.out.not_map HRG.out.owns)
      clear hls hlk hrg4 hlt hg4 hs4
      go_wp2_with (first | (at_builtin; refine wpList_append_own_at _ rfl _ _ 22 rfl (w.heap.size + 1) 70 i0 (.agg #[.string ByteArray.empty, .bool false, .string ByteArray.empty]) 3 40 Tryz.underlying22 hi hz0 hz1 hz2 rfl (by decide) _ _ _ rfl (World.ownsRow.alloc (World.ownsRow.alloc HROW4.out _) _) ⟨w4.heap.size + 1, 0, none⟩ 1 1 [.string s, .bool c.dir, .string (bs c.data)] rfl rfl (new_cells2 _ _ (by first | rfl | simp) _ _) (fun x hx => by simp at hx; rcases hx with rfl | rfl | rfl <;> rfl) (by unfold maxLen; omega) (by omega) (by simp; omega) ?_; intro v8 w8 hown8 hgrow8 _ hloc8))
      have HB8 := Lib.hid (((HB4.out.alloc (by omega) _).alloc (by simp; omega) _).grown hgrow8 (by simp; omega) (fun g hg => by have := (World.ownsRow.lt HROW4.out g hg).1; omega))
      have HRG8 := Lib.hid (((HRG4.out.alloc _).alloc _).kept hgrow8 HNM.out (fun e => by have := (World.ownsRow.lt HROW4.out _ e.symm).1; omega))
      have hz8 := hgrow8.size
      have HO8 : Hid (FRow w8 (w.heap.size + 1) v8 (X ++ [⟨s.data.toList, c.dir, c.data⟩])) := Lib.hid (FRow.snoc (d := ⟨s.data.toList, c.dir, c.data⟩) (by rw [HES.out] at hown8; exact hown8) HMM.out.symm)
      obtain ⟨a8, c8, rfl⟩ := own_form hown8
      clear hown8 hgrow8 hloc8
      go_roundw
      case rel => exact ⟨_, cnt1, _, _, rfl, HRG8.out, HST.out, HO8.out, HB8.out, by simp at hz8; omega⟩
      case measure => rw [HRG8.out.left_eq, HRG.out.left_eq]; exact HLT.out
end Go.Proofs.YtdogacgpfnolfaaGreatDoor
