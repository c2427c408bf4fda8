/- Deeds in order, and joined: the walks. -/
import Derived.Test.YtnfklomokjhojaaDoorDelta1
import Derived.Test.YtnfklomokjhojaaDoorSorts
import Derived.Test.YtnfklomokjhojaaDoorSortRow
import Derived.Laws.AppendOwn
import Derived.OwnWalk
import Derived.Test.YtnfklomokjhojaaDoorAppend
namespace Go.Proofs.YtnfklomokjhojaaDoor
open Go.RowKit Go.Maps Go.Sort
set_option linter.unusedSimpArgs false
set_option linter.unusedVariables false
namespace Disk
/-- A deed. -/
structure Dd where
  kind : Int
  path : List UInt8
  data : List UInt8
  deriving DecidableEq, Inhabited
end Disk
def ddCells (d : Disk.Dd) : List Value := [.int .i64 d.kind, .string (bs d.path), .string (bs d.data)]
theorem ddCells_length (d : Disk.Dd) : (ddCells d).length = 3 := rfl
/-- A row of deeds of the call's own. -/
abbrev DRow (w : World) (base : Nat) (v : Value) (ds : List Disk.Dd) : Prop := w.ownsRow base 33 3 v ds.length (ds.flatMap ddCells)
/-- The deeds stand by their paths. -/
def Rise (ds : List Disk.Dd) : Prop := ds.Pairwise fun x y => bytesBefore x.path y.path = true
def cfD (x y : Disk.Dd) : Int := Go.Lib.compareBytes x.path y.path
theorem ltD : Go.Proofs.ltOf cfD = fun x y => bytesBefore x.path y.path := by
  funext x y
  exact compare_before x.path y.path
set_option maxHeartbeats 1000000 in
set_option maxRecDepth 100000 in
theorem closure_any (x y : Disk.Dd) (W : World) : Calls Tryd.prog 56 #[.agg (ddCells x).toArray, .agg (ddCells y).toArray] W fun e w' => e = .returned (.int .i64 (cfD x y)) ∧ ∃ q os', w' = grow (W.drewN q) os' := by
  have hcon : ∀ W, Calls Tryd.prog 39 #[.string (bs x.path), .string (bs y.path)] W fun e w' => e = .returned (.int .i64 (cfD x y)) ∧ w' = W := fun W => Tryd.strings_Compare (bs x.path) (bs y.path) W
  have HC := Lib.hid hcon
  clear hcon
  obtain ⟨r, hr⟩ : ∃ r, r = cfD x y := ⟨_, rfl⟩
  rw [← hr] at HC ⊢
  clear hr
  show Calls Tryd.prog 56 #[.agg #[.int .i64 x.kind, .string (bs x.path), .string (bs x.data)], .agg #[.int .i64 y.kind, .string (bs y.path), .string (bs y.data)]] W _
  go_enter Tryd.func56, Tryd.ntmps56
  go_wp2_with fail
  refine (HC.out _).mono ?_
  rintro e w1 ⟨rfl, rfl⟩
  go_wp2
  go_returns
  exact ⟨rfl, 0, _, by rw [alloc_eq_grow, alloc_eq_grow, grow_grow]; rfl⟩
theorem one3 : ∀ x, ∀ v ∈ ddCells x, v.oneCell' = true := fun x v hv => by
  simp [ddCells] at hv
  rcases hv with rfl | rfl | rfl <;> rfl
set_option maxHeartbeats 1000000 in
set_option maxRecDepth 100000 in
theorem rising_any {w : World} {base : Nat} {v : Value} {ds S : List Disk.Dd} (h : DRow w base v ds) (hp : ds.Perm S) (hS : Rise S) (hn : ds.length < 4611686018427387904) :
    Calls Tryd.prog 33 #[v] w fun e w' => e = .returned v ∧ DRow w' base v S ∧ w.grownBy w' v.ownBlock := by
  rcases Nat.eq_zero_or_pos ds.length with h0 | h0
  · have e1 : ds = [] := List.length_eq_zero_iff.1 h0
    subst e1
    have e2 : S = [] := List.nil_perm.1 hp
    subst e2
    obtain ⟨a, c, rfl⟩ := own_form h
    have hcon := fun W => AnyF.slices_SortFunc_none (P := Tryd.prog) { Tryd.sortDeed with } a c (.func (.func 56) #[] #[]) W
    change ∀ W, Calls Tryd.prog 55 _ _ _ at hcon
    have HC := Lib.hid hcon
    have H := Lib.hid h
    clear hcon h hp hS
    go_enter Tryd.func33, Tryd.ntmps33
    go_wp2_with fail
    refine (HC.out _).mono ?_
    rintro e w1 ⟨rfl, rfl⟩
    go_wp2
    go_returns
    exact ⟨rfl, H.out, ⟨rfl, rfl, rfl, Nat.le_refl _, fun _ _ _ => rfl⟩⟩
  · obtain ⟨g, cap, rfl, hg, hbg, hH, hall⟩ := own_sortK ddCells_length h h0
    have eg : ∀ args w, (callFunc 56 args).run Tryd.prog w = .ok (.enter 56 args) w := enters_of Tryd.func56 (by kernel_rfl) rfl
    have hcon := AnyQ.slices_SortFunc (P := Tryd.prog) Tryd.sortDeed 3 Tryd.isAgg33 Tryd.sizeOf33 ddCells ddCells_length one3 cfD (by rw [ltD]; exact swo_before _) 56 #[] g 0 cap ds.toArray w eg
      (fun m os dk hs x y => closure_any x y _) hH hg (by simpa using hn)
    rw [List.size_toArray, ltD] at hcon
    change Calls Tryd.prog 55 _ _ _ at hcon
    have HC := Lib.hid hcon
    have HALL := Lib.hid hall
    have HP := Lib.hid hp
    have HS := Lib.hid hS
    obtain ⟨N, hN⟩ : ∃ N, N = ds.length := ⟨_, rfl⟩
    rw [← hN] at HC ⊢
    have HN := Lib.hid hN
    clear hcon h hall hp hS hH hN
    go_enter Tryd.func33, Tryd.ntmps33
    go_wp2_with fail
    refine HC.out.mono ?_
    rintro e w1 ⟨rfl, d', n, os, hp1, hs1, rfl⟩
    rw [HN.out] at hp1 hs1
    have hd := sort_unique (fun d : Disk.Dd => d.path) hp1 hs1 HS.out HP.out
    subst hd
    have HR := Lib.hid (HALL.out S HP.out.length_eq.symm n os)
    have HSN : Hid (S.length = N) := Lib.hid (by rw [HN.out]; exact HP.out.length_eq.symm)
    clear hp1 hs1
    go_wp2
    go_returns
    exact ⟨rfl, by have := HR.out.1; rw [← HN.out] at this; exact this, HR.out.2⟩
set_option maxHeartbeats 1000000 in
set_option maxRecDepth 100000 in
theorem falling_any {w : World} {base : Nat} {v : Value} {ds S : List Disk.Dd} (h : DRow w base v ds) (hp : ds.Perm S) (hS : Rise S) (hn : ds.length < 4611686018427387904) :
    Calls Tryd.prog 32 #[v] w fun e w' => e = .returned v ∧ DRow w' base v S.reverse ∧ w.grownBy w' v.ownBlock := by
  have HRI := Lib.hid (rising_any h hp hS hn)
  have hl := hp.length_eq
  rcases Nat.eq_zero_or_pos ds.length with h0 | h0
  · have e1 : ds = [] := List.length_eq_zero_iff.1 h0
    subst e1
    have e2 : S = [] := List.nil_perm.1 hp
    subst e2
    obtain ⟨a, c, rfl⟩ := own_form h
    have hcon := fun W => AnyQ.slices_Reverse_empty (P := Tryd.prog) Tryd.reverseDeed a c W
    change ∀ W, Calls Tryd.prog 54 _ _ _ at hcon
    have HC := Lib.hid hcon
    clear hcon h hp hS hl
    go_enter Tryd.func32, Tryd.ntmps32
    go_wp2_with fail
    refine HRI.out.mono ?_
    rintro e w1 ⟨rfl, hd1, hg1⟩
    have HD := Lib.hid hd1
    clear hd1
    go_wp2_with fail
    refine (HC.out _).mono ?_
    rintro e w2 ⟨rfl, rfl⟩
    go_wp2
    go_returns
    exact ⟨rfl, HD.out, hg1⟩
  · obtain ⟨g, cap, rfl, hg⟩ : ∃ g cap, v = .slice (some ⟨g, 0, none⟩) ds.length cap ∧ g < w.heap.size := by
      obtain ⟨g, cap, h1, h2, _⟩ := own_sortK ddCells_length h h0
      exact ⟨g, cap, h1, h2⟩
    have HREV : Hid (∀ W, DRow W base (.slice (some ⟨g, 0, none⟩) ds.length cap) S → Calls Tryd.prog 54 #[.slice (some ⟨g, 0, none⟩) ds.length cap] W fun e w' => e = .returned (.tuple #[]) ∧ DRow w' base (.slice (some ⟨g, 0, none⟩) ds.length cap) S.reverse ∧ W.grownBy w' (some g)) := Lib.hid (fun W hW => by
      obtain ⟨g', cap', e, h2, h3, h4, h5⟩ := own_sortK ddCells_length hW (by omega)
      injection e with e1 e2 e3
      injection e1 with e1
      injection e1 with e1
      subst e1
      subst e3
      have hcon := AnyQ.slices_Reverse (P := Tryd.prog) Tryd.reverseDeed 3 Tryd.isAgg33 Tryd.sizeOf33 ddCells ddCells_length one3 g 0 cap S.toArray W h4 (by simp; omega)
      rw [List.size_toArray, ← hl] at hcon
      refine hcon.mono fun e w' ⟨he, n, hw⟩ => ⟨he, ?_⟩
      have h6 := h5 S.reverse (by simp) n #[]
      rw [hw]
      have e7 : putRowK ddCells 3 (Sort.ahead W n) g 0 S.toArray.reverse = sortWorldK ddCells 3 W g 0 n S.reverse.toArray #[] := by
        unfold sortWorldK
        rw [grow_empty, List.reverse_toArray]
      rw [e7]
      exact h6)
    have HLEN : Hid (S.length = ds.length) := Lib.hid hl.symm
    obtain ⟨N, hN⟩ : ∃ N, N = ds.length := ⟨_, rfl⟩
    rw [← hN] at HRI HREV ⊢
    clear h hp hS hl hN
    go_enter Tryd.func32, Tryd.ntmps32
    go_wp2_with fail
    refine HRI.out.mono ?_
    rintro e w1 ⟨rfl, hd1, hg1⟩
    have HD := Lib.hid hd1
    clear hd1
    go_wp2_with fail
    refine (HREV.out _ HD.out).mono ?_
    rintro e w2 ⟨rfl, hd2, hg2⟩
    have HD2 := Lib.hid hd2
    clear hd2
    go_wp2
    go_returns
    exact ⟨rfl, HD2.out, hg1.andThen hg2 (fun j hj => Or.inr hj)⟩
theorem infoDd : (Tryd.prog.info? 33).map (fun i => (i.zero, i.size, i.bytes)) = some (some (.agg #[.int .i64 0, .string ByteArray.empty, .string ByteArray.empty]), 3, 40) := by kernel_rfl
theorem grow_any (n : Nat) (hn : n ≤ 1099511627776) (w : World) :
    Calls Tryd.prog 53 #[.slice none 0 0, .int .i64 n] w fun e w' => ∃ v, e = .returned v ∧ DRow w' w.heap.size v [] ∧ Below w.heap.size w w' := by
  obtain ⟨i0, hi, hz0, hz1, hz2⟩ := info_parts infoDd
  rcases Nat.eq_zero_or_pos n with h0 | h0
  · have hcon := Any8.slices_Grow_room (P := Tryd.prog) Tryd.growDeed none 0 0 n w (Nat.le_refl _) (by omega) (by omega) (by omega)
    change Calls Tryd.prog 53 _ _ _ at hcon
    exact hcon.mono fun e w' ⟨he, hw⟩ => ⟨_, he, by rw [hw]; exact World.ownsRow_nil _ _ _ _, by rw [hw]; exact Below.refl _ _⟩
  · have hcon := Any8.slices_Grow_grow (P := Tryd.prog) Tryd.growDeed i0 _ hi hz0 (by rw [hz1]; omega) none 0 0 n [] w (Nat.le_refl _) (by omega) (by rw [hz2]; omega) (by omega) (by simp) (fun _ => rfl) (fun a ha => by cases ha)
    change Calls Tryd.prog 53 _ _ _ at hcon
    refine hcon.mono fun e w' ⟨he, hw⟩ => ⟨_, he, ?_, ?_⟩
    · rw [hw]
      have h1 := grownCap_ge w (0 + n) 0 33
      have h2 := grownCap_le_maxLen w (0 + n) 0 33 (by unfold maxLen; omega)
      refine ⟨rfl, .inr ⟨w.heap.size, _, _, rfl, Nat.le_refl _, heap_alloc_new w.drew _, Nat.zero_le _, h2, ?_, rfl⟩⟩
      rw [Array.size_append, Array.size_append]
      show 0 + (Builtin.zeroCells (Value.agg #[.int .i64 0, .string ByteArray.empty, .string ByteArray.empty]).cells (0 + n - 0)).size + (Builtin.zeroCells (Value.agg #[.int .i64 0, .string ByteArray.empty, .string ByteArray.empty]).cells (grownCap w (0 + n) 0 33 - (0 + n))).size = _
      rw [size_zeroCells, size_zeroCells]
      show 0 + (0 + n - 0) * 3 + (grownCap w (0 + n) 0 33 - (0 + n)) * 3 = grownCap w (0 + n) 0 33 * 3
      omega
    · rw [hw]
      exact (Below.refl _ w).drew.alloc (Nat.le_refl _) _
theorem DRow.src {w : World} {base : Nat} {v : Value} {ds : List Disk.Dd} (h : DRow w base v ds) :
    (v = .slice none 0 0 ∧ ds.length = 0 ∧ ds.flatMap ddCells = []) ∨ ∃ ad c, v = .slice (some ad) ds.length c ∧ (ds.flatMap ddCells).length = ds.length * 3 ∧ ∀ (j : Nat) u, (ds.flatMap ddCells)[j]? = some u → w.cell? (ad.add j) = some u := by
  have hl := h.1
  rcases h.2 with ⟨rfl, h0⟩ | ⟨g, cap, cur, rfl, _⟩
  · have : ds = [] := List.length_eq_zero_iff.1 h0
    subst this
    exact Or.inl ⟨rfl, rfl, rfl⟩
  · exact Or.inr ⟨_, _, rfl, hl, h.cells (g := g) rfl⟩
theorem DRow.lt {w : World} {base : Nat} {v : Value} {ds : List Disk.Dd} (h : DRow w base v ds) {g : Nat} (hg : v.ownBlock = some g) : base ≤ g ∧ g < w.heap.size := World.ownsRow.lt h g hg
theorem DRow.below {w w' : World} {base B : Nat} {v : Value} {ds : List Disk.Dd} (h : DRow w base v ds) (hb : Below B w w') (hB : ∀ g, v.ownBlock = some g → g < B) : DRow w' base v ds := by
  refine ⟨h.1, ?_⟩
  rcases h.2 with ⟨rfl, h0⟩ | ⟨g, cap, cur, rfl, h1, h2, h3⟩
  · exact .inl ⟨rfl, h0⟩
  · exact .inr ⟨g, cap, cur, rfl, h1, (hb.block g (hB g rfl)).trans h2, h3⟩
/-- Four rows that lie in a slice of slices. -/
structure Four (w : World) (base b : Nat) (vs : List Value) (ls : List (List Disk.Dd)) : Prop where
  len : ls.length = vs.length
  cell : ∀ (i : Nat) v, vs[i]? = some v → w.cell? ⟨b, i, none⟩ = some v
  row : ∀ (i : Nat) v l, vs[i]? = some v → ls[i]? = some l → DRow w base v l
  bb : b < w.heap.size
theorem Four.below {w w' : World} {base b : Nat} {vs : List Value} {ls : List (List Disk.Dd)} (h : Four w base b vs ls) (hb : Below w.heap.size w w') : Four w' base b vs ls :=
  ⟨h.len, fun i v hv => by rw [hb.cell (p := ⟨b, i, none⟩) h.bb]; exact h.cell i v hv, fun i v l hv hl => (h.row i v l hv hl).below hb (fun g hg => ((h.row i v l hv hl).lt hg).2), Nat.lt_of_lt_of_le h.bb hb.size⟩
theorem flat_take_le (ls : List (List Disk.Dd)) (i : Nat) : ((ls.take i).flatMap id).length ≤ (ls.flatMap id).length := by
  conv => rhs; rw [← List.take_append_drop i ls, List.flatMap_append, List.length_append]
  omega
set_option maxHeartbeats 2000000 in
set_option maxRecDepth 100000 in
theorem concat_any {w : World} {base b : Nat} {vs : List Value} {ls : List (List Disk.Dd)} (h : Four w base b vs ls) (hvs : vs.length ≤ 4) (hn : (ls.flatMap id).length ≤ 1099511627776) :
    Calls Tryd.prog 31 #[.slice (some ⟨b, 0, none⟩) vs.length vs.length] w fun e w' => ∃ v, e = .returned v ∧ DRow w' w.heap.size v (ls.flatMap id) ∧ Below w.heap.size w w' := by
  obtain ⟨i0, hi, hz0, hz1, hz2⟩ := info_parts infoDd
  obtain ⟨N, hN⟩ : ∃ N, N = vs.length := ⟨_, rfl⟩
  have H := Lib.hid h
  have HL : Hid (∀ i, ((ls.take i).flatMap id).length ≤ 1099511627776) := Lib.hid (fun i => Nat.le_trans (flat_take_le ls i) hn)
  have hLN : Hid (ls.length = N) := Lib.hid (by rw [hN]; exact h.len)
  have hVN : Hid (vs.length = N) := Lib.hid hN.symm
  have hN4 : N ≤ 4 := by omega
  rw [← hN]
  clear h hN hvs
  go_enter Tryd.func31, Tryd.ntmps31
  go_wp2
  go_loopw [3, 11] (fun q p wr => ∃ i n : Nat, p = .int .i64 i ∧ q = .int .i64 n ∧ i ≤ N ∧ n = ((ls.take i).flatMap id).length ∧ wr = w) (fun _ p _ => N - (intOf p).toNat)
  case atStart => exact ⟨0, 0, rfl, rfl, by omega, by simp, rfl⟩
  case round =>
    obtain ⟨i, n, rfl, rfl, hi', hn', rfl⟩ := hrel
    have hnb := HL.out i
    rw [← hn'] at hnb
    by_cases hiN : i < N
    · obtain ⟨u, hu⟩ : ∃ u, vs[i]? = some u := ⟨_, List.getElem?_eq_getElem (by rw [hVN.out]; exact hiN)⟩
      obtain ⟨l, hl⟩ : ∃ l, ls[i]? = some l := ⟨_, List.getElem?_eq_getElem (by rw [hLN.out]; exact hiN)⟩
      have hc := H.out.cell i u hu
      have hr := H.out.row i u l hu hl
      have hnx : ((ls.take (i + 1)).flatMap id).length = n + l.length := by
        rw [List.take_add_one, hl, List.flatMap_append, List.length_append, ← hn']
        simp
      have hnb2 := HL.out (i + 1)
      rw [hnx] at hnb2
      obtain ⟨a, c, rfl⟩ := own_form hr
      have HNX := Lib.hid hnx.symm
      clear hnx hr hl hu hn'
      have h0 : ¬ ((n : Int) + (l.length : Int) < 0) := by omega
      go_wp2
      go_roundw
      case rel => exact ⟨i + 1, n + l.length, by go_num, by go_num, by omega, HNX.out, trivial⟩
      case measure => simp [intOf]; omega
    · obtain rfl : i = N := by omega
      have hfull : ls.take i = ls := List.take_of_length_le (by rw [hLN.out]; exact Nat.le_refl _)
      rw [hfull] at hn'
      have HNN := Lib.hid hn'
      clear hn' hfull
      obtain ⟨w, rfl⟩ : ∃ x, x = wr := ⟨wr, rfl⟩
      go_wp2_with fail
      refine (grow_any n hnb _).mono ?_
      rintro e w1 ⟨v1, rfl, hd1, hb1⟩
      have HD1 := Lib.hid hd1
      have hz1' := hb1.size
      have HF1 := Lib.hid (H.out.below hb1)
      obtain ⟨a1, c1, rfl⟩ := own_form hd1
      clear hd1
      go_wp2
      go_loopw [6, 27] (fun q p wr => ∃ (j : Nat) (v : Value), p = .int .i64 j ∧ q = v ∧ j ≤ i ∧ DRow wr w.heap.size v ((ls.take j).flatMap id) ∧ Below w.heap.size w wr) (fun _ p _ => i - (intOf p).toNat)
      case atStart => exact ⟨0, _, rfl, rfl, by omega, HD1.out, hb1⟩
      case round =>
        obtain ⟨j, v, rfl, rfl, hj, hd, hBr⟩ := hrel
        obtain ⟨wo, rfl⟩ : ∃ x, x = wr := ⟨wr, rfl⟩
        have hzr := hBr.size
        have hnb := HL.out j
        obtain ⟨a2, c2, rfl⟩ := own_form hd
        have HD : Hid (wo.ownsRow w.heap.size 33 3 (.slice a2 ((ls.take j).flatMap id).length c2) ((ls.take j).flatMap id).length (((ls.take j).flatMap id).flatMap ddCells)) := Lib.hid hd
        obtain ⟨m, hm⟩ : ∃ m, m = ((ls.take j).flatMap id).length := ⟨_, rfl⟩
        rw [← hm] at HD hnb ⊢
        have HM := Lib.hid hm
        clear hd hm
        by_cases hji : j < i
        · obtain ⟨u, hu⟩ : ∃ u, vs[j]? = some u := ⟨_, List.getElem?_eq_getElem (by rw [hVN.out]; exact hji)⟩
          obtain ⟨l, hl⟩ : ∃ l, ls[j]? = some l := ⟨_, List.getElem?_eq_getElem (by rw [hLN.out]; exact hji)⟩
          have h4 := H.out.below hBr
          have hc := h4.cell j u hu
          have hr := h4.row j u l hu hl
          have HSRC := Lib.hid hr.src
          have hnx : ((ls.take (j + 1)).flatMap id).length = m + l.length := by
            rw [List.take_add_one, hl, List.flatMap_append, List.length_append, ← HM.out]
            simp
          have hnb2 := HL.out (j + 1)
          rw [hnx] at hnb2
          have HNX : Hid ((ls.take (j + 1)).flatMap id = (ls.take j).flatMap id ++ l) := Lib.hid (by
            rw [List.take_add_one, hl, List.flatMap_append]
            simp)
          have HN2 := Lib.hid hnx
          obtain ⟨a, c, rfl⟩ := own_form hr
          clear hnx hr hl hu h4
          go_wp2_with (first | (at_builtin; refine wpList_append_src rfl _ _ 23 rfl w.heap.size 33 i0 (.agg #[.int .i64 0, .string ByteArray.empty, .string ByteArray.empty]) 3 40 Tryd.underlying23 hi hz0 hz1 hz2 rfl (by decide) _ _ _ rfl HD.out _ l.length _ rfl HSRC.out (fun u hu => by
              obtain ⟨x, _, hx⟩ := List.mem_flatMap.1 hu
              exact one3 x u hx) (by unfold maxLen; omega) (by omega) hzr ?_; intro v3 w3 hown3 hgrow3))
          obtain ⟨a3, c3, rfl⟩ := own_form hown3
          go_roundw
          case rel => exact ⟨j + 1, _, by go_num, rfl, by omega, by
            show World.ownsRow w3 w.heap.size 33 3 _ ((ls.take (j + 1)).flatMap id).length (((ls.take (j + 1)).flatMap id).flatMap ddCells)
            rw [HN2.out, HNX.out, List.flatMap_append]
            exact hown3, hBr.grown hgrow3 hzr (fun g hg => (HD.out.lt g hg).1)⟩
          case measure => simp [intOf]; omega
        · obtain rfl : j = i := by omega
          have hfull : ls.take j = ls := List.take_of_length_le (by rw [hLN.out]; exact Nat.le_refl _)
          have HF : Hid (DRow wo w.heap.size (.slice a2 m c2) (ls.flatMap id)) := Lib.hid (by
            have := HD.out
            rw [HM.out, hfull] at this
            rw [HM.out, hfull]
            exact this)
          clear hfull
          go_wp2
          go_returns
          exact ⟨_, rfl, HF.out, hBr⟩
end Go.Proofs.YtnfklomokjhojaaDoor
