/- delta.read: the walk. -/
import Derived.Test.YtdogacgpfnolfaaGreatDoorDiskW3
import Derived.Test.YtdogacgpfnolfaaGreatDoorSorts
import Derived.Test.YtdogacgpfnolfaaGreatDoorSortRow
import Derived.Laws.AppendOwn
import Derived.OwnWalk
import Derived.Test.YtdogacgpfnolfaaGreatDoorAppend
import Derived.Test.YtdogacgpfnolfaaGreatDoorDkG
import Derived.Test.YtdogacgpfnolfaaGreatDoorEq
import Derived.Maps.AppendAt
namespace Go.Proofs.YtdogacgpfnolfaaGreatDoor
open Go.RowKit Go.Maps
set_option linter.unusedSimpArgs false
set_option linter.unusedVariables false
namespace Disk
def jour : List UInt8 := [47, 106, 111, 117, 114, 110, 97, 108]
/-- Is a path the journal's? -/
def ours (p : List UInt8) : Bool := decide (p = jour) || Go.Lib.hasPrefix p (jour ++ [47])
def withPath (x : List UInt8 × T) : List UInt8 × Fl := (x.1, ⟨x.1, x.2.dir, x.2.data⟩)
/-- A set of files by their paths, with nothing of the journal's. -/
def read (fs : List Fl) : Option M := match load fs with
  | none => none
  | some l => if fs.any fun f => ours f.path then none else some l
theorem put_withPath (l : M) (p : List UInt8) (t : T) : SM.put (l.map withPath) p ⟨p, t.dir, t.data⟩ = (SM.put l p t).map withPath := by
  induction l with
  | nil => rfl
  | cons x r ih =>
    rw [List.map_cons, SM.put, SM.put]
    show (if bytesBefore p x.1 then _ else if x.1 = p then _ else _) = _
    by_cases h1 : bytesBefore p x.1 = true
    · rw [if_pos h1, if_pos h1]; rfl
    · rw [if_neg h1, if_neg h1]
      by_cases h2 : x.1 = p
      · rw [if_pos h2, if_pos h2]; rfl
      · rw [if_neg h2, if_neg h2, ih]; rfl
theorem look_withPath (l : M) (p : List UInt8) : SM.look (l.map withPath) p = (SM.look l p).map fun t => ⟨p, t.dir, t.data⟩ := by
  induction l with
  | nil => rfl
  | cons x r ih =>
    rw [List.map_cons, SM.look_cons, SM.look_cons, ih]
    show (if x.1 = p then some (⟨x.1, x.2.dir, x.2.data⟩ : Fl) else _) = _
    by_cases h : x.1 = p
    · rw [if_pos h, if_pos h, h]; rfl
    · rw [if_neg h, if_neg h]
theorem fill_not_bad {fs : List Fl} {m : M} (h : fill [] fs = some m) {k : Nat} {l : M} {f : Fl} (hl : fill [] (fs.take k) = some l) (hf : fs[k]? = some f) : bad l f = false := by
  cases hb : bad l f
  · rfl
  · rw [fill_stop hl hf hb] at h; exact absurd h (by simp)
end Disk
/-- The files of a set. -/
abbrev FMap (w : World) (b n : Nat) (l : Disk.M) : Prop := SMap Tryz.prog 9 elF w b n (l.map Disk.withPath)
/-- What read leaves. -/
def ReadPost (fs : List Disk.Fl) (w : World) (e : Ending) (w' : World) : Prop := (match Disk.read fs with
  | none => e = .returned (.tuple #[.map none, .bool false])
  | some l => ∃ bm n, e = .returned (.tuple #[.map (some bm), .bool true]) ∧ FMap w' bm n l ∧ w.heap.size ≤ bm ∧ n ≤ fs.length) ∧ Below w.heap.size w w'
theorem ReadPost.bad {fs : List Disk.Fl} {w w' : World} (h : Disk.read fs = none) (hb : Below w.heap.size w w') : ReadPost fs w (.returned (.tuple #[.map none, .bool false])) w' := by
  unfold ReadPost
  rw [h]
  exact ⟨rfl, hb⟩
theorem ReadPost.good {fs : List Disk.Fl} {w w' : World} {l : Disk.M} {bm n : Nat} (h : Disk.read fs = some l) (hd : FMap w' bm n l) (h1 : w.heap.size ≤ bm) (hn : n ≤ fs.length) (hb : Below w.heap.size w w') : ReadPost fs w (.returned (.tuple #[.map (some bm), .bool true])) w' := by
  unfold ReadPost
  rw [h]
  exact ⟨⟨bm, n, rfl, hd, h1, hn⟩, hb⟩
set_option maxHeartbeats 4000000 in
set_option maxRecDepth 100000 in
theorem read_any {w : World} {B : Nat} {v : Value} {fs : List Disk.Fl} (h : Files w B v fs) (hB : B ≤ w.heap.size) (hE : Env w) (hn : fs.length ≤ 4398046511104) (hsz : ∀ f ∈ fs, f.path.length ≤ 4398046511104 ∧ f.data.length ≤ 4398046511104) :
    Calls Tryz.prog 34 #[v] w (ReadPost fs w) := by
  have hmm := @run_makeMap Tryz.prog
  have HLO := Lib.hid (load_any h hB hE hn (fun f hf => (hsz f hf).1))
  obtain ⟨a1, c1, rfl⟩ := h.form
  obtain ⟨N, hN⟩ : ∃ N, N = fs.length := ⟨_, rfl⟩
  have HH := Lib.hid h
  have HSZ := Lib.hid hsz
  rw [← hN] at hn HLO ⊢
  have HN := Lib.hid hN
  clear h hsz hN
  cases hld : Disk.load fs with
  | none =>
    have HR : Hid (Disk.read fs = none) := Lib.hid (by unfold Disk.read; rw [hld])
    have HLP : Hid (∀ e W, LoadPost fs w e W → e = .returned (.tuple #[.pointer none, .int .i64 1]) ∧ Below w.heap.size w W) := Lib.hid (fun e W h => by unfold LoadPost at h; rw [hld] at h; exact h)
    clear hld
    go_enter Tryz.func34, Tryz.ntmps34
    go_wp2_with fail
    refine HLO.out.mono ?_
    intro e w1 hp
    obtain ⟨rfl, hb1⟩ := HLP.out e w1 hp
    clear hp
    go_wp2
    go_returns
    exact ReadPost.bad HR.out hb1
  | some m =>
    have HR : Hid (Disk.read fs = if fs.any fun f => Disk.ours f.path then none else some m) := Lib.hid (by unfold Disk.read; rw [hld])
    have HLP : Hid (∀ e W, LoadPost fs w e W → ∃ sd, e = .returned (.tuple #[.pointer (some ⟨sd, 0, none⟩), .int .i64 0]) ∧ Below w.heap.size w W) := Lib.hid (fun e W h => by
      unfold LoadPost at h; rw [hld] at h
      obtain ⟨⟨sd, bm, n, h1, _⟩, h2⟩ := h
      exact ⟨sd, h1, h2⟩)
    have HFM : Hid (Disk.fill [] fs = some m) := Lib.hid (by
      unfold Disk.load at hld
      cases hf : Disk.fill [] fs with
      | none => rw [hf] at hld; exact absurd hld (by simp)
      | some l =>
        rw [hf] at hld
        simp only at hld
        split at hld
        · exact hld
        · exact absurd hld (by simp))
    clear hld
    go_enter Tryz.func34, Tryz.ntmps34
    go_wp2_with fail
    refine HLO.out.mono ?_
    intro e w1 hp
    obtain ⟨sd, rfl, hb1⟩ := HLP.out e w1 hp
    have hz1 := hb1.size
    clear hp
    go_wp2
    go_loopw [19] (fun p wr => ∃ (i n : Nat) (l : Disk.M), p = .int .i64 i ∧ i ≤ N ∧ n ≤ i ∧ Disk.fill [] (fs.take i) = some l ∧ (∀ f ∈ fs.take i, Disk.ours f.path = false) ∧ FMap wr w1.heap.size n l ∧ Below w1.heap.size w1 wr) (fun p _ => N - (intOf p).toNat)
    case atStart => exact ⟨0, 0, [], rfl, by omega, by omega, rfl, fun f hf => by simp at hf, SMap.made w1, (Below.refl _ _).alloc (Nat.le_refl _) _⟩
    case round =>
      obtain ⟨i, n, l, rfl, hi, hni, hfill, hno, hm, hBr⟩ := hrel
      obtain ⟨wo, rfl⟩ : ∃ x, x = wr := ⟨wr, rfl⟩
      have HFILL := Lib.hid hfill
      have HNO := Lib.hid hno
      have HM := Lib.hid hm
      have hzr := hBr.size
      have hBw := hb1.trans (hBr.mono hz1)
      clear hfill hno hm
      by_cases hiN : i < N
      · obtain ⟨f, hf⟩ : ∃ f, fs[i]? = some f := ⟨_, List.getElem?_eq_getElem (by have := HN.out; omega)⟩
        obtain ⟨bk, o, cap, hve, hbB, hbc⟩ := HH.out.at (by have := HN.out; omega)
        rw [← HN.out] at hve
        cases hve
        obtain ⟨e1, e2, e3⟩ := hbc i f hf
        rw [← hBw.cell (p := ⟨bk, o + i * 3, none⟩) (by show bk < _; omega)] at e1
        rw [← hBw.cell (p := ⟨bk, o + i * 3 + 1, none⟩) (by show bk < _; omega)] at e2
        rw [← hBw.cell (p := ⟨bk, o + i * 3 + 2, none⟩) (by show bk < _; omega)] at e3
        have hfz := HSZ.out f (List.mem_of_getElem? hf)
        have HBAD : Hid (Disk.ours f.path = true → Disk.read fs = none) := Lib.hid (fun h => by
          rw [HR.out, if_pos]
          exact List.any_eq_true.2 ⟨f, List.mem_of_getElem? hf, h⟩)
        have HNEXT : Hid (Disk.fill [] (fs.take (i + 1)) = some (SM.put l f.path f.t)) := Lib.hid (Disk.fill_next HFILL.out hf (Disk.fill_not_bad HFM.out HFILL.out hf))
        have HNN : Hid (Disk.ours f.path = false → ∀ g ∈ fs.take (i + 1), Disk.ours g.path = false) := Lib.hid (fun h g hg => by
          rw [List.take_add_one, hf] at hg
          rcases List.mem_append.1 hg with hg | hg
          · exact HNO.out g hg
          · simp at hg; subst hg; exact h)
        clear hbc hf
        have HPW := Lib.hid (Disk.put_withPath l f.path f.t)
        obtain ⟨fp, hfp⟩ : ∃ x, x = f.path := ⟨_, rfl⟩
        obtain ⟨fd, hfd⟩ : ∃ x, x = f.dir := ⟨_, rfl⟩
        obtain ⟨ft, hft⟩ : ∃ x, x = f.data := ⟨_, rfl⟩
        rw [← hfp] at e1 hfz HBAD HNN
        rw [← hfd] at e2
        rw [← hft] at e3 hfz
        have HFF := Lib.hid (And.intro hfp (And.intro hfd hft))
        clear hfp hfd hft
        have hlt : (i : Int) < (N : Int) := by omega
        have hps : (bs fp).size ≤ maxLen := by show fp.toArray.size ≤ maxLen; simp [maxLen]; omega
        have hq := str_eq_lit (bs fp) [47, 106, 111, 117, 114, 110, 97, 108]
        rw [bs_list] at hq
        have HHP : Hid (∀ w, Calls Tryz.prog 66 #[.string (bs fp), .string ⟨#[47, 106, 111, 117, 114, 110, 97, 108, 47]⟩] w fun e w' => e = .returned (.bool (Go.Lib.hasPrefix fp (Disk.jour ++ [47]))) ∧ w' = w) := Lib.hid (fun w => Tryz.strings_HasPrefix (bs fp) ⟨#[47, 106, 111, 117, 114, 110, 97, 108, 47]⟩ w)
        by_cases hj : fp = Disk.jour
        · have HF := Lib.hid (HBAD.out (by unfold Disk.ours; rw [decide_eq_true hj]; rfl))
          rw [decide_eq_true (show fp = [47, 106, 111, 117, 114, 110, 97, 108] from hj)] at hq
          clear hj
          go_wp2
          go_returns
          exact ReadPost.bad HF.out (hb1.trans ((hBr.alloc hzr _).mono hz1))
        rw [decide_eq_false (show ¬ fp = [47, 106, 111, 117, 114, 110, 97, 108] from hj)] at hq
        cases hpre : Go.Lib.hasPrefix fp (Disk.jour ++ [47])
        rotate_left 1
        · have HF := Lib.hid (HBAD.out (by unfold Disk.ours; rw [hpre]; simp))
          rw [hpre] at HHP
          clear hj hpre
          go_wp2_with fail
          refine (HHP.out _).mono ?_
          rintro e w2 ⟨rfl, rfl⟩
          go_wp2
          go_returns
          exact ReadPost.bad HF.out (hb1.trans ((hBr.alloc hzr _).mono hz1))
        have HF := Lib.hid (HNN.out (by unfold Disk.ours; rw [hpre, decide_eq_false hj]; rfl))
        rw [hpre] at HHP
        have HM2 := Lib.hid (HM.out.alloc (.cells #[.string (bs fp), .bool fd, .string (bs ft)] 70))
        clear hj hpre
        go_wp2_with fail
        refine (HHP.out _).mono ?_
        rintro e w2 ⟨rfl, rfl⟩
        go_wp2_with (first | (at_mapUpdate; refine wpList_put elF rfl _ _ _ 74 rfl 70 Tryz.underlying9 Tryz.underlying74 rfl HM2.out (by unfold maxLen; omega) (bs fp) hps rfl (⟨fp, fd, ft⟩ : Disk.Fl) _ rfl rfl ?_; intro w6 hm6 hg6))
        go_roundw
        case rel => exact ⟨i + 1, n + 1, _, by go_num, by omega, by omega, HNEXT.out, HF.out, by
          have h1 := HPW.out
          unfold Disk.Fl.t at h1 ⊢
          rw [← HFF.out.1, ← HFF.out.2.1, ← HFF.out.2.2] at h1 ⊢
          show SMap Tryz.prog 9 elF w6 w1.heap.size (n + 1) ((SM.put l fp ⟨fd, ft⟩).map Disk.withPath)
          rw [← h1]
          exact hm6, (hBr.alloc hzr _).grown hg6 (by simp; omega) (fun j hj => by cases hj; exact Nat.le_refl _)⟩
        case measure => simp [intOf]; omega
      · have hfull : fs.take i = fs := List.take_of_length_le (by have := HN.out; omega)
        have hfl := HFILL.out
        have hnn := HNO.out
        rw [hfull] at hfl hnn
        have hml : l = m := Option.some.inj (hfl.symm.trans HFM.out)
        have HF := Lib.hid (ReadPost.good (fs := fs) (w := w) (l := l) (bm := w1.heap.size) (n := n) (by
          rw [HR.out, if_neg, hml]
          simp only [List.any_eq_true, not_exists, not_and]
          intro f hf
          rw [hnn f hf]; simp) HM.out hz1 (by have := HN.out; omega) hBw)
        clear hfull hfl hnn hml
        go_wp2
        go_returns
        exact HF.out
end Go.Proofs.YtdogacgpfnolfaaGreatDoor

namespace Go.Proofs.YtdogacgpfnolfaaGreatDoor
open Go.RowKit Go.Maps Go.Sort
set_option linter.unusedSimpArgs false
set_option linter.unusedVariables false
def ddCells (d : Disk.Dd) : List Value := [.int .i64 d.kind, .string (bs d.path), .string (bs d.data)]
theorem ddCells_length (d : Disk.Dd) : (ddCells d).length = 3 := rfl
/-- A row of deeds of the call's own. -/
abbrev DRow (w : World) (base : Nat) (v : Value) (ds : List Disk.Dd) : Prop := w.ownsRow base 39 3 v ds.length (ds.flatMap ddCells)
/-- The deeds stand by their paths. -/
def Rise (ds : List Disk.Dd) : Prop := ds.Pairwise fun x y => bytesBefore x.path y.path = true
def cfD (x y : Disk.Dd) : Int := Go.Lib.compareBytes x.path y.path
theorem ltD : Go.Proofs.ltOf cfD = fun x y => bytesBefore x.path y.path := by
  funext x y
  exact compare_before x.path y.path
set_option maxHeartbeats 1000000 in
set_option maxRecDepth 100000 in
theorem closure_any (x y : Disk.Dd) (W : World) : Calls Tryz.prog 70 #[.agg (ddCells x).toArray, .agg (ddCells y).toArray] W fun e w' => e = .returned (.int .i64 (cfD x y)) ∧ ∃ q os', w' = grow (W.drewN q) os' := by
  have hcon : ∀ W, Calls Tryz.prog 33 #[.string (bs x.path), .string (bs y.path)] W fun e w' => e = .returned (.int .i64 (cfD x y)) ∧ w' = W := fun W => Tryz.strings_Compare (bs x.path) (bs y.path) W
  have HC := Lib.hid hcon
  clear hcon
  obtain ⟨r, hr⟩ : ∃ r, r = cfD x y := ⟨_, rfl⟩
  rw [← hr] at HC ⊢
  clear hr
  show Calls Tryz.prog 70 #[.agg #[.int .i64 x.kind, .string (bs x.path), .string (bs x.data)], .agg #[.int .i64 y.kind, .string (bs y.path), .string (bs y.data)]] W _
  go_enter Tryz.func70, Tryz.ntmps70
  go_wp2_with fail
  refine (HC.out _).mono ?_
  rintro e w1 ⟨rfl, rfl⟩
  go_wp2
  go_returns
  exact ⟨rfl, 0, _, by rw [alloc_eq_grow, alloc_eq_grow, grow_grow]; rfl⟩
theorem one3 : ∀ x, ∀ v ∈ ddCells x, v.oneCell' = true := fun x v hv => by
  simp [ddCells] at hv
  rcases hv with rfl | rfl | rfl <;> rfl
set_option maxHeartbeats 1000000 in
set_option maxRecDepth 100000 in
theorem rising_any {w : World} {base : Nat} {v : Value} {ds S : List Disk.Dd} (h : DRow w base v ds) (hp : ds.Perm S) (hS : Rise S) (hn : ds.length < 4611686018427387904) :
    Calls Tryz.prog 37 #[v] w fun e w' => e = .returned v ∧ DRow w' base v S ∧ w.grownBy w' v.ownBlock := by
  rcases Nat.eq_zero_or_pos ds.length with h0 | h0
  · have e1 : ds = [] := List.length_eq_zero_iff.1 h0
    subst e1
    have e2 : S = [] := List.nil_perm.1 hp
    subst e2
    obtain ⟨a, c, rfl⟩ := own_form h
    have hcon := fun W => AnyF.slices_SortFunc_none (P := Tryz.prog) { Tryz.sortDeed with } a c (.func (.func 70) #[] #[]) W
    change ∀ W, Calls Tryz.prog 69 _ _ _ at hcon
    have HC := Lib.hid hcon
    have H := Lib.hid h
    clear hcon h hp hS
    go_enter Tryz.func37, Tryz.ntmps37
    go_wp2_with fail
    refine (HC.out _).mono ?_
    rintro e w1 ⟨rfl, rfl⟩
    go_wp2
    go_returns
    exact ⟨rfl, H.out, ⟨rfl, rfl, rfl, Nat.le_refl _, fun _ _ _ => rfl⟩⟩
  · obtain ⟨g, cap, rfl, hg, hbg, hH, hall⟩ := own_sortK ddCells_length h h0
    have eg : ∀ args w, (callFunc 70 args).run Tryz.prog w = .ok (.enter 70 args) w := enters_of Tryz.func70 (by kernel_rfl) rfl
    have hcon := AnyQ.slices_SortFunc (P := Tryz.prog) Tryz.sortDeed 3 Tryz.isAgg39 Tryz.sizeOf39 ddCells ddCells_length one3 cfD (by rw [ltD]; exact swo_before _) 70 #[] g 0 cap ds.toArray w eg
      (fun m os dk hs x y => closure_any x y _) hH hg (by simpa using hn)
    rw [List.size_toArray, ltD] at hcon
    change Calls Tryz.prog 69 _ _ _ at hcon
    have HC := Lib.hid hcon
    have HALL := Lib.hid hall
    have HP := Lib.hid hp
    have HS := Lib.hid hS
    obtain ⟨N, hN⟩ : ∃ N, N = ds.length := ⟨_, rfl⟩
    rw [← hN] at HC ⊢
    have HN := Lib.hid hN
    clear hcon h hall hp hS hH hN
    go_enter Tryz.func37, Tryz.ntmps37
    go_wp2_with fail
    refine HC.out.mono ?_
    rintro e w1 ⟨rfl, d', n, os, hp1, hs1, rfl⟩
    rw [HN.out] at hp1 hs1
    have hd := sort_unique (fun d : Disk.Dd => d.path) hp1 hs1 HS.out HP.out
    subst hd
    have HR := Lib.hid (HALL.out S HP.out.length_eq.symm n os)
    have HSN : Hid (S.length = N) := Lib.hid (by rw [HN.out]; exact HP.out.length_eq.symm)
    clear hp1 hs1
    go_wp2
    go_returns
    exact ⟨rfl, by have := HR.out.1; rw [← HN.out] at this; exact this, HR.out.2⟩
set_option maxHeartbeats 1000000 in
set_option maxRecDepth 100000 in
theorem falling_any {w : World} {base : Nat} {v : Value} {ds S : List Disk.Dd} (h : DRow w base v ds) (hp : ds.Perm S) (hS : Rise S) (hn : ds.length < 4611686018427387904) :
    Calls Tryz.prog 36 #[v] w fun e w' => e = .returned v ∧ DRow w' base v S.reverse ∧ w.grownBy w' v.ownBlock := by
  have HRI := Lib.hid (rising_any h hp hS hn)
  have hl := hp.length_eq
  rcases Nat.eq_zero_or_pos ds.length with h0 | h0
  · have e1 : ds = [] := List.length_eq_zero_iff.1 h0
    subst e1
    have e2 : S = [] := List.nil_perm.1 hp
    subst e2
    obtain ⟨a, c, rfl⟩ := own_form h
    have hcon := fun W => AnyQ.slices_Reverse_empty (P := Tryz.prog) Tryz.reverseDeed a c W
    change ∀ W, Calls Tryz.prog 68 _ _ _ at hcon
    have HC := Lib.hid hcon
    clear hcon h hp hS hl
    go_enter Tryz.func36, Tryz.ntmps36
    go_wp2_with fail
    refine HRI.out.mono ?_
    rintro e w1 ⟨rfl, hd1, hg1⟩
    have HD := Lib.hid hd1
    clear hd1
    go_wp2_with fail
    refine (HC.out _).mono ?_
    rintro e w2 ⟨rfl, rfl⟩
    go_wp2
    go_returns
    exact ⟨rfl, HD.out, hg1⟩
  · obtain ⟨g, cap, rfl, hg⟩ : ∃ g cap, v = .slice (some ⟨g, 0, none⟩) ds.length cap ∧ g < w.heap.size := by
      obtain ⟨g, cap, h1, h2, _⟩ := own_sortK ddCells_length h h0
      exact ⟨g, cap, h1, h2⟩
    have HREV : Hid (∀ W, DRow W base (.slice (some ⟨g, 0, none⟩) ds.length cap) S → Calls Tryz.prog 68 #[.slice (some ⟨g, 0, none⟩) ds.length cap] W fun e w' => e = .returned (.tuple #[]) ∧ DRow w' base (.slice (some ⟨g, 0, none⟩) ds.length cap) S.reverse ∧ W.grownBy w' (some g)) := Lib.hid (fun W hW => by
      obtain ⟨g', cap', e, h2, h3, h4, h5⟩ := own_sortK ddCells_length hW (by omega)
      injection e with e1 e2 e3
      injection e1 with e1
      injection e1 with e1
      subst e1
      subst e3
      have hcon := AnyQ.slices_Reverse (P := Tryz.prog) Tryz.reverseDeed 3 Tryz.isAgg39 Tryz.sizeOf39 ddCells ddCells_length one3 g 0 cap S.toArray W h4 (by simp; omega)
      rw [List.size_toArray, ← hl] at hcon
      refine hcon.mono fun e w' ⟨he, n, hw⟩ => ⟨he, ?_⟩
      have h6 := h5 S.reverse (by simp) n #[]
      rw [hw]
      have e7 : putRowK ddCells 3 (Sort.ahead W n) g 0 S.toArray.reverse = sortWorldK ddCells 3 W g 0 n S.reverse.toArray #[] := by
        unfold sortWorldK
        rw [grow_empty, List.reverse_toArray]
      rw [e7]
      exact h6)
    have HLEN : Hid (S.length = ds.length) := Lib.hid hl.symm
    obtain ⟨N, hN⟩ : ∃ N, N = ds.length := ⟨_, rfl⟩
    rw [← hN] at HRI HREV ⊢
    clear h hp hS hl hN
    go_enter Tryz.func36, Tryz.ntmps36
    go_wp2_with fail
    refine HRI.out.mono ?_
    rintro e w1 ⟨rfl, hd1, hg1⟩
    have HD := Lib.hid hd1
    clear hd1
    go_wp2_with fail
    refine (HREV.out _ HD.out).mono ?_
    rintro e w2 ⟨rfl, hd2, hg2⟩
    have HD2 := Lib.hid hd2
    clear hd2
    go_wp2
    go_returns
    exact ⟨rfl, HD2.out, hg1.andThen hg2 (fun j hj => Or.inr hj)⟩
theorem infoDd : (Tryz.prog.info? 39).map (fun i => (i.zero, i.size, i.bytes)) = some (some (.agg #[.int .i64 0, .string ByteArray.empty, .string ByteArray.empty]), 3, 40) := by kernel_rfl
theorem grow_any (n : Nat) (hn : n ≤ 1099511627776) (w : World) :
    Calls Tryz.prog 67 #[.slice none 0 0, .int .i64 n] w fun e w' => ∃ v, e = .returned v ∧ DRow w' w.heap.size v [] ∧ Below w.heap.size w w' := by
  obtain ⟨i0, hi, hz0, hz1, hz2⟩ := info_parts infoDd
  rcases Nat.eq_zero_or_pos n with h0 | h0
  · have hcon := Any8.slices_Grow_room (P := Tryz.prog) Tryz.growDeed none 0 0 n w (Nat.le_refl _) (by omega) (by omega) (by omega)
    change Calls Tryz.prog 67 _ _ _ at hcon
    exact hcon.mono fun e w' ⟨he, hw⟩ => ⟨_, he, by rw [hw]; exact World.ownsRow_nil _ _ _ _, by rw [hw]; exact Below.refl _ _⟩
  · have hcon := Any8.slices_Grow_grow (P := Tryz.prog) Tryz.growDeed i0 _ hi hz0 (by rw [hz1]; omega) none 0 0 n [] w (Nat.le_refl _) (by omega) (by rw [hz2]; omega) (by omega) (by simp) (fun _ => rfl) (fun a ha => by cases ha)
    change Calls Tryz.prog 67 _ _ _ at hcon
    refine hcon.mono fun e w' ⟨he, hw⟩ => ⟨_, he, ?_, ?_⟩
    · rw [hw]
      have h1 := grownCap_ge w (0 + n) 0 39
      have h2 := grownCap_le_maxLen w (0 + n) 0 39 (by unfold maxLen; omega)
      refine ⟨rfl, .inr ⟨w.heap.size, _, _, rfl, Nat.le_refl _, heap_alloc_new w.drew _, Nat.zero_le _, h2, ?_, rfl⟩⟩
      rw [Array.size_append, Array.size_append]
      show 0 + (Builtin.zeroCells (Value.agg #[.int .i64 0, .string ByteArray.empty, .string ByteArray.empty]).cells (0 + n - 0)).size + (Builtin.zeroCells (Value.agg #[.int .i64 0, .string ByteArray.empty, .string ByteArray.empty]).cells (grownCap w (0 + n) 0 39 - (0 + n))).size = _
      rw [size_zeroCells, size_zeroCells]
      show 0 + (0 + n - 0) * 3 + (grownCap w (0 + n) 0 39 - (0 + n)) * 3 = grownCap w (0 + n) 0 39 * 3
      omega
    · rw [hw]
      exact (Below.refl _ w).drew.alloc (Nat.le_refl _) _
theorem DRow.src {w : World} {base : Nat} {v : Value} {ds : List Disk.Dd} (h : DRow w base v ds) :
    (v = .slice none 0 0 ∧ ds.length = 0 ∧ ds.flatMap ddCells = []) ∨ ∃ ad c, v = .slice (some ad) ds.length c ∧ (ds.flatMap ddCells).length = ds.length * 3 ∧ ∀ (j : Nat) u, (ds.flatMap ddCells)[j]? = some u → w.cell? (ad.add j) = some u := by
  have hl := h.1
  rcases h.2 with ⟨rfl, h0⟩ | ⟨g, cap, cur, rfl, _⟩
  · have : ds = [] := List.length_eq_zero_iff.1 h0
    subst this
    exact Or.inl ⟨rfl, rfl, rfl⟩
  · exact Or.inr ⟨_, _, rfl, hl, h.cells (g := g) rfl⟩
theorem DRow.lt {w : World} {base : Nat} {v : Value} {ds : List Disk.Dd} (h : DRow w base v ds) {g : Nat} (hg : v.ownBlock = some g) : base ≤ g ∧ g < w.heap.size := World.ownsRow.lt h g hg
theorem DRow.below {w w' : World} {base B : Nat} {v : Value} {ds : List Disk.Dd} (h : DRow w base v ds) (hb : Below B w w') (hB : ∀ g, v.ownBlock = some g → g < B) : DRow w' base v ds := by
  refine ⟨h.1, ?_⟩
  rcases h.2 with ⟨rfl, h0⟩ | ⟨g, cap, cur, rfl, h1, h2, h3⟩
  · exact .inl ⟨rfl, h0⟩
  · exact .inr ⟨g, cap, cur, rfl, h1, (hb.block g (hB g rfl)).trans h2, h3⟩
/-- Four rows that lie in a slice of slices. -/
structure Four (w : World) (base b : Nat) (vs : List Value) (ls : List (List Disk.Dd)) : Prop where
  len : ls.length = vs.length
  cell : ∀ (i : Nat) v, vs[i]? = some v → w.cell? ⟨b, i, none⟩ = some v
  row : ∀ (i : Nat) v l, vs[i]? = some v → ls[i]? = some l → DRow w base v l
  bb : b < w.heap.size
theorem Four.below {w w' : World} {base b : Nat} {vs : List Value} {ls : List (List Disk.Dd)} (h : Four w base b vs ls) (hb : Below w.heap.size w w') : Four w' base b vs ls :=
  ⟨h.len, fun i v hv => by rw [hb.cell (p := ⟨b, i, none⟩) h.bb]; exact h.cell i v hv, fun i v l hv hl => (h.row i v l hv hl).below hb (fun g hg => ((h.row i v l hv hl).lt hg).2), Nat.lt_of_lt_of_le h.bb hb.size⟩
theorem flat_take_le (ls : List (List Disk.Dd)) (i : Nat) : ((ls.take i).flatMap id).length ≤ (ls.flatMap id).length := by
  conv => rhs; rw [← List.take_append_drop i ls, List.flatMap_append, List.length_append]
  omega
set_option maxHeartbeats 2000000 in
set_option maxRecDepth 100000 in
theorem concat_any {w : World} {base b : Nat} {vs : List Value} {ls : List (List Disk.Dd)} (h : Four w base b vs ls) (hvs : vs.length ≤ 4) (hn : (ls.flatMap id).length ≤ 1099511627776) :
    Calls Tryz.prog 35 #[.slice (some ⟨b, 0, none⟩) vs.length vs.length] w fun e w' => ∃ v, e = .returned v ∧ DRow w' w.heap.size v (ls.flatMap id) ∧ Below w.heap.size w w' := by
  obtain ⟨i0, hi, hz0, hz1, hz2⟩ := info_parts infoDd
  obtain ⟨N, hN⟩ : ∃ N, N = vs.length := ⟨_, rfl⟩
  have H := Lib.hid h
  have HL : Hid (∀ i, ((ls.take i).flatMap id).length ≤ 1099511627776) := Lib.hid (fun i => Nat.le_trans (flat_take_le ls i) hn)
  have hLN : Hid (ls.length = N) := Lib.hid (by rw [hN]; exact h.len)
  have hVN : Hid (vs.length = N) := Lib.hid hN.symm
  have hN4 : N ≤ 4 := by omega
  rw [← hN]
  clear h hN hvs
  go_enter Tryz.func35, Tryz.ntmps35
  go_wp2
  go_loopw [3, 11] (fun q p wr => ∃ i n : Nat, p = .int .i64 i ∧ q = .int .i64 n ∧ i ≤ N ∧ n = ((ls.take i).flatMap id).length ∧ wr = w) (fun _ p _ => N - (intOf p).toNat)
  case atStart => exact ⟨0, 0, rfl, rfl, by omega, by simp, rfl⟩
  case round =>
    obtain ⟨i, n, rfl, rfl, hi', hn', rfl⟩ := hrel
    have hnb := HL.out i
    rw [← hn'] at hnb
    by_cases hiN : i < N
    · obtain ⟨u, hu⟩ : ∃ u, vs[i]? = some u := ⟨_, List.getElem?_eq_getElem (by rw [hVN.out]; exact hiN)⟩
      obtain ⟨l, hl⟩ : ∃ l, ls[i]? = some l := ⟨_, List.getElem?_eq_getElem (by rw [hLN.out]; exact hiN)⟩
      have hc := H.out.cell i u hu
      have hr := H.out.row i u l hu hl
      have hnx : ((ls.take (i + 1)).flatMap id).length = n + l.length := by
        rw [List.take_add_one, hl, List.flatMap_append, List.length_append, ← hn']
        simp
      have hnb2 := HL.out (i + 1)
      rw [hnx] at hnb2
      obtain ⟨a, c, rfl⟩ := own_form hr
      have HNX := Lib.hid hnx.symm
      clear hnx hr hl hu hn'
      have h0 : ¬ ((n : Int) + (l.length : Int) < 0) := by omega
      go_wp2
      go_roundw
      case rel => exact ⟨i + 1, n + l.length, by go_num, by go_num, by omega, HNX.out, trivial⟩
      case measure => simp [intOf]; omega
    · obtain rfl : i = N := by omega
      have hfull : ls.take i = ls := List.take_of_length_le (by rw [hLN.out]; exact Nat.le_refl _)
      rw [hfull] at hn'
      have HNN := Lib.hid hn'
      clear hn' hfull
      obtain ⟨w, rfl⟩ : ∃ x, x = wr := ⟨wr, rfl⟩
      go_wp2_with fail
      refine (grow_any n hnb _).mono ?_
      rintro e w1 ⟨v1, rfl, hd1, hb1⟩
      have HD1 := Lib.hid hd1
      have hz1' := hb1.size
      have HF1 := Lib.hid (H.out.below hb1)
      obtain ⟨a1, c1, rfl⟩ := own_form hd1
      clear hd1
      go_wp2
      go_loopw [6, 27] (fun q p wr => ∃ (j : Nat) (v : Value), p = .int .i64 j ∧ q = v ∧ j ≤ i ∧ DRow wr w.heap.size v ((ls.take j).flatMap id) ∧ Below w.heap.size w wr) (fun _ p _ => i - (intOf p).toNat)
      case atStart => exact ⟨0, _, rfl, rfl, by omega, HD1.out, hb1⟩
      case round =>
        obtain ⟨j, v, rfl, rfl, hj, hd, hBr⟩ := hrel
        obtain ⟨wo, rfl⟩ : ∃ x, x = wr := ⟨wr, rfl⟩
        have hzr := hBr.size
        have hnb := HL.out j
        obtain ⟨a2, c2, rfl⟩ := own_form hd
        have HD : Hid (wo.ownsRow w.heap.size 39 3 (.slice a2 ((ls.take j).flatMap id).length c2) ((ls.take j).flatMap id).length (((ls.take j).flatMap id).flatMap ddCells)) := Lib.hid hd
        obtain ⟨m, hm⟩ : ∃ m, m = ((ls.take j).flatMap id).length := ⟨_, rfl⟩
        rw [← hm] at HD hnb ⊢
        have HM := Lib.hid hm
        clear hd hm
        by_cases hji : j < i
        · obtain ⟨u, hu⟩ : ∃ u, vs[j]? = some u := ⟨_, List.getElem?_eq_getElem (by rw [hVN.out]; exact hji)⟩
          obtain ⟨l, hl⟩ : ∃ l, ls[j]? = some l := ⟨_, List.getElem?_eq_getElem (by rw [hLN.out]; exact hji)⟩
          have h4 := H.out.below hBr
          have hc := h4.cell j u hu
          have hr := h4.row j u l hu hl
          have HSRC := Lib.hid hr.src
          have hnx : ((ls.take (j + 1)).flatMap id).length = m + l.length := by
            rw [List.take_add_one, hl, List.flatMap_append, List.length_append, ← HM.out]
            simp
          have hnb2 := HL.out (j + 1)
          rw [hnx] at hnb2
          have HNX : Hid ((ls.take (j + 1)).flatMap id = (ls.take j).flatMap id ++ l) := Lib.hid (by
            rw [List.take_add_one, hl, List.flatMap_append]
            simp)
          have HN2 := Lib.hid hnx
          obtain ⟨a, c, rfl⟩ := own_form hr
          clear hnx hr hl hu h4
          go_wp2_with (first | (at_builtin; refine wpList_append_src rfl _ _ 23 rfl w.heap.size 39 i0 (.agg #[.int .i64 0, .string ByteArray.empty, .string ByteArray.empty]) 3 40 Tryz.underlying23 hi hz0 hz1 hz2 rfl (by decide) _ _ _ rfl HD.out _ l.length _ rfl HSRC.out (fun u hu => by
              obtain ⟨x, _, hx⟩ := List.mem_flatMap.1 hu
              exact one3 x u hx) (by unfold maxLen; omega) (by omega) hzr ?_; intro v3 w3 hown3 hgrow3))
          obtain ⟨a3, c3, rfl⟩ := own_form hown3
          go_roundw
          case rel => exact ⟨j + 1, _, by go_num, rfl, by omega, by
            show World.ownsRow w3 w.heap.size 39 3 _ ((ls.take (j + 1)).flatMap id).length (((ls.take (j + 1)).flatMap id).flatMap ddCells)
            rw [HN2.out, HNX.out, List.flatMap_append]
            exact hown3, hBr.grown hgrow3 hzr (fun g hg => (HD.out.lt g hg).1)⟩
          case measure => simp [intOf]; omega
        · obtain rfl : j = i := by omega
          have hfull : ls.take j = ls := List.take_of_length_le (by rw [hLN.out]; exact Nat.le_refl _)
          have HF : Hid (DRow wo w.heap.size (.slice a2 m c2) (ls.flatMap id)) := Lib.hid (by
            have := HD.out
            rw [HM.out, hfull] at this
            rw [HM.out, hfull]
            exact this)
          clear hfull
          go_wp2
          go_returns
          exact ⟨_, rfl, HF.out, hBr⟩
end Go.Proofs.YtdogacgpfnolfaaGreatDoor

namespace Go.Proofs.YtdogacgpfnolfaaGreatDoor
set_option linter.unusedSimpArgs false
set_option linter.unusedVariables false
namespace Disk
def cls (b : M) (x : List UInt8 × T) : Nat := match SM.look b x.1 with
  | some y => if x.2.dir = y.dir then 0 else if x.2.dir then 2 else 1
  | none => if x.2.dir then 2 else 1
def cls2 (a : M) (y : List UInt8 × T) : Nat := match SM.look a y.1 with
  | some x => if x = y.2 then 0 else if y.2.dir then 3 else 4
  | none => if y.2.dir then 3 else 4
def unl (x : List UInt8 × T) : Dd := ⟨1, x.1, []⟩
def rmd (x : List UInt8 × T) : Dd := ⟨2, x.1, []⟩
def mkd (x : List UInt8 × T) : Dd := ⟨3, x.1, []⟩
def putd (x : List UInt8 × T) : Dd := ⟨4, x.1, x.2.data⟩
/-- The deeds that make a out of b. -/
def delta (a b : M) : List Dd := (pick (cls b) 1 unl a).reverse ++ ((pick (cls b) 2 rmd a).reverse ++ (pick (cls2 a) 3 mkd b ++ pick (cls2 a) 4 putd b))
def deedsRes (before after : List Fl) : List Dd × Int := match read before, read after with
  | some a, some b => (delta a b, 0)
  | _, _ => ([], 1)
theorem pick_rise {c : List UInt8 × T → Nat} {k : Nat} {f : List UInt8 × T → Dd} (hf : ∀ x, (f x).path = x.1) {l : M} (hl : SM.Rises l) : Rise (pick c k f l) := by
  unfold Rise pick
  rw [List.pairwise_map]
  refine List.Pairwise.filter _ (hl.imp fun {x y} h => ?_)
  rw [hf, hf]
  exact h
end Disk
end Go.Proofs.YtdogacgpfnolfaaGreatDoor

namespace Go.Proofs.YtdogacgpfnolfaaGreatDoor
open Go.RowKit Go.Maps
set_option linter.unusedSimpArgs false
set_option linter.unusedVariables false
/-- Two slices lie in different rows. -/
def Sep (v u : Value) : Prop := ∀ g, v.ownBlock = some g → u.ownBlock ≠ some g
theorem Sep.symm {v u : Value} (h : Sep v u) : Sep u v := fun g h1 h2 => h g h2 h1
theorem Sep.kept {w w' : World} {base : Nat} {v u : Value} {ds : List Disk.Dd} (h : DRow w base u ds) (hs : Sep v u) (hg : w.grownBy w' v.ownBlock) : DRow w' base u ds := by
  refine h.kept hg ?_
  cases ho : u.ownBlock with
  | none => exact Or.inl rfl
  | some g => exact Or.inr (fun e => hs g e.symm ho)
/-- Behind an append. -/
theorem Sep.next {w : World} {base : Nat} {v v' u : Value} {ds : List Disk.Dd} (h : DRow w base u ds) (hs : Sep v u) {m : Nat} (hm : w.heap.size ≤ m) (hl : v'.ownBlock = v.ownBlock ∨ v'.ownBlock = some m) : Sep v' u := fun g h1 h2 => by
  rcases hl with e | e
  · rw [e] at h1; exact hs g h1 h2
  · rw [e] at h1
    injection h1 with h1
    have := (h.lt h2).2
    omega
theorem DRow.not_map {P : Program} {k : TypeId} {α : Type} {E : El α} {w : World} {base b n : Nat} {v : Value} {ds : List Disk.Dd} {l : List (List UInt8 × α)} (h : DRow w base v ds) (hm : SMap P k E w b n l) : some b ≠ v.ownBlock := fun e => by
  rcases h.2 with ⟨rfl, _⟩ | ⟨g, cap, cur, rfl, _, h2, _⟩
  · cases e
  · obtain ⟨⟨es, clock, h1, _⟩, _⟩ := hm
    have e : b = g := by cases e; rfl
    subst e
    rw [h2] at h1
    cases h1
theorem DRow.not_iter {P : Program} {k : TypeId} {α : Type} {E : El α} {w : World} {base b r n cnt : Nat} {v : Value} {ds : List Disk.Dd} {l : List (List UInt8 × α)} {left : List UInt8 → Bool} (h : DRow w base v ds) (hm : SRange P k E w b r n l left cnt) : some r ≠ v.ownBlock := fun e => by
  rcases h.2 with ⟨rfl, _⟩ | ⟨g, cap, cur, rfl, _, h2, _⟩
  · cases e
  · obtain ⟨⟨L, ⟨es, clock, since, seen, c0, _, _, _, _, h1, _⟩, _⟩, _⟩ := hm
    have e : r = g := by cases e; rfl
    subst e
    rw [h2] at h1
    cases h1
theorem DRow.mono {w : World} {base base' : Nat} {v : Value} {ds : List Disk.Dd} (h : DRow w base v ds) (hb : base' ≤ base) : DRow w base' v ds := by
  refine ⟨h.1, ?_⟩
  rcases h.2 with h | ⟨g, cap, cur, h1, h2, h3⟩
  · exact .inl h
  · exact .inr ⟨g, cap, cur, h1, Nat.le_trans hb h2, h3⟩
theorem DRow.snoc {w : World} {base n : Nat} {v : Value} {ds : List Disk.Dd} {d : Disk.Dd} (h : w.ownsRow base 39 3 v (n + 1) (ds.flatMap ddCells ++ ddCells d)) (hn : ds.length = n) : DRow w base v (ds ++ [d]) := by
  show w.ownsRow base 39 3 v (ds ++ [d]).length ((ds ++ [d]).flatMap ddCells)
  rw [List.length_append, hn, List.flatMap_append]
  simpa using h
def zeroF : Disk.Fl := ⟨[], false, []⟩
theorem zF (w : World) : (zeroValue 70).run Tryz.prog w = .ok (elF.val zeroF) w := by kernel_rfl
/-- A loop under way: the map that it goes over, the other one, the two rows that it gathers. -/
structure At (w0 base ba r na bb nb : Nat) (a b : Disk.M) (left : List UInt8 → Bool) (cnt : Nat) (vu vr : Value) (U R : List Disk.Dd) (wr : World) : Prop where
  rng : SRange Tryz.prog 9 elF wr ba r na (a.map Disk.withPath) left cnt
  oth : FMap wr bb nb b
  ru : DRow wr base vu U
  rr : DRow wr base vr R
  sep : Sep vu vr
section
variable {base ba r na bb nb : Nat} {a b : Disk.M} {left left' : List UInt8 → Bool} {cnt cnt' : Nat} {vu vr v7 : Value} {U R : List Disk.Dd} {wr w7 : World} {w0 : Nat} {d : Disk.Dd}
theorem At.alloc (h : At w0 base ba r na bb nb a b left cnt vu vr U R wr) (o : Obj) : At w0 base ba r na bb nb a b left cnt vu vr U R (wr.alloc o) := ⟨h.rng.alloc o, h.oth.alloc o, World.ownsRow.alloc h.ru o, World.ownsRow.alloc h.rr o, h.sep⟩
/-- The step has come. -/
theorem At.step (h : At w0 base ba r na bb nb a b left cnt vu vr U R wr) (hg : wr.grownBy w7 (some r)) (hb0 : bb < r) (hrg : SRange Tryz.prog 9 elF w7 ba r na (a.map Disk.withPath) left' cnt') : At w0 base ba r na bb nb a b left' cnt' vu vr U R w7 :=
  ⟨hrg, h.oth.kept hg (fun e => by have := Option.some.inj e; omega), World.ownsRow.kept h.ru hg (by
      cases ho : vu.ownBlock with
      | none => exact Or.inl rfl
      | some g => exact Or.inr (fun e => h.ru.not_iter h.rng (by rw [ho]; exact e.symm))),
    World.ownsRow.kept h.rr hg (by
      cases ho : vr.ownBlock with
      | none => exact Or.inl rfl
      | some g => exact Or.inr (fun e => h.rr.not_iter h.rng (by rw [ho]; exact e.symm))), h.sep⟩
/-- One more in the first row. -/
theorem At.addU (h : At w0 base ba r na bb nb a b left cnt vu vr U R wr) (hg : wr.grownBy w7 vu.ownBlock) (hd : DRow w7 base v7 (U ++ [d])) (hl : v7.ownBlock = vu.ownBlock ∨ v7.ownBlock = some wr.heap.size) : At w0 base ba r na bb nb a b left cnt v7 vr (U ++ [d]) R w7 :=
  ⟨h.rng.kept hg (h.ru.not_map h.rng.owns) (h.ru.not_iter h.rng), h.oth.kept hg (h.ru.not_map h.oth), hd, Sep.kept h.rr h.sep hg, Sep.next h.rr h.sep (Nat.le_refl _) hl⟩
/-- One more in the second row. -/
theorem At.addR (h : At w0 base ba r na bb nb a b left cnt vu vr U R wr) (hg : wr.grownBy w7 vr.ownBlock) (hd : DRow w7 base v7 (R ++ [d])) (hl : v7.ownBlock = vr.ownBlock ∨ v7.ownBlock = some wr.heap.size) : At w0 base ba r na bb nb a b left cnt vu v7 U (R ++ [d]) w7 :=
  ⟨h.rng.kept hg (h.rr.not_map h.rng.owns) (h.rr.not_iter h.rng), h.oth.kept hg (h.rr.not_map h.oth), Sep.kept h.ru h.sep.symm hg, hd, (Sep.next h.ru h.sep.symm (Nat.le_refl _) hl).symm⟩
end
theorem perm_skip {left : List UInt8 → Bool} {c : List UInt8 × Disk.T → Nat} {k : Nat} {f : List UInt8 × Disk.T → Disk.Dd} {l : Disk.M} {p : List UInt8} {t : Disk.T} {U : List Disk.Dd} (hU : U.Perm (Disk.part left c k f l)) (hr : SM.Rises l) (hl : SM.look l p = some t) (hp : left p = true) (hc : c (p, t) ≠ k) : U.Perm (Disk.part (fun q => left q && !(q == p)) c k f l) := by
  have h := Disk.part_step (c := c) (k := k) (f := f) hr hl hp
  rw [if_neg (by simpa using hc), List.append_nil] at h
  exact hU.trans h.symm
theorem perm_add {left : List UInt8 → Bool} {c : List UInt8 × Disk.T → Nat} {k : Nat} {f : List UInt8 × Disk.T → Disk.Dd} {l : Disk.M} {p : List UInt8} {t : Disk.T} {U : List Disk.Dd} (hU : U.Perm (Disk.part left c k f l)) (hr : SM.Rises l) (hl : SM.look l p = some t) (hp : left p = true) (hc : c (p, t) = k) : (U ++ [f (p, t)]).Perm (Disk.part (fun q => left q && !(q == p)) c k f l) := by
  have h := Disk.part_step (c := c) (k := k) (f := f) hr hl hp
  rw [if_pos (by simpa using hc)] at h
  exact (hU.append_right _).trans h.symm
/-- What Deeds answers. -/
def DeltaPost (before after : List Disk.Fl) (w : World) (e : Ending) (w' : World) : Prop := ∃ v, e = .returned (.tuple #[v, .int .i64 (Disk.deedsRes before after).2]) ∧ DRow w' w.heap.size v (Disk.deedsRes before after).1 ∧ Below w.heap.size w w'
theorem DeltaPost.bad {before after : List Disk.Fl} {w w' : World} (h : Disk.deedsRes before after = ([], 1)) (hb : Below w.heap.size w w') : DeltaPost before after w (.returned (.tuple #[.slice none 0 0, .int .i64 1])) w' := by
  unfold DeltaPost
  rw [h]
  exact ⟨_, rfl, World.ownsRow_nil _ _ _ _, hb⟩
set_option maxHeartbeats 16000000 in
set_option maxRecDepth 100000 in
theorem delta_any {w : World} {B : Nat} {v1 v2 : Value} {before after : List Disk.Fl} (h1 : Files w B v1 before) (h2 : Files w B v2 after) (hB : B ≤ w.heap.size) (hE : Env w) (hn1 : before.length ≤ 1048576) (hsz1 : ∀ f ∈ before, f.path.length ≤ 1048576 ∧ f.data.length ≤ 1048576) (hn2 : after.length ≤ 1048576) (hsz2 : ∀ f ∈ after, f.path.length ≤ 1048576 ∧ f.data.length ≤ 1048576) :
    Calls Tryz.prog 17 #[v1, v2] w (DeltaPost before after w) := by
  obtain ⟨i0, hi, hz0, hz1, hz2⟩ := info_parts infoDd
  have HR1 := Lib.hid (read_any h1 hB hE (by omega) (fun f hf => by have := hsz1 f hf; omega))
  have HR2 := Lib.hid (fun (W : World) (hb : Below w.heap.size w W) => read_any (h2.below hb hB) (Nat.le_trans hB hb.size) (hE.below hb (Nat.le_refl _)) (by omega) (fun f hf => by have := hsz2 f hf; omega))
  obtain ⟨a1, c1, rfl⟩ := h1.form
  obtain ⟨a2, c2, rfl⟩ := h2.form
  have HRES : Hid (Disk.deedsRes before after = match Disk.read before, Disk.read after with
    | some a, some b => (Disk.delta a b, 0)
    | _, _ => ([], 1)) := Lib.hid rfl
  obtain ⟨N1, hN1⟩ : ∃ N, N = before.length := ⟨_, rfl⟩
  obtain ⟨N2, hN2⟩ : ∃ N, N = after.length := ⟨_, rfl⟩
  have HNN := Lib.hid (And.intro hN1 hN2)
  rw [← hN1] at HR1 hn1 ⊢
  rw [← hN2] at HR2 hn2 ⊢
  clear h1 h2 hsz1 hsz2 hN1 hN2
  cases hr1 : Disk.read before with
  | none =>
    have HF : Hid (Disk.deedsRes before after = ([], 1)) := Lib.hid (by rw [HRES.out, hr1])
    have HP1 : Hid (∀ e W, ReadPost before w e W → e = .returned (.tuple #[.map none, .bool false]) ∧ Below w.heap.size w W) := Lib.hid (fun e W h => by unfold ReadPost at h; rw [hr1] at h; exact h)
    have HP2 : Hid (∀ W e W', ReadPost after W e W' → ∃ m f, e = .returned (.tuple #[m, .bool f]) ∧ Below W.heap.size W W') := Lib.hid (fun W e W' h => by
      unfold ReadPost at h
      obtain ⟨h, hb⟩ := h
      cases hr2 : Disk.read after with
      | none => rw [hr2] at h; exact ⟨_, _, h, hb⟩
      | some l => rw [hr2] at h; obtain ⟨bm, n, h, _⟩ := h; exact ⟨_, _, h, hb⟩)
    clear hr1
    go_enter Tryz.func17, Tryz.ntmps17
    go_wp2_with fail
    refine HR1.out.mono ?_
    intro e w1 hp
    obtain ⟨rfl, hb1⟩ := HP1.out e w1 hp
    clear hp
    go_wp2_with fail
    refine (HR2.out _ hb1).mono ?_
    intro e w2 hp
    obtain ⟨m, f, rfl, hb2⟩ := HP2.out w1 e w2 hp
    clear hp
    go_wp2
    go_returns
    exact DeltaPost.bad HF.out (hb1.trans (hb2.mono hb1.size))
  | some a =>
    have HP1 : Hid (∀ e W, ReadPost before w e W → ∃ bm n, e = .returned (.tuple #[.map (some bm), .bool true]) ∧ (FMap W bm n a ∧ w.heap.size ≤ bm ∧ n ≤ before.length) ∧ Below w.heap.size w W) := Lib.hid (fun e W h => by
      unfold ReadPost at h; rw [hr1] at h
      obtain ⟨⟨bm, n, h1, h2, h3, h4⟩, h5⟩ := h
      exact ⟨bm, n, h1, ⟨h2, h3, h4⟩, h5⟩)
    cases hr2 : Disk.read after with
    | none =>
      have HF : Hid (Disk.deedsRes before after = ([], 1)) := Lib.hid (by rw [HRES.out, hr1, hr2])
      have HP2 : Hid (∀ W e W', ReadPost after W e W' → e = .returned (.tuple #[.map none, .bool false]) ∧ Below W.heap.size W W') := Lib.hid (fun W e W' h => by unfold ReadPost at h; rw [hr2] at h; exact h)
      clear hr1 hr2
      go_enter Tryz.func17, Tryz.ntmps17
      go_wp2_with fail
      refine HR1.out.mono ?_
      intro e w1 hp
      obtain ⟨ba, na, rfl, _, hb1⟩ := HP1.out e w1 hp
      clear hp
      go_wp2_with fail
      refine (HR2.out _ hb1).mono ?_
      intro e w2 hp
      obtain ⟨rfl, hb2⟩ := HP2.out w1 e w2 hp
      clear hp
      go_wp2
      go_returns
      exact DeltaPost.bad HF.out (hb1.trans (hb2.mono hb1.size))
    | some b =>
      have HF : Hid (Disk.deedsRes before after = (Disk.delta a b, 0)) := Lib.hid (by rw [HRES.out, hr1, hr2])
      have HP2 : Hid (∀ W e W', ReadPost after W e W' → ∃ bm n, e = .returned (.tuple #[.map (some bm), .bool true]) ∧ (FMap W' bm n b ∧ W.heap.size ≤ bm ∧ n ≤ after.length) ∧ Below W.heap.size W W') := Lib.hid (fun W e W' h => by
        unfold ReadPost at h; rw [hr2] at h
        obtain ⟨⟨bm, n, h1, h2, h3, h4⟩, h5⟩ := h
        exact ⟨bm, n, h1, ⟨h2, h3, h4⟩, h5⟩)
      have FACT : ∀ {fs : List Disk.Fl} {l : Disk.M}, fs.length ≤ 1048576 → Disk.read fs = some l → SM.Rises l ∧ l.length ≤ 1048576 := fun hn h => by
        unfold Disk.read at h
        split at h
        · exact absurd h (by simp)
        · rename_i m hm
          split at h
          · exact absurd h (by simp)
          · cases h
            refine ⟨Disk.load_rises hm, ?_⟩
            unfold Disk.load at hm
            split at hm
            · exact absurd hm (by simp)
            · rename_i l' hl'
              split at hm
              · cases hm
                have := Disk.fill_length hl'
                simp at this
                omega
              · exact absurd hm (by simp)
      have HA := Lib.hid (FACT (by have := HNN.out.1; omega) hr1)
      have HB := Lib.hid (FACT (by have := HNN.out.2; omega) hr2)
      clear hr1 hr2 FACT
      go_enter Tryz.func17, Tryz.ntmps17
      go_wp2_with fail
      refine HR1.out.mono ?_
      intro e w1 hp
      obtain ⟨ba, na, rfl, ⟨ma, hba, hna⟩, hb1⟩ := HP1.out e w1 hp
      clear hp
      go_wp2_with fail
      refine (HR2.out _ hb1).mono ?_
      intro e w2 hp
      obtain ⟨bb, nb, rfl, ⟨mb, hbb, hnb⟩, hb2⟩ := HP2.out w1 e w2 hp
      clear hp
      have hz1' := hb1.size
      have hz2' := hb2.size
      have hbal := ma.lt
      have hbbl := mb.lt
      have HMA := Lib.hid (ma.below hb2 hbal)
      have HMB := Lib.hid mb
      have HBEL := Lib.hid (hb1.trans (hb2.mono hz1'))
      have hA6 := HA.out.2
      have hB6 := HB.out.2
      clear ma mb
      go_wp2_with (first | (at_range; refine wpList_range elF rfl _ 74 rfl 70 Tryz.underlying9 Tryz.underlying74 rfl HMA.out ?_; intro w3 cnt0 hrg hg3 hs3))
      try go_frame
      obtain ⟨r1, hr1⟩ : ∃ r, r = w2.heap.size := ⟨_, rfl⟩
      rw [← hr1] at hrg hs3 ⊢
      have HR1' := Lib.hid hr1
      have hr1w : w.heap.size ≤ r1 := by omega
      have hbbr : bb < r1 := by omega
      have HB3 := Lib.hid (HBEL.out.grown hg3 (by omega) (fun j hj => by cases hj))
      have HMB3 := Lib.hid (HMB.out.kept hg3 (by simp))
      clear hr1 hg3
      go_loopw [10, 11] (fun p q wr => ∃ left cnt vu vr U R, p = vu ∧ q = vr ∧ At 0 r1 ba r1 na bb nb a b left cnt vu vr U R wr ∧ U.Perm (Disk.part left (Disk.cls b) 1 Disk.unl a) ∧ R.Perm (Disk.part left (Disk.cls b) 2 Disk.rmd a) ∧ Below w.heap.size w wr ∧ r1 ≤ wr.heap.size) (fun _ _ wr => wr.rangeLeft ba r1)
      case atStart =>
        have HLK : (fun p => (SM.look (a.map Disk.withPath) p).isSome) = fun p => (SM.look a p).isSome := by
          funext p
          rw [Disk.look_withPath]
          cases SM.look a p <;> rfl
        rw [HLK] at hrg
        refine ⟨_, _, _, _, [], [], rfl, rfl, ⟨hrg, HMB3.out, World.ownsRow_nil _ _ _ _, World.ownsRow_nil _ _ _ _, fun g h => by cases h⟩, ?_, ?_, HB3.out, by omega⟩
        · rw [Disk.part_start _ _ _ HA.out.1]
        · rw [Disk.part_start _ _ _ HA.out.1]
      case round =>
        obtain ⟨left, cnt, vu, vr, U, R, rfl, rfl, hat, hpu, hpr, hbl, hsz⟩ := hrel
        obtain ⟨wo, rfl⟩ : ∃ x, x = wr := ⟨wr, rfl⟩
        have HAT := Lib.hid hat
        have HPU := Lib.hid hpu
        have HPR := Lib.hid hpr
        have HBL := Lib.hid hbl
        have hlu : U.length ≤ 1048576 := by rw [hpu.length_eq]; exact Nat.le_trans (Disk.part_length _ _ _ _ _) hA6
        have hlr : R.length ≤ 1048576 := by rw [hpr.length_eq]; exact Nat.le_trans (Disk.part_length _ _ _ _ _) hA6
        obtain ⟨au, cu, rfl⟩ := own_form hat.ru
        obtain ⟨ar, cr, rfl⟩ := own_form hat.rr
        clear hat hpu hpr hbl
        go_wp2_with (first | (at_next; refine wpList_next elF rfl _ rfl Tryz.underlying9 (fun c => .agg #[.string (bs c.path), .bool c.dir, .string (bs c.data)]) (fun c => rfl) rfl HAT.out.rng ?_ ?_))
        · intro hno
          have HU : Hid (U.Perm (Disk.pick (Disk.cls b) 1 Disk.unl a)) := Lib.hid (by have := HPU.out; rwa [Disk.part_end hno] at this)
          have HR : Hid (R.Perm (Disk.pick (Disk.cls b) 2 Disk.rmd a)) := Lib.hid (by have := HPR.out; rwa [Disk.part_end hno] at this)
          have HMA4 := Lib.hid HAT.out.rng.owns
          have HMB4 := Lib.hid HAT.out.oth
          have hbawo := HAT.out.rng.owns.lt
          clear hno HPU HPR
          go_wp2_with (first | (at_range; refine wpList_range elF rfl _ 74 rfl 70 Tryz.underlying9 Tryz.underlying74 rfl HMB4.out ?_; intro w5 cnt5 hrg5 hg5 hs5))
          try go_frame
          obtain ⟨r2, hr2⟩ : ∃ r, r = wo.heap.size := ⟨_, rfl⟩
          rw [← hr2] at hrg5 hs5 hbawo ⊢
          have hr2w : w.heap.size ≤ r2 := by omega
          have hbar : ba < r2 := hbawo
          have HB5 : Hid (Below r2 wo w5) := Lib.hid ((Below.refl r2 wo).grown hg5 (by omega) (fun j hj => by cases hj))
          have HMA5 := Lib.hid (HMA4.out.kept hg5 (by simp))
          have HROWS : Hid (∀ W, Below r2 wo W → DRow W r1 (.slice au U.length cu) U ∧ DRow W r1 (.slice ar R.length cr) R) := Lib.hid (fun W hW => ⟨DRow.below HAT.out.ru hW (fun g hg => by have := (DRow.lt HAT.out.ru hg).2; omega), DRow.below HAT.out.rr hW (fun g hg => by have := (DRow.lt HAT.out.rr hg).2; omega)⟩)
          have HSEP1 := Lib.hid HAT.out.sep
          have HLOW : Hid ((∀ g, (Value.slice au U.length cu).ownBlock = some g → g < r2) ∧ (∀ g, (Value.slice ar R.length cr).ownBlock = some g → g < r2)) := Lib.hid ⟨fun g hg => by have := (DRow.lt HAT.out.ru hg).2; omega, fun g hg => by have := (DRow.lt HAT.out.rr hg).2; omega⟩
          have HWO : Hid (∀ W, Below r2 wo W → Below w.heap.size w W) := Lib.hid (fun W hW => HBL.out.trans (hW.mono hr2w))
          clear hr2 hg5 HAT HBL HMA4 HMB4
          go_loopw [12, 13] (fun p q wr => ∃ left cnt vu vr U R, p = vu ∧ q = vr ∧ At 0 r2 bb r2 nb ba na b a left cnt vu vr U R wr ∧ U.Perm (Disk.part left (Disk.cls2 a) 3 Disk.mkd b) ∧ R.Perm (Disk.part left (Disk.cls2 a) 4 Disk.putd b) ∧ Below r2 wo wr ∧ r2 ≤ wr.heap.size) (fun _ _ wr => wr.rangeLeft bb r2)
          case atStart =>
            have HLK : (fun p => (SM.look (b.map Disk.withPath) p).isSome) = fun p => (SM.look b p).isSome := by
              funext p
              rw [Disk.look_withPath]
              cases SM.look b p <;> rfl
            rw [HLK] at hrg5
            refine ⟨_, _, _, _, [], [], rfl, rfl, ⟨hrg5, HMA5.out, World.ownsRow_nil _ _ _ _, World.ownsRow_nil _ _ _ _, fun g h => by cases h⟩, ?_, ?_, HB5.out, by omega⟩
            · rw [Disk.part_start _ _ _ HB.out.1]
            · rw [Disk.part_start _ _ _ HB.out.1]
          case round =>
            obtain ⟨U1, hU1⟩ : ∃ x, x = U := ⟨_, rfl⟩
            obtain ⟨R1, hR1⟩ : ∃ x, x = R := ⟨_, rfl⟩
            rw [← hU1] at HU hlu HROWS HSEP1 HLOW ⊢
            rw [← hR1] at HR hlr HROWS HSEP1 HLOW ⊢
            clear hU1 hR1 hrg5 HB5 HMA5
            obtain ⟨left, cnt, vu, vr, U, R, rfl, rfl, hat, hpu, hpr, hbl, hsz⟩ := hrel
            obtain ⟨wq, rfl⟩ : ∃ x, x = wr := ⟨wr, rfl⟩
            have HAT := Lib.hid hat
            have HPU := Lib.hid hpu
            have HPR := Lib.hid hpr
            have HBL := Lib.hid hbl
            have hlu1 := hlu
            have hlr1 := hlr
            have hlu : U.length ≤ 1048576 := by rw [hpu.length_eq]; exact Nat.le_trans (Disk.part_length _ _ _ _ _) hB6
            have hlr : R.length ≤ 1048576 := by rw [hpr.length_eq]; exact Nat.le_trans (Disk.part_length _ _ _ _ _) hB6
            obtain ⟨am, cm, rfl⟩ := own_form hat.ru
            obtain ⟨ap, cp0, rfl⟩ := own_form hat.rr
            clear hat hpu hpr hbl
            go_wp2_with (first | (at_next; refine wpList_next elF rfl _ rfl Tryz.underlying9 (fun c => .agg #[.string (bs c.path), .bool c.dir, .string (bs c.data)]) (fun c => rfl) rfl HAT.out.rng ?_ ?_))
            · intro hno
              have HM : Hid (U.Perm (Disk.pick (Disk.cls2 a) 3 Disk.mkd b)) := Lib.hid (by have := HPU.out; rwa [Disk.part_end hno] at this)
              have HP : Hid (R.Perm (Disk.pick (Disk.cls2 a) 4 Disk.putd b)) := Lib.hid (by have := HPR.out; rwa [Disk.part_end hno] at this)
              have HROW1 := Lib.hid (HROWS.out _ HBL.out)
              have HROWM := Lib.hid HAT.out.ru
              have HROWP := Lib.hid HAT.out.rr
              have HSEP2 := Lib.hid HAT.out.sep
              have hlow : ∀ (v u : Value) (l : List Disk.Dd), (∀ g, v.ownBlock = some g → g < r2) → DRow wq r2 u l → Sep v u := fun v u l h1 h2 g hg hu => by
                have := h1 g hg
                have := (DRow.lt h2 hu).1
                omega
              have SUM := Lib.hid (hlow _ _ _ HLOW.out.1 HROWM.out)
              have SUP := Lib.hid (hlow _ _ _ HLOW.out.1 HROWP.out)
              have SRM := Lib.hid (hlow _ _ _ HLOW.out.2 HROWM.out)
              have SRP := Lib.hid (hlow _ _ _ HLOW.out.2 HROWP.out)
              have HWZ := Lib.hid (HWO.out _ HBL.out)
              clear hno hlow HPU HPR HAT HROWS HLOW HWO HBL
              obtain ⟨S1, hS1⟩ : ∃ x, x = Disk.pick (Disk.cls b) 1 Disk.unl a := ⟨_, rfl⟩
              obtain ⟨S2, hS2⟩ : ∃ x, x = Disk.pick (Disk.cls b) 2 Disk.rmd a := ⟨_, rfl⟩
              obtain ⟨S3, hS3⟩ : ∃ x, x = Disk.pick (Disk.cls2 a) 3 Disk.mkd b := ⟨_, rfl⟩
              obtain ⟨S4, hS4⟩ : ∃ x, x = Disk.pick (Disk.cls2 a) 4 Disk.putd b := ⟨_, rfl⟩
              have R1' : Hid (Rise S1) := Lib.hid (by rw [hS1]; exact Disk.pick_rise (fun _ => rfl) HA.out.1)
              have R2' : Hid (Rise S2) := Lib.hid (by rw [hS2]; exact Disk.pick_rise (fun _ => rfl) HA.out.1)
              have R3' : Hid (Rise S3) := Lib.hid (by rw [hS3]; exact Disk.pick_rise (fun _ => rfl) HB.out.1)
              have R4' : Hid (Rise S4) := Lib.hid (by rw [hS4]; exact Disk.pick_rise (fun _ => rfl) HB.out.1)
              rw [← hS1] at HU
              rw [← hS2] at HR
              rw [← hS3] at HM
              rw [← hS4] at HP
              have HRS : Hid (Disk.deedsRes before after = (([S1.reverse, S2.reverse, S3, S4].flatMap id : List Disk.Dd), (0 : Int))) := Lib.hid (by
                rw [HF.out]
                unfold Disk.delta
                rw [← hS1, ← hS2, ← hS3, ← hS4]
                simp)
              have hlen : ([S1.reverse, S2.reverse, S3, S4].flatMap id).length ≤ 1099511627776 := by
                have l1 := HU.out.length_eq
                have l2 := HR.out.length_eq
                have l3 := HM.out.length_eq
                have l4 := HP.out.length_eq
                simp
                omega
              have HLEN := Lib.hid hlen
              clear hS1 hS2 hS3 hS4 hlen
              have F1 := Lib.hid (falling_any HROW1.out.1 HU.out R1'.out (by omega))
              go_wp2_with fail
              refine F1.out.mono ?_
              rintro e w8 ⟨rfl, hd8, hg8⟩
              have D8 := Lib.hid (And.intro (Sep.kept HROW1.out.2 HSEP1.out hg8) (And.intro (Sep.kept HROWM.out SUM.out hg8) (Sep.kept HROWP.out SUP.out hg8)))
              have E8 := Lib.hid hd8
              have B8 := Lib.hid (HWZ.out.grown hg8 HWZ.out.size (fun g hg => by have := (DRow.lt HROW1.out.1 hg).1; omega))
              clear hd8 hg8
              have F2 := Lib.hid (falling_any D8.out.1 HR.out R2'.out (by omega))
              go_wp2_with fail
              refine F2.out.mono ?_
              rintro e w9 ⟨rfl, hd9, hg9⟩
              have D9 := Lib.hid (And.intro (Sep.kept E8.out HSEP1.out.symm hg9) (And.intro (Sep.kept D8.out.2.1 SRM.out hg9) (Sep.kept D8.out.2.2 SRP.out hg9)))
              have E9 := Lib.hid hd9
              have B9 := Lib.hid (B8.out.grown hg9 B8.out.size (fun g hg => by have := (DRow.lt D8.out.1 hg).1; omega))
              clear hd9 hg9
              have F3 := Lib.hid (rising_any D9.out.2.1 HM.out R3'.out (by omega))
              go_wp2_with fail
              refine F3.out.mono ?_
              rintro e w10 ⟨rfl, hd10, hg10⟩
              have D10 := Lib.hid (And.intro (Sep.kept D9.out.1 SUM.out.symm hg10) (And.intro (Sep.kept E9.out SRM.out.symm hg10) (Sep.kept D9.out.2.2 HSEP2.out hg10)))
              have E10 := Lib.hid hd10
              have B10 := Lib.hid (B9.out.grown hg10 B9.out.size (fun g hg => by have := (DRow.lt D9.out.2.1 hg).1; omega))
              clear hd10 hg10
              have F4 := Lib.hid (rising_any D10.out.2.2 HP.out R4'.out (by omega))
              go_wp2_with fail
              refine F4.out.mono ?_
              rintro e w11 ⟨rfl, hd11, hg11⟩
              have D11 := Lib.hid (And.intro (Sep.kept D10.out.1 SUP.out.symm hg11) (And.intro (Sep.kept D10.out.2.1 SRP.out.symm hg11) (Sep.kept E10.out HSEP2.out.symm hg11)))
              have E11 := Lib.hid hd11
              have B11 := Lib.hid (B10.out.grown hg11 B10.out.size (fun g hg => by have := (DRow.lt D10.out.2.2 hg).1; omega))
              clear hd11 hg11
              have HFOUR : Hid (Four (w11.alloc (.cells #[.slice au U1.length cu, .slice ar R1.length cr, .slice am U.length cm, .slice ap R.length cp0] 23)) 0 w11.heap.size [.slice au U1.length cu, .slice ar R1.length cr, .slice am U.length cm, .slice ap R.length cp0] [S1.reverse, S2.reverse, S3, S4]) := Lib.hid ⟨rfl, fun i v hv => by
                rw [World.cell?_alloc_new]
                simpa using hv, fun i v l hv hl => by
                have hi4 : i < 4 := by have := (List.getElem?_eq_some_iff.1 hv).1; simpa using this
                match i, hi4, hv, hl with
                | 0, _, hv, hl => simp at hv hl; subst hv; subst hl; exact DRow.mono (World.ownsRow.alloc D11.out.1 _) (Nat.zero_le _)
                | 1, _, hv, hl => simp at hv hl; subst hv; subst hl; exact DRow.mono (World.ownsRow.alloc D11.out.2.1 _) (Nat.zero_le _)
                | 2, _, hv, hl => simp at hv hl; subst hv; subst hl; exact DRow.mono (World.ownsRow.alloc D11.out.2.2 _) (Nat.zero_le _)
                | 3, _, hv, hl => simp at hv hl; subst hv; subst hl; exact DRow.mono (World.ownsRow.alloc E11.out _) (Nat.zero_le _), by simp⟩
              obtain ⟨L, hL⟩ : ∃ L, L = ([S1.reverse, S2.reverse, S3, S4].flatMap id : List Disk.Dd) := ⟨_, rfl⟩
              have hcc := concat_any HFOUR.out (by simp) HLEN.out
              rw [← hL] at hcc HRS
              have HCC := Lib.hid hcc
              clear hcc hL
              have hb11 := B11.out.size
              go_wp2_with fail
              refine HCC.out.mono ?_
              rintro e w13 ⟨v13, rfl, hd13, hb13⟩
              obtain ⟨a13, c13, rfl⟩ := own_form hd13
              have HFIN : Hid (DeltaPost before after w (.returned (.tuple #[.slice a13 L.length c13, .int .i64 0])) w13) := Lib.hid (by
                unfold DeltaPost
                rw [HRS.out]
                exact ⟨_, rfl, DRow.mono hd13 (by simp; omega), (B11.out.alloc hb11 _).trans (hb13.mono (by simp; omega))⟩)
              clear hd13
              go_wp2
              go_returns
              exact HFIN.out
            · intro s c w4 cnt1 hls hlk hss hrg4 hlt hg4 hs4 hen
              have hlk2 := hlk
              rw [Disk.look_withPath] at hlk2
              obtain ⟨cp, cd, ct⟩ := c
              obtain ⟨ht, hcp⟩ : SM.look b s.data.toList = some ⟨cd, ct⟩ ∧ cp = s.data.toList := by
                cases h : SM.look b s.data.toList with
                | none => rw [h] at hlk2; simp at hlk2
                | some t =>
                  rw [h] at hlk2
                  simp at hlk2
                  obtain ⟨e1, e2, e3⟩ := hlk2
                  subst e2
                  subst e3
                  exact ⟨rfl, e1.symm⟩
              have HCP := Lib.hid hcp
              have PU := Lib.hid (And.intro (perm_skip (c := Disk.cls2 a) (k := 3) (f := Disk.mkd) HPU.out HB.out.1 ht hls) (perm_add (c := Disk.cls2 a) (k := 3) (f := Disk.mkd) HPU.out HB.out.1 ht hls))
              have PR := Lib.hid (And.intro (perm_skip (c := Disk.cls2 a) (k := 4) (f := Disk.putd) HPR.out HB.out.1 ht hls) (perm_add (c := Disk.cls2 a) (k := 4) (f := Disk.putd) HPR.out HB.out.1 ht hls))
              have H4 := Lib.hid (HAT.out.step hg4 hbar hrg4)
              have HB4 := Lib.hid (HBL.out.grown hg4 hsz (fun j hj => by cases hj; exact Nat.le_refl _))
              have hsz4 := HB4.out.size
              have hlw := Disk.look_withPath a s.data.toList
              dsimp only at hen ⊢
              have hr4 : r2 ≤ w4.heap.size := by omega
              clear hlk hlk2 hls hrg4 hcp ht hg4 hs4
              cases hy : SM.look a s.data.toList with
              | none =>
                rw [hy] at hlw
                have HV : Hid (elF.val ((SM.look (a.map Disk.withPath) s.data.toList).getD zeroF) = .agg #[.string ⟨#[]⟩, .bool false, .string ⟨#[]⟩] ∧ (SM.look (a.map Disk.withPath) s.data.toList).isSome = false) := Lib.hid (by rw [hlw]; exact ⟨rfl, rfl⟩)
                have HCLS : Hid (Disk.cls2 a (s.data.toList, ⟨cd, ct⟩) = if cd then 3 else 4) := Lib.hid (by unfold Disk.cls2; rw [hy])
                clear hy hlw
                cases cd
                · have H5 := Lib.hid (H4.out.alloc (.cells #[.string (bs cp), .bool false, .string (bs ct)] 70))
                  have H6 := Lib.hid (H5.out.alloc (.cells #[.string ⟨#[]⟩, .bool false, .string ⟨#[]⟩] 70))
                  have HB6 := Lib.hid ((HB4.out.alloc hr4 (.cells #[.string (bs cp), .bool false, .string (bs ct)] 70)).alloc (by simp; omega) (.cells #[.string ⟨#[]⟩, .bool false, .string ⟨#[]⟩] 70))
                  go_wp2_with (first | (at_lookup; refine wpList_look_ok elF rfl _ _ 74 rfl 70 Tryz.underlying9 Tryz.underlying74 zeroF (zF _) rfl H5.out.oth s hss rfl _ HV.out.1 _ HV.out.2 ?_) | (at_builtin; refine wpList_append_own_at _ rfl _ _ 23 rfl r2 39 i0 (.agg #[.int .i64 0, .string ByteArray.empty, .string ByteArray.empty]) 3 40 Tryz.underlying23 hi hz0 hz1 hz2 rfl (by decide) _ _ _ rfl (World.ownsRow.alloc H6.out.rr _) ⟨w4.heap.size + 2, 0, none⟩ 1 1 [.int .i64 4, .string s, .string (bs ct)] rfl rfl (new_cells2 _ _ (by simp) _ _) (fun x hx => by simp at hx; rcases hx with rfl | rfl | rfl <;> rfl) (by unfold maxLen; omega) (by omega) (by simp; omega) ?_; intro v7 w7 hown7 hgrow7 _ hloc7))
                  obtain ⟨a7, c7, rfl⟩ := own_form hown7
                  have HZ := Lib.hid (H6.out.alloc (.cells [.int .i64 4, .string s, .string (bs ct)].toArray 39))
                  have H7 := Lib.hid (HZ.out.addR (d := Disk.putd (s.data.toList, ⟨false, ct⟩)) hgrow7 (DRow.snoc hown7 rfl) hloc7)
                  have hsz7 := hgrow7.size
                  have HB7 := Lib.hid ((HB6.out.alloc (by simp; omega) (.cells [.int .i64 4, .string s, .string (bs ct)].toArray 39)).grown hgrow7 (by simp; omega) (fun g hg => Nat.le_trans (Nat.le_refl _) (World.ownsRow.lt H6.out.rr g hg).1))
                  go_roundw
                  case rel => exact ⟨_, cnt1, _, _, U, R ++ [Disk.putd (s.data.toList, ⟨false, ct⟩)], rfl, rfl, H7.out, PU.out.1 (by rw [HCLS.out]; first | rfl | decide), PR.out.2 (by rw [HCLS.out]; first | rfl | decide), HB7.out, by simp at hsz7; omega⟩
                  case measure => rw [H7.out.rng.left_eq, HAT.out.rng.left_eq]; exact hlt
                · have H5 := Lib.hid (H4.out.alloc (.cells #[.string (bs cp), .bool true, .string (bs ct)] 70))
                  have H6 := Lib.hid (H5.out.alloc (.cells #[.string ⟨#[]⟩, .bool false, .string ⟨#[]⟩] 70))
                  have HB6 := Lib.hid ((HB4.out.alloc hr4 (.cells #[.string (bs cp), .bool true, .string (bs ct)] 70)).alloc (by simp; omega) (.cells #[.string ⟨#[]⟩, .bool false, .string ⟨#[]⟩] 70))
                  go_wp2_with (first | (at_lookup; refine wpList_look_ok elF rfl _ _ 74 rfl 70 Tryz.underlying9 Tryz.underlying74 zeroF (zF _) rfl H5.out.oth s hss rfl _ HV.out.1 _ HV.out.2 ?_) | (at_builtin; refine wpList_append_own_at _ rfl _ _ 23 rfl r2 39 i0 (.agg #[.int .i64 0, .string ByteArray.empty, .string ByteArray.empty]) 3 40 Tryz.underlying23 hi hz0 hz1 hz2 rfl (by decide) _ _ _ rfl (World.ownsRow.alloc H6.out.ru _) ⟨w4.heap.size + 2, 0, none⟩ 1 1 [.int .i64 3, .string s, .string ByteArray.empty] rfl rfl (new_cells2 _ _ (by simp) _ _) (fun x hx => by simp at hx; rcases hx with rfl | rfl | rfl <;> rfl) (by unfold maxLen; omega) (by omega) (by simp; omega) ?_; intro v7 w7 hown7 hgrow7 _ hloc7))
                  obtain ⟨a7, c7, rfl⟩ := own_form hown7
                  have HZ := Lib.hid (H6.out.alloc (.cells [.int .i64 3, .string s, .string ByteArray.empty].toArray 39))
                  have H7 := Lib.hid (HZ.out.addU (d := Disk.mkd (s.data.toList, ⟨true, ct⟩)) hgrow7 (DRow.snoc hown7 rfl) hloc7)
                  have hsz7 := hgrow7.size
                  have HB7 := Lib.hid ((HB6.out.alloc (by simp; omega) (.cells [.int .i64 3, .string s, .string ByteArray.empty].toArray 39)).grown hgrow7 (by simp; omega) (fun g hg => Nat.le_trans (Nat.le_refl _) (World.ownsRow.lt H6.out.ru g hg).1))
                  go_roundw
                  case rel => exact ⟨_, cnt1, _, _, U ++ [Disk.mkd (s.data.toList, ⟨true, ct⟩)], R, rfl, rfl, H7.out, PU.out.2 (by rw [HCLS.out]; first | rfl | decide), PR.out.1 (by rw [HCLS.out]; first | rfl | decide), HB7.out, by simp at hsz7; omega⟩
                  case measure => rw [H7.out.rng.left_eq, HAT.out.rng.left_eq]; exact hlt
              | some y =>
                obtain ⟨yd, yt⟩ := y
                rw [hy] at hlw
                have HV : Hid (elF.val ((SM.look (a.map Disk.withPath) s.data.toList).getD zeroF) = .agg #[.string (bs s.data.toList), .bool yd, .string (bs yt)] ∧ (SM.look (a.map Disk.withPath) s.data.toList).isSome = true) := Lib.hid (by rw [hlw]; exact ⟨rfl, rfl⟩)
                have HCLS0 : Hid (Disk.cls2 a (s.data.toList, ⟨cd, ct⟩) = if (⟨yd, yt⟩ : Disk.T) = ⟨cd, ct⟩ then 0 else if cd then 3 else 4) := Lib.hid (by unfold Disk.cls2; rw [hy])
                clear hy hlw
                have hfe := fun w => fileEql w ⟨s.data.toList, yd, yt⟩ ⟨cp, cd, ct⟩
                have hsf : sameF ⟨s.data.toList, yd, yt⟩ ⟨cp, cd, ct⟩ = decide ((⟨yd, yt⟩ : Disk.T) = ⟨cd, ct⟩) := by
                  unfold sameF
                  rw [HCP.out]
                  by_cases h1 : yd = cd <;> by_cases h2 : yt = ct <;> simp [h1, h2]
                by_cases heq : (⟨yd, yt⟩ : Disk.T) = ⟨cd, ct⟩
                · have HCLS : Hid (Disk.cls2 a (s.data.toList, ⟨cd, ct⟩) = 0) := Lib.hid (by rw [HCLS0.out, if_pos heq])
                  rw [decide_eq_true heq] at hsf
                  rw [hsf] at hfe
                  clear heq hsf
                  have H5 := Lib.hid (H4.out.alloc (.cells #[.string (bs cp), .bool cd, .string (bs ct)] 70))
                  have H6 := Lib.hid (H5.out.alloc (.cells #[.string (bs s.data.toList), .bool yd, .string (bs yt)] 70))
                  have HB6 := Lib.hid ((HB4.out.alloc hr4 (.cells #[.string (bs cp), .bool cd, .string (bs ct)] 70)).alloc (by simp; omega) (.cells #[.string (bs s.data.toList), .bool yd, .string (bs yt)] 70))
                  go_wp2_with (first | (at_lookup; refine wpList_look_ok elF rfl _ _ 74 rfl 70 Tryz.underlying9 Tryz.underlying74 zeroF (zF _) rfl H5.out.oth s hss rfl _ HV.out.1 _ HV.out.2 ?_))
                  go_roundw
                  case rel => exact ⟨_, cnt1, _, _, U, R, rfl, rfl, H6.out, PU.out.1 (by rw [HCLS.out]; decide), PR.out.1 (by rw [HCLS.out]; decide), HB6.out, by simp; omega⟩
                  case measure => rw [H6.out.rng.left_eq, HAT.out.rng.left_eq]; exact hlt
                · have HCLS : Hid (Disk.cls2 a (s.data.toList, ⟨cd, ct⟩) = if cd then 3 else 4) := Lib.hid (by rw [HCLS0.out, if_neg heq])
                  rw [decide_eq_false heq] at hsf
                  rw [hsf] at hfe
                  clear heq hsf HCLS0
                  cases cd
                  · have H5 := Lib.hid (H4.out.alloc (.cells #[.string (bs cp), .bool false, .string (bs ct)] 70))
                    have H6 := Lib.hid (H5.out.alloc (.cells #[.string (bs s.data.toList), .bool yd, .string (bs yt)] 70))
                    have HB6 := Lib.hid ((HB4.out.alloc hr4 (.cells #[.string (bs cp), .bool false, .string (bs ct)] 70)).alloc (by simp; omega) (.cells #[.string (bs s.data.toList), .bool yd, .string (bs yt)] 70))
                    go_wp2_with (first | (at_lookup; refine wpList_look_ok elF rfl _ _ 74 rfl 70 Tryz.underlying9 Tryz.underlying74 zeroF (zF _) rfl H5.out.oth s hss rfl _ HV.out.1 _ HV.out.2 ?_) | (at_builtin; refine wpList_append_own_at _ rfl _ _ 23 rfl r2 39 i0 (.agg #[.int .i64 0, .string ByteArray.empty, .string ByteArray.empty]) 3 40 Tryz.underlying23 hi hz0 hz1 hz2 rfl (by decide) _ _ _ rfl (World.ownsRow.alloc H6.out.rr _) ⟨w4.heap.size + 2, 0, none⟩ 1 1 [.int .i64 4, .string s, .string (bs ct)] rfl rfl (new_cells2 _ _ (by simp) _ _) (fun x hx => by simp at hx; rcases hx with rfl | rfl | rfl <;> rfl) (by unfold maxLen; omega) (by omega) (by simp; omega) ?_; intro v7 w7 hown7 hgrow7 _ hloc7))
                    obtain ⟨a7, c7, rfl⟩ := own_form hown7
                    have HZ := Lib.hid (H6.out.alloc (.cells [.int .i64 4, .string s, .string (bs ct)].toArray 39))
                    have H7 := Lib.hid (HZ.out.addR (d := Disk.putd (s.data.toList, ⟨false, ct⟩)) hgrow7 (DRow.snoc hown7 rfl) hloc7)
                    have hsz7 := hgrow7.size
                    have HB7 := Lib.hid ((HB6.out.alloc (by simp; omega) (.cells [.int .i64 4, .string s, .string (bs ct)].toArray 39)).grown hgrow7 (by simp; omega) (fun g hg => Nat.le_trans (Nat.le_refl _) (World.ownsRow.lt H6.out.rr g hg).1))
                    go_roundw
                    case rel => exact ⟨_, cnt1, _, _, U, R ++ [Disk.putd (s.data.toList, ⟨false, ct⟩)], rfl, rfl, H7.out, PU.out.1 (by rw [HCLS.out]; first | rfl | decide), PR.out.2 (by rw [HCLS.out]; first | rfl | decide), HB7.out, by simp at hsz7; omega⟩
                    case measure => rw [H7.out.rng.left_eq, HAT.out.rng.left_eq]; exact hlt
                  · have H5 := Lib.hid (H4.out.alloc (.cells #[.string (bs cp), .bool true, .string (bs ct)] 70))
                    have H6 := Lib.hid (H5.out.alloc (.cells #[.string (bs s.data.toList), .bool yd, .string (bs yt)] 70))
                    have HB6 := Lib.hid ((HB4.out.alloc hr4 (.cells #[.string (bs cp), .bool true, .string (bs ct)] 70)).alloc (by simp; omega) (.cells #[.string (bs s.data.toList), .bool yd, .string (bs yt)] 70))
                    go_wp2_with (first | (at_lookup; refine wpList_look_ok elF rfl _ _ 74 rfl 70 Tryz.underlying9 Tryz.underlying74 zeroF (zF _) rfl H5.out.oth s hss rfl _ HV.out.1 _ HV.out.2 ?_) | (at_builtin; refine wpList_append_own_at _ rfl _ _ 23 rfl r2 39 i0 (.agg #[.int .i64 0, .string ByteArray.empty, .string ByteArray.empty]) 3 40 Tryz.underlying23 hi hz0 hz1 hz2 rfl (by decide) _ _ _ rfl (World.ownsRow.alloc H6.out.ru _) ⟨w4.heap.size + 2, 0, none⟩ 1 1 [.int .i64 3, .string s, .string ByteArray.empty] rfl rfl (new_cells2 _ _ (by simp) _ _) (fun x hx => by simp at hx; rcases hx with rfl | rfl | rfl <;> rfl) (by unfold maxLen; omega) (by omega) (by simp; omega) ?_; intro v7 w7 hown7 hgrow7 _ hloc7))
                    obtain ⟨a7, c7, rfl⟩ := own_form hown7
                    have HZ := Lib.hid (H6.out.alloc (.cells [.int .i64 3, .string s, .string ByteArray.empty].toArray 39))
                    have H7 := Lib.hid (HZ.out.addU (d := Disk.mkd (s.data.toList, ⟨true, ct⟩)) hgrow7 (DRow.snoc hown7 rfl) hloc7)
                    have hsz7 := hgrow7.size
                    have HB7 := Lib.hid ((HB6.out.alloc (by simp; omega) (.cells [.int .i64 3, .string s, .string ByteArray.empty].toArray 39)).grown hgrow7 (by simp; omega) (fun g hg => Nat.le_trans (Nat.le_refl _) (World.ownsRow.lt H6.out.ru g hg).1))
                    go_roundw
                    case rel => exact ⟨_, cnt1, _, _, U ++ [Disk.mkd (s.data.toList, ⟨true, ct⟩)], R, rfl, rfl, H7.out, PU.out.2 (by rw [HCLS.out]; first | rfl | decide), PR.out.1 (by rw [HCLS.out]; first | rfl | decide), HB7.out, by simp at hsz7; omega⟩
                    case measure => rw [H7.out.rng.left_eq, HAT.out.rng.left_eq]; exact hlt
        · intro s c w4 cnt1 hls hlk hss hrg4 hlt hg4 hs4 hen
          have hlk2 := hlk
          rw [Disk.look_withPath] at hlk2
          obtain ⟨cp, cd, ct⟩ := c
          obtain ⟨ht, hcp⟩ : SM.look a s.data.toList = some ⟨cd, ct⟩ ∧ cp = s.data.toList := by
            cases h : SM.look a s.data.toList with
            | none => rw [h] at hlk2; simp at hlk2
            | some t =>
              rw [h] at hlk2
              simp at hlk2
              obtain ⟨e1, e2, e3⟩ := hlk2
              subst e2
              subst e3
              exact ⟨rfl, e1.symm⟩
          have HCP := Lib.hid hcp
          have PU := Lib.hid (And.intro (perm_skip (c := Disk.cls b) (k := 1) (f := Disk.unl) HPU.out HA.out.1 ht hls) (perm_add (c := Disk.cls b) (k := 1) (f := Disk.unl) HPU.out HA.out.1 ht hls))
          have PR := Lib.hid (And.intro (perm_skip (c := Disk.cls b) (k := 2) (f := Disk.rmd) HPR.out HA.out.1 ht hls) (perm_add (c := Disk.cls b) (k := 2) (f := Disk.rmd) HPR.out HA.out.1 ht hls))
          have H4 := Lib.hid (HAT.out.step hg4 hbbr hrg4)
          have HB4 := Lib.hid (HBL.out.grown hg4 HBL.out.size (fun j hj => by cases hj; exact hr1w))
          have hsz4 := HB4.out.size
          have hlw := Disk.look_withPath b s.data.toList
          dsimp only at hen ⊢
          have hr4 : r1 ≤ w4.heap.size := by omega
          clear hlk hlk2 hls hrg4 hcp ht hg4 hs4
          cases hy : SM.look b s.data.toList with
          | none =>
            rw [hy] at hlw
            have HV : Hid (elF.val ((SM.look (b.map Disk.withPath) s.data.toList).getD zeroF) = .agg #[.string ⟨#[]⟩, .bool false, .string ⟨#[]⟩] ∧ (SM.look (b.map Disk.withPath) s.data.toList).isSome = false) := Lib.hid (by rw [hlw]; exact ⟨rfl, rfl⟩)
            have HCLS : Hid (Disk.cls b (s.data.toList, ⟨cd, ct⟩) = if cd then 2 else 1) := Lib.hid (by unfold Disk.cls; rw [hy])
            clear hy hlw
            cases cd
            · have H5 := Lib.hid (H4.out.alloc (.cells #[.string (bs cp), .bool false, .string (bs ct)] 70))
              have H6 := Lib.hid (H5.out.alloc (.cells #[.string ⟨#[]⟩, .bool false, .string ⟨#[]⟩] 70))
              have HB6 := Lib.hid ((HB4.out.alloc HB4.out.size (.cells #[.string (bs cp), .bool false, .string (bs ct)] 70)).alloc (by simp; omega) (.cells #[.string ⟨#[]⟩, .bool false, .string ⟨#[]⟩] 70))
              go_wp2_with (first | (at_lookup; refine wpList_look_ok elF rfl _ _ 74 rfl 70 Tryz.underlying9 Tryz.underlying74 zeroF (zF _) rfl H5.out.oth s hss rfl _ HV.out.1 _ HV.out.2 ?_) | (at_builtin; refine wpList_append_own_at _ rfl _ _ 23 rfl r1 39 i0 (.agg #[.int .i64 0, .string ByteArray.empty, .string ByteArray.empty]) 3 40 Tryz.underlying23 hi hz0 hz1 hz2 rfl (by decide) _ _ _ rfl (World.ownsRow.alloc H6.out.ru _) ⟨w4.heap.size + 2, 0, none⟩ 1 1 [.int .i64 1, .string s, .string ByteArray.empty] rfl rfl (new_cells2 _ _ (by simp) _ _) (fun x hx => by simp at hx; rcases hx with rfl | rfl | rfl <;> rfl) (by unfold maxLen; omega) (by omega) (by simp; omega) ?_; intro v7 w7 hown7 hgrow7 _ hloc7))
              obtain ⟨a7, c7, rfl⟩ := own_form hown7
              have HZ := Lib.hid (H6.out.alloc (.cells [.int .i64 1, .string s, .string ByteArray.empty].toArray 39))
              have H7 := Lib.hid (HZ.out.addU (d := Disk.unl (s.data.toList, ⟨false, ct⟩)) hgrow7 (DRow.snoc hown7 rfl) hloc7)
              have hsz7 := hgrow7.size
              have HB7 := Lib.hid ((HB6.out.alloc (by simp; omega) (.cells [.int .i64 1, .string s, .string ByteArray.empty].toArray 39)).grown hgrow7 (by simp; omega) (fun g hg => Nat.le_trans hr1w (World.ownsRow.lt H6.out.ru g hg).1))
              go_roundw
              case rel => exact ⟨_, cnt1, _, _, U ++ [Disk.unl (s.data.toList, ⟨false, ct⟩)], R, rfl, rfl, H7.out, PU.out.2 (by rw [HCLS.out]; first | rfl | decide), PR.out.1 (by rw [HCLS.out]; first | rfl | decide), HB7.out, by simp at hsz7; omega⟩
              case measure => rw [H7.out.rng.left_eq, HAT.out.rng.left_eq]; exact hlt
            · have H5 := Lib.hid (H4.out.alloc (.cells #[.string (bs cp), .bool true, .string (bs ct)] 70))
              have H6 := Lib.hid (H5.out.alloc (.cells #[.string ⟨#[]⟩, .bool false, .string ⟨#[]⟩] 70))
              have HB6 := Lib.hid ((HB4.out.alloc HB4.out.size (.cells #[.string (bs cp), .bool true, .string (bs ct)] 70)).alloc (by simp; omega) (.cells #[.string ⟨#[]⟩, .bool false, .string ⟨#[]⟩] 70))
              go_wp2_with (first | (at_lookup; refine wpList_look_ok elF rfl _ _ 74 rfl 70 Tryz.underlying9 Tryz.underlying74 zeroF (zF _) rfl H5.out.oth s hss rfl _ HV.out.1 _ HV.out.2 ?_) | (at_builtin; refine wpList_append_own_at _ rfl _ _ 23 rfl r1 39 i0 (.agg #[.int .i64 0, .string ByteArray.empty, .string ByteArray.empty]) 3 40 Tryz.underlying23 hi hz0 hz1 hz2 rfl (by decide) _ _ _ rfl (World.ownsRow.alloc H6.out.rr _) ⟨w4.heap.size + 2, 0, none⟩ 1 1 [.int .i64 2, .string s, .string ByteArray.empty] rfl rfl (new_cells2 _ _ (by simp) _ _) (fun x hx => by simp at hx; rcases hx with rfl | rfl | rfl <;> rfl) (by unfold maxLen; omega) (by omega) (by simp; omega) ?_; intro v7 w7 hown7 hgrow7 _ hloc7))
              obtain ⟨a7, c7, rfl⟩ := own_form hown7
              have HZ := Lib.hid (H6.out.alloc (.cells [.int .i64 2, .string s, .string ByteArray.empty].toArray 39))
              have H7 := Lib.hid (HZ.out.addR (d := Disk.rmd (s.data.toList, ⟨true, ct⟩)) hgrow7 (DRow.snoc hown7 rfl) hloc7)
              have hsz7 := hgrow7.size
              have HB7 := Lib.hid ((HB6.out.alloc (by simp; omega) (.cells [.int .i64 2, .string s, .string ByteArray.empty].toArray 39)).grown hgrow7 (by simp; omega) (fun g hg => Nat.le_trans hr1w (World.ownsRow.lt H6.out.rr g hg).1))
              go_roundw
              case rel => exact ⟨_, cnt1, _, _, U, R ++ [Disk.rmd (s.data.toList, ⟨true, ct⟩)], rfl, rfl, H7.out, PU.out.1 (by rw [HCLS.out]; first | rfl | decide), PR.out.2 (by rw [HCLS.out]; first | rfl | decide), HB7.out, by simp at hsz7; omega⟩
              case measure => rw [H7.out.rng.left_eq, HAT.out.rng.left_eq]; exact hlt
          | some y =>
            obtain ⟨yd, yt⟩ := y
            rw [hy] at hlw
            have HV : Hid (elF.val ((SM.look (b.map Disk.withPath) s.data.toList).getD zeroF) = .agg #[.string (bs s.data.toList), .bool yd, .string (bs yt)] ∧ (SM.look (b.map Disk.withPath) s.data.toList).isSome = true) := Lib.hid (by rw [hlw]; exact ⟨rfl, rfl⟩)
            have HCLS : Hid (Disk.cls b (s.data.toList, ⟨cd, ct⟩) = if cd = yd then 0 else if cd then 2 else 1) := Lib.hid (by unfold Disk.cls; rw [hy])
            clear hy hlw
            cases cd <;> cases yd
            · have H5 := Lib.hid (H4.out.alloc (.cells #[.string (bs cp), .bool false, .string (bs ct)] 70))
              have H6 := Lib.hid (H5.out.alloc (.cells #[.string (bs s.data.toList), .bool false, .string (bs yt)] 70))
              have HB6 := Lib.hid ((HB4.out.alloc HB4.out.size (.cells #[.string (bs cp), .bool false, .string (bs ct)] 70)).alloc (by simp; omega) (.cells #[.string (bs s.data.toList), .bool false, .string (bs yt)] 70))
              go_wp2_with (first | (at_lookup; refine wpList_look_ok elF rfl _ _ 74 rfl 70 Tryz.underlying9 Tryz.underlying74 zeroF (zF _) rfl H5.out.oth s hss rfl _ HV.out.1 _ HV.out.2 ?_))
              go_roundw
              case rel => exact ⟨_, cnt1, _, _, U, R, rfl, rfl, H6.out, PU.out.1 (by rw [HCLS.out]; decide), PR.out.1 (by rw [HCLS.out]; decide), HB6.out, by simp; omega⟩
              case measure => rw [H6.out.rng.left_eq, HAT.out.rng.left_eq]; exact hlt
            · have H5 := Lib.hid (H4.out.alloc (.cells #[.string (bs cp), .bool false, .string (bs ct)] 70))
              have H6 := Lib.hid (H5.out.alloc (.cells #[.string (bs s.data.toList), .bool true, .string (bs yt)] 70))
              have HB6 := Lib.hid ((HB4.out.alloc HB4.out.size (.cells #[.string (bs cp), .bool false, .string (bs ct)] 70)).alloc (by simp; omega) (.cells #[.string (bs s.data.toList), .bool true, .string (bs yt)] 70))
              go_wp2_with (first | (at_lookup; refine wpList_look_ok elF rfl _ _ 74 rfl 70 Tryz.underlying9 Tryz.underlying74 zeroF (zF _) rfl H5.out.oth s hss rfl _ HV.out.1 _ HV.out.2 ?_) | (at_builtin; refine wpList_append_own_at _ rfl _ _ 23 rfl r1 39 i0 (.agg #[.int .i64 0, .string ByteArray.empty, .string ByteArray.empty]) 3 40 Tryz.underlying23 hi hz0 hz1 hz2 rfl (by decide) _ _ _ rfl (World.ownsRow.alloc H6.out.ru _) ⟨w4.heap.size + 2, 0, none⟩ 1 1 [.int .i64 1, .string s, .string ByteArray.empty] rfl rfl (new_cells2 _ _ (by simp) _ _) (fun x hx => by simp at hx; rcases hx with rfl | rfl | rfl <;> rfl) (by unfold maxLen; omega) (by omega) (by simp; omega) ?_; intro v7 w7 hown7 hgrow7 _ hloc7))
              obtain ⟨a7, c7, rfl⟩ := own_form hown7
              have HZ := Lib.hid (H6.out.alloc (.cells [.int .i64 1, .string s, .string ByteArray.empty].toArray 39))
              have H7 := Lib.hid (HZ.out.addU (d := Disk.unl (s.data.toList, ⟨false, ct⟩)) hgrow7 (DRow.snoc hown7 rfl) hloc7)
              have hsz7 := hgrow7.size
              have HB7 := Lib.hid ((HB6.out.alloc (by simp; omega) (.cells [.int .i64 1, .string s, .string ByteArray.empty].toArray 39)).grown hgrow7 (by simp; omega) (fun g hg => Nat.le_trans hr1w (World.ownsRow.lt H6.out.ru g hg).1))
              go_roundw
              case rel => exact ⟨_, cnt1, _, _, U ++ [Disk.unl (s.data.toList, ⟨false, ct⟩)], R, rfl, rfl, H7.out, PU.out.2 (by rw [HCLS.out]; first | rfl | decide), PR.out.1 (by rw [HCLS.out]; first | rfl | decide), HB7.out, by simp at hsz7; omega⟩
              case measure => rw [H7.out.rng.left_eq, HAT.out.rng.left_eq]; exact hlt
            · have H5 := Lib.hid (H4.out.alloc (.cells #[.string (bs cp), .bool true, .string (bs ct)] 70))
              have H6 := Lib.hid (H5.out.alloc (.cells #[.string (bs s.data.toList), .bool false, .string (bs yt)] 70))
              have HB6 := Lib.hid ((HB4.out.alloc HB4.out.size (.cells #[.string (bs cp), .bool true, .string (bs ct)] 70)).alloc (by simp; omega) (.cells #[.string (bs s.data.toList), .bool false, .string (bs yt)] 70))
              go_wp2_with (first | (at_lookup; refine wpList_look_ok elF rfl _ _ 74 rfl 70 Tryz.underlying9 Tryz.underlying74 zeroF (zF _) rfl H5.out.oth s hss rfl _ HV.out.1 _ HV.out.2 ?_) | (at_builtin; refine wpList_append_own_at _ rfl _ _ 23 rfl r1 39 i0 (.agg #[.int .i64 0, .string ByteArray.empty, .string ByteArray.empty]) 3 40 Tryz.underlying23 hi hz0 hz1 hz2 rfl (by decide) _ _ _ rfl (World.ownsRow.alloc H6.out.rr _) ⟨w4.heap.size + 2, 0, none⟩ 1 1 [.int .i64 2, .string s, .string ByteArray.empty] rfl rfl (new_cells2 _ _ (by simp) _ _) (fun x hx => by simp at hx; rcases hx with rfl | rfl | rfl <;> rfl) (by unfold maxLen; omega) (by omega) (by simp; omega) ?_; intro v7 w7 hown7 hgrow7 _ hloc7))
              obtain ⟨a7, c7, rfl⟩ := own_form hown7
              have HZ := Lib.hid (H6.out.alloc (.cells [.int .i64 2, .string s, .string ByteArray.empty].toArray 39))
              have H7 := Lib.hid (HZ.out.addR (d := Disk.rmd (s.data.toList, ⟨true, ct⟩)) hgrow7 (DRow.snoc hown7 rfl) hloc7)
              have hsz7 := hgrow7.size
              have HB7 := Lib.hid ((HB6.out.alloc (by simp; omega) (.cells [.int .i64 2, .string s, .string ByteArray.empty].toArray 39)).grown hgrow7 (by simp; omega) (fun g hg => Nat.le_trans hr1w (World.ownsRow.lt H6.out.rr g hg).1))
              go_roundw
              case rel => exact ⟨_, cnt1, _, _, U, R ++ [Disk.rmd (s.data.toList, ⟨true, ct⟩)], rfl, rfl, H7.out, PU.out.1 (by rw [HCLS.out]; first | rfl | decide), PR.out.2 (by rw [HCLS.out]; first | rfl | decide), HB7.out, by simp at hsz7; omega⟩
              case measure => rw [H7.out.rng.left_eq, HAT.out.rng.left_eq]; exact hlt
            · have H5 := Lib.hid (H4.out.alloc (.cells #[.string (bs cp), .bool true, .string (bs ct)] 70))
              have H6 := Lib.hid (H5.out.alloc (.cells #[.string (bs s.data.toList), .bool true, .string (bs yt)] 70))
              have HB6 := Lib.hid ((HB4.out.alloc HB4.out.size (.cells #[.string (bs cp), .bool true, .string (bs ct)] 70)).alloc (by simp; omega) (.cells #[.string (bs s.data.toList), .bool true, .string (bs yt)] 70))
              go_wp2_with (first | (at_lookup; refine wpList_look_ok elF rfl _ _ 74 rfl 70 Tryz.underlying9 Tryz.underlying74 zeroF (zF _) rfl H5.out.oth s hss rfl _ HV.out.1 _ HV.out.2 ?_))
              go_roundw
              case rel => exact ⟨_, cnt1, _, _, U, R, rfl, rfl, H6.out, PU.out.1 (by rw [HCLS.out]; decide), PR.out.1 (by rw [HCLS.out]; decide), HB6.out, by simp; omega⟩
              case measure => rw [H6.out.rng.left_eq, HAT.out.rng.left_eq]; exact hlt
end Go.Proofs.YtdogacgpfnolfaaGreatDoor
