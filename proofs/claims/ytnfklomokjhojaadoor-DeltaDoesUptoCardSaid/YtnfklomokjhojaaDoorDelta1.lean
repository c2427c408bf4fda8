/- delta.read: the walk. -/
import Derived.Test.YtnfklomokjhojaaDoorDiskW3
namespace Go.Proofs.YtnfklomokjhojaaDoor
open Go.RowKit Go.Maps
set_option linter.unusedSimpArgs false
set_option linter.unusedVariables false
namespace Disk
def jour : List UInt8 := [47, 106, 111, 117, 114, 110, 97, 108]
/-- Is a path the journal's? -/
def ours (p : List UInt8) : Bool := decide (p = jour) || Go.Lib.hasPrefix p (jour ++ [47])
def withPath (x : List UInt8 × T) : List UInt8 × Fl := (x.1, ⟨x.1, x.2.dir, x.2.data⟩)
/-- A set of files by their paths, with nothing of the journal's. -/
def read (fs : List Fl) : Option M := match load fs with
  | none => none
  | some l => if fs.any fun f => ours f.path then none else some l
theorem put_withPath (l : M) (p : List UInt8) (t : T) : SM.put (l.map withPath) p ⟨p, t.dir, t.data⟩ = (SM.put l p t).map withPath := by
  induction l with
  | nil => rfl
  | cons x r ih =>
    rw [List.map_cons, SM.put, SM.put]
    show (if bytesBefore p x.1 then _ else if x.1 = p then _ else _) = _
    by_cases h1 : bytesBefore p x.1 = true
    · rw [if_pos h1, if_pos h1]; rfl
    · rw [if_neg h1, if_neg h1]
      by_cases h2 : x.1 = p
      · rw [if_pos h2, if_pos h2]; rfl
      · rw [if_neg h2, if_neg h2, ih]; rfl
theorem look_withPath (l : M) (p : List UInt8) : SM.look (l.map withPath) p = (SM.look l p).map fun t => ⟨p, t.dir, t.data⟩ := by
  induction l with
  | nil => rfl
  | cons x r ih =>
    rw [List.map_cons, SM.look_cons, SM.look_cons, ih]
    show (if x.1 = p then some (⟨x.1, x.2.dir, x.2.data⟩ : Fl) else _) = _
    by_cases h : x.1 = p
    · rw [if_pos h, if_pos h, h]; rfl
    · rw [if_neg h, if_neg h]
theorem fill_not_bad {fs : List Fl} {m : M} (h : fill [] fs = some m) {k : Nat} {l : M} {f : Fl} (hl : fill [] (fs.take k) = some l) (hf : fs[k]? = some f) : bad l f = false := by
  cases hb : bad l f
  · rfl
  · rw [fill_stop hl hf hb] at h; exact absurd h (by simp)
end Disk
/-- The files of a set. -/
abbrev FMap (w : World) (b n : Nat) (l : Disk.M) : Prop := SMap Tryd.prog 9 elF w b n (l.map Disk.withPath)
/-- What read leaves. -/
def ReadPost (fs : List Disk.Fl) (w : World) (e : Ending) (w' : World) : Prop := (match Disk.read fs with
  | none => e = .returned (.tuple #[.map none, .bool false])
  | some l => ∃ bm n, e = .returned (.tuple #[.map (some bm), .bool true]) ∧ FMap w' bm n l ∧ w.heap.size ≤ bm ∧ n ≤ fs.length) ∧ Below w.heap.size w w'
theorem ReadPost.bad {fs : List Disk.Fl} {w w' : World} (h : Disk.read fs = none) (hb : Below w.heap.size w w') : ReadPost fs w (.returned (.tuple #[.map none, .bool false])) w' := by
  unfold ReadPost
  rw [h]
  exact ⟨rfl, hb⟩
theorem ReadPost.good {fs : List Disk.Fl} {w w' : World} {l : Disk.M} {bm n : Nat} (h : Disk.read fs = some l) (hd : FMap w' bm n l) (h1 : w.heap.size ≤ bm) (hn : n ≤ fs.length) (hb : Below w.heap.size w w') : ReadPost fs w (.returned (.tuple #[.map (some bm), .bool true])) w' := by
  unfold ReadPost
  rw [h]
  exact ⟨⟨bm, n, rfl, hd, h1, hn⟩, hb⟩
set_option maxHeartbeats 4000000 in
set_option maxRecDepth 100000 in
theorem read_any {w : World} {B : Nat} {v : Value} {fs : List Disk.Fl} (h : Files w B v fs) (hB : B ≤ w.heap.size) (hE : Env w) (hn : fs.length ≤ 4398046511104) (hsz : ∀ f ∈ fs, f.path.length ≤ 4398046511104 ∧ f.data.length ≤ 4398046511104) :
    Calls Tryd.prog 30 #[v] w (ReadPost fs w) := by
  have hmm := @run_makeMap Tryd.prog
  have HLO := Lib.hid (load_any h hB hE hn hsz)
  obtain ⟨a1, c1, rfl⟩ := h.form
  obtain ⟨N, hN⟩ : ∃ N, N = fs.length := ⟨_, rfl⟩
  have HH := Lib.hid h
  have HSZ := Lib.hid hsz
  rw [← hN] at hn HLO ⊢
  have HN := Lib.hid hN
  clear h hsz hN
  cases hld : Disk.load fs with
  | none =>
    have HR : Hid (Disk.read fs = none) := Lib.hid (by unfold Disk.read; rw [hld])
    have HLP : Hid (∀ e W, LoadPost fs w e W → e = .returned (.tuple #[.pointer none, .int .i64 1]) ∧ Below w.heap.size w W) := Lib.hid (fun e W h => by unfold LoadPost at h; rw [hld] at h; exact h)
    clear hld
    go_enter Tryd.func30, Tryd.ntmps30
    go_wp2_with fail
    refine HLO.out.mono ?_
    intro e w1 hp
    obtain ⟨rfl, hb1⟩ := HLP.out e w1 hp
    clear hp
    go_wp2
    go_returns
    exact ReadPost.bad HR.out hb1
  | some m =>
    have HR : Hid (Disk.read fs = if fs.any fun f => Disk.ours f.path then none else some m) := Lib.hid (by unfold Disk.read; rw [hld])
    have HLP : Hid (∀ e W, LoadPost fs w e W → ∃ sd, e = .returned (.tuple #[.pointer (some ⟨sd, 0, none⟩), .int .i64 0]) ∧ Below w.heap.size w W) := Lib.hid (fun e W h => by
      unfold LoadPost at h; rw [hld] at h
      obtain ⟨⟨sd, bm, n, h1, _⟩, h2⟩ := h
      exact ⟨sd, h1, h2⟩)
    have HFM : Hid (Disk.fill [] fs = some m) := Lib.hid (by
      unfold Disk.load at hld
      cases hf : Disk.fill [] fs with
      | none => rw [hf] at hld; exact absurd hld (by simp)
      | some l =>
        rw [hf] at hld
        simp only at hld
        split at hld
        · exact hld
        · exact absurd hld (by simp))
    clear hld
    go_enter Tryd.func30, Tryd.ntmps30
    go_wp2_with fail
    refine HLO.out.mono ?_
    intro e w1 hp
    obtain ⟨sd, rfl, hb1⟩ := HLP.out e w1 hp
    have hz1 := hb1.size
    clear hp
    go_wp2
    go_loopw [19] (fun p wr => ∃ (i n : Nat) (l : Disk.M), p = .int .i64 i ∧ i ≤ N ∧ n ≤ i ∧ Disk.fill [] (fs.take i) = some l ∧ (∀ f ∈ fs.take i, Disk.ours f.path = false) ∧ FMap wr w1.heap.size n l ∧ Below w1.heap.size w1 wr) (fun p _ => N - (intOf p).toNat)
    case atStart => exact ⟨0, 0, [], rfl, by omega, by omega, rfl, fun f hf => by simp at hf, SMap.made w1, (Below.refl _ _).alloc (Nat.le_refl _) _⟩
    case round =>
      obtain ⟨i, n, l, rfl, hi, hni, hfill, hno, hm, hBr⟩ := hrel
      obtain ⟨wo, rfl⟩ : ∃ x, x = wr := ⟨wr, rfl⟩
      have HFILL := Lib.hid hfill
      have HNO := Lib.hid hno
      have HM := Lib.hid hm
      have hzr := hBr.size
      have hBw := hb1.trans (hBr.mono hz1)
      clear hfill hno hm
      by_cases hiN : i < N
      · obtain ⟨f, hf⟩ : ∃ f, fs[i]? = some f := ⟨_, List.getElem?_eq_getElem (by have := HN.out; omega)⟩
        obtain ⟨bk, o, cap, hve, hbB, hbc⟩ := HH.out.at (by have := HN.out; omega)
        rw [← HN.out] at hve
        cases hve
        obtain ⟨e1, e2, e3⟩ := hbc i f hf
        rw [← hBw.cell (p := ⟨bk, o + i * 3, none⟩) (by show bk < _; omega)] at e1
        rw [← hBw.cell (p := ⟨bk, o + i * 3 + 1, none⟩) (by show bk < _; omega)] at e2
        rw [← hBw.cell (p := ⟨bk, o + i * 3 + 2, none⟩) (by show bk < _; omega)] at e3
        have hfz := HSZ.out f (List.mem_of_getElem? hf)
        have HBAD : Hid (Disk.ours f.path = true → Disk.read fs = none) := Lib.hid (fun h => by
          rw [HR.out, if_pos]
          exact List.any_eq_true.2 ⟨f, List.mem_of_getElem? hf, h⟩)
        have HNEXT : Hid (Disk.fill [] (fs.take (i + 1)) = some (SM.put l f.path f.t)) := Lib.hid (Disk.fill_next HFILL.out hf (Disk.fill_not_bad HFM.out HFILL.out hf))
        have HNN : Hid (Disk.ours f.path = false → ∀ g ∈ fs.take (i + 1), Disk.ours g.path = false) := Lib.hid (fun h g hg => by
          rw [List.take_add_one, hf] at hg
          rcases List.mem_append.1 hg with hg | hg
          · exact HNO.out g hg
          · simp at hg; subst hg; exact h)
        clear hbc hf
        have HPW := Lib.hid (Disk.put_withPath l f.path f.t)
        obtain ⟨fp, hfp⟩ : ∃ x, x = f.path := ⟨_, rfl⟩
        obtain ⟨fd, hfd⟩ : ∃ x, x = f.dir := ⟨_, rfl⟩
        obtain ⟨ft, hft⟩ : ∃ x, x = f.data := ⟨_, rfl⟩
        rw [← hfp] at e1 hfz HBAD HNN
        rw [← hfd] at e2
        rw [← hft] at e3 hfz
        have HFF := Lib.hid (And.intro hfp (And.intro hfd hft))
        clear hfp hfd hft
        have hlt : (i : Int) < (N : Int) := by omega
        have hps : (bs fp).size ≤ maxLen := by show fp.toArray.size ≤ maxLen; simp [maxLen]; omega
        have hq := str_eq_lit (bs fp) [47, 106, 111, 117, 114, 110, 97, 108]
        rw [bs_list] at hq
        have HHP : Hid (∀ w, Calls Tryd.prog 52 #[.string (bs fp), .string ⟨#[47, 106, 111, 117, 114, 110, 97, 108, 47]⟩] w fun e w' => e = .returned (.bool (Go.Lib.hasPrefix fp (Disk.jour ++ [47]))) ∧ w' = w) := Lib.hid (fun w => Tryd.strings_HasPrefix (bs fp) ⟨#[47, 106, 111, 117, 114, 110, 97, 108, 47]⟩ w)
        by_cases hj : fp = Disk.jour
        · have HF := Lib.hid (HBAD.out (by unfold Disk.ours; rw [decide_eq_true hj]; rfl))
          rw [decide_eq_true (show fp = [47, 106, 111, 117, 114, 110, 97, 108] from hj)] at hq
          clear hj
          go_wp2
          go_returns
          exact ReadPost.bad HF.out (hb1.trans ((hBr.alloc hzr _).mono hz1))
        rw [decide_eq_false (show ¬ fp = [47, 106, 111, 117, 114, 110, 97, 108] from hj)] at hq
        cases hpre : Go.Lib.hasPrefix fp (Disk.jour ++ [47])
        rotate_left 1
        · have HF := Lib.hid (HBAD.out (by unfold Disk.ours; rw [hpre]; simp))
          rw [hpre] at HHP
          clear hj hpre
          go_wp2_with fail
          refine (HHP.out _).mono ?_
          rintro e w2 ⟨rfl, rfl⟩
          go_wp2
          go_returns
          exact ReadPost.bad HF.out (hb1.trans ((hBr.alloc hzr _).mono hz1))
        have HF := Lib.hid (HNN.out (by unfold Disk.ours; rw [hpre, decide_eq_false hj]; rfl))
        rw [hpre] at HHP
        have HM2 := Lib.hid (HM.out.alloc (.cells #[.string (bs fp), .bool fd, .string (bs ft)] 31))
        clear hj hpre
        go_wp2_with fail
        refine (HHP.out _).mono ?_
        rintro e w2 ⟨rfl, rfl⟩
        go_wp2_with (first | (at_mapUpdate; refine wpList_put elF rfl _ _ _ 58 rfl 31 Tryd.underlying9 Tryd.underlying58 rfl HM2.out (by unfold maxLen; omega) (bs fp) hps rfl (⟨fp, fd, ft⟩ : Disk.Fl) _ rfl rfl ?_; intro w6 hm6 hg6))
        go_roundw
        case rel => exact ⟨i + 1, n + 1, _, by go_num, by omega, by omega, HNEXT.out, HF.out, by
          have h1 := HPW.out
          unfold Disk.Fl.t at h1 ⊢
          rw [← HFF.out.1, ← HFF.out.2.1, ← HFF.out.2.2] at h1 ⊢
          show SMap Tryd.prog 9 elF w6 w1.heap.size (n + 1) ((SM.put l fp ⟨fd, ft⟩).map Disk.withPath)
          rw [← h1]
          exact hm6, (hBr.alloc hzr _).grown hg6 (by simp; omega) (fun j hj => by cases hj; exact Nat.le_refl _)⟩
        case measure => simp [intOf]; omega
      · have hfull : fs.take i = fs := List.take_of_length_le (by have := HN.out; omega)
        have hfl := HFILL.out
        have hnn := HNO.out
        rw [hfull] at hfl hnn
        have hml : l = m := Option.some.inj (hfl.symm.trans HFM.out)
        have HF := Lib.hid (ReadPost.good (fs := fs) (w := w) (l := l) (bm := w1.heap.size) (n := n) (by
          rw [HR.out, if_neg, hml]
          simp only [List.any_eq_true, not_exists, not_and]
          intro f hf
          rw [hnn f hf]; simp) HM.out hz1 (by have := HN.out; omega) hBw)
        clear hfull hfl hnn hml
        go_wp2
        go_returns
        exact HF.out
end Go.Proofs.YtnfklomokjhojaaDoor
