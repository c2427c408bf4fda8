/- The document's disk: what a path is, where something is: the walks. -/
import Derived.Test.YtdogacgpfnolfaaGreatDoorRefW1
namespace Go.Proofs.YtdogacgpfnolfaaGreatDoor
open Go.RowKit
set_option linter.unusedSimpArgs false
set_option linter.unusedVariables false
theorem all_mid {α : Type} {f : α → Bool} {a b : List α} {x : α} (h : f x = false) : (a ++ [x] ++ b).all f = false := by
  rw [List.all_eq_false]; exact ⟨x, by simp, by simp [h]⟩
def seg (T : List UInt8) (f k : Nat) : List UInt8 := (T.drop f).take (k - f)
theorem seg_full (T : List UInt8) (f : Nat) : seg T f T.length = T.drop f := by
  unfold seg
  rw [List.take_of_length_le (by simp)]
theorem seg_next {T : List UInt8} {f k : Nat} {c d : UInt8} (hf : f ≤ k) (hc : T[k]? = some c) (hd : c ≠ d) (h : d ∉ seg T f k) : d ∉ seg T f (k + 1) := by
  have e : seg T f (k + 1) = seg T f k ++ [c] := by
    unfold seg
    rw [show k + 1 - f = (k - f) + 1 by omega, List.take_add_one, List.getElem?_drop, show f + (k - f) = k by omega, hc]
    rfl
  rw [e]
  intro hm
  rcases List.mem_append.1 hm with hm | hm
  · exact h hm
  · simp at hm; exact hd hm.symm
theorem cuts_seg {T : List UInt8} {f k : Nat} {d : UInt8} (hf : f ≤ k) (hc : T[k]? = some d) (h : d ∉ seg T f k) : Cut.cuts d (T.drop f) = seg T f k :: Cut.cuts d (T.drop (k + 1)) := by
  have hk := List.getElem?_eq_some_iff.1 hc
  have e : T.drop f = seg T f k ++ d :: T.drop (k + 1) := by
    have e1 : T.drop f = seg T f k ++ (T.drop f).drop (k - f) := (List.take_append_drop _ _).symm
    rw [List.drop_drop, show f + (k - f) = k by omega, List.drop_eq_getElem_cons hk.1, hk.2] at e1
    exact e1
  rw [e, Cut.cuts_append h]
theorem seg_nil (T : List UInt8) (k : Nat) : seg T k k = [] := by simp [seg]
/-- Where a run of split stands. -/
structure Sp (T : List UInt8) (d : UInt8) (f k : Nat) (ps : List (List UInt8)) : Prop where
  eq : Cut.cuts d T = ps ++ Cut.cuts d (T.drop f)
  fk : f ≤ k
  le : k ≤ T.length
  free : d ∉ seg T f k
  len : ps.length ≤ k
theorem Sp.start (T : List UInt8) (d : UInt8) : Sp T d 0 0 [] := ⟨by simp, Nat.le_refl _, Nat.zero_le _, by simp [seg], Nat.le_refl _⟩
theorem Sp.miss {T d f k ps c} (h : Sp T d f k ps) (hc : T[k]? = some c) (hd : c ≠ d) : Sp T d f (k + 1) ps :=
  ⟨h.eq, by have := h.fk; omega, (List.getElem?_eq_some_iff.1 hc).1, seg_next h.fk hc hd h.free, by have := h.len; omega⟩
theorem Sp.hit {T d f k ps} (h : Sp T d f k ps) (hc : T[k]? = some d) : Sp T d (k + 1) (k + 1) (ps ++ [seg T f k]) :=
  ⟨by rw [h.eq, cuts_seg h.fk hc h.free]; simp, Nat.le_refl _, (List.getElem?_eq_some_iff.1 hc).1, by rw [seg_nil]; simp, by have := h.len; simp; omega⟩
theorem Sp.done {T d f k ps} (h : Sp T d f k ps) (hk : k = T.length) : Cut.cuts d T = ps ++ [seg T f T.length] := by
  have hf := h.free
  rw [hk, seg_full] at hf
  rw [h.eq, Cut.cuts_one hf, seg_full]

theorem extract_list (s : ByteArray) (f k : Nat) : (s.extract f k).data.toList = seg s.data.toList f k := by
  unfold seg
  simp [List.extract]
set_option maxHeartbeats 2000000 in
set_option maxRecDepth 100000 in
theorem rpathD_any (s : ByteArray) (hs : s.size ≤ 9223372036854775806) (w : World) :
    Calls Tryz.prog 39 #[.string s] w fun e w' => e = .returned (.bool (Disk.pathOk s.data.toList)) ∧ w' = w := by
  have HSL := Lib.hid (show s.data.toList.length = s.size by simp)
  by_cases hbig : (4096 : Int) < (s.size : Int)
  · have HF : Hid (Disk.pathOk s.data.toList = false) := Lib.hid (by
      cases hc : s.data.toList with
      | nil => rfl
      | cons c r => rw [pathOk_cons, ← hc, decide_eq_false (p := s.data.toList.length ≤ 4096) (by rw [HSL.out]; omega)]; simp)
    go_enter Tryz.func39, Tryz.ntmps39
    go_wp2
    go_returns
    exact ⟨by rw [HF.out]; rfl, rfl⟩
  by_cases h2 : (s.size : Int) < 2
  · have HF : Hid (Disk.pathOk s.data.toList = false) := Lib.hid (by
      have hl := HSL.out
      match hc : s.data.toList, hl with
      | [], _ => rfl
      | [c], _ => rw [pathOk_cons]; simp [Cut.cuts, Disk.partOk]
      | a :: b :: r, hl => simp at hl; omega)
    go_enter Tryz.func39, Tryz.ntmps39
    go_wp2
    go_returns
    exact ⟨by rw [HF.out]; rfl, rfl⟩
  have hp : 0 < s.size := by omega
  have hc0 := byte_at s hp
  obtain ⟨r, hr⟩ : ∃ r, s.data.toList = s[0] :: r := by
    cases h : s.data.toList with
    | nil => rw [h] at hc0; simp at hc0
    | cons c r => rw [h] at hc0; simp at hc0; exact ⟨r, by rw [hc0]⟩
  have hlen : (s[0] :: r).length = s.size := by rw [← hr]; exact HSL.out
  by_cases h47 : s[0] = 47
  · have hq1 : ((s[0].toNat : Int) != 47) = false := by rw [h47]; rfl
    have HCUT : Hid (Cut.cuts 47 s.data.toList = [] :: Cut.cuts 47 r) := Lib.hid (by rw [hr, h47, Cut.cuts_hit])
    have HPO : Hid (Disk.pathOk s.data.toList = (Cut.cuts 47 r).all Disk.partOk) := Lib.hid (by
      rw [hr, pathOk_cons, decide_eq_true h47, decide_eq_true (p := (s[0] :: r).length ≤ 4096) (by omega)]; simp)
    have HQS : Hid (∀ qs, Cut.cuts 47 s.data.toList = [] :: qs → Disk.pathOk s.data.toList = qs.all Disk.partOk) := Lib.hid (fun qs h => by
      rw [HCUT.out] at h; rw [HPO.out, (List.cons.inj h).2])
    have HS1 : Hid (Sp s.data.toList 47 1 1 [[]]) := Lib.hid (by
      have := (Sp.start s.data.toList 47).hit (by rw [hc0, h47])
      rw [seg_nil] at this
      exact this)
    clear hr hlen h47 hc0
    go_enter Tryz.func39, Tryz.ntmps39
    go_wp2
    go_loopw [3, 4] (fun p q wr => ∃ f i : Nat, p = .int .i64 f ∧ q = .int .i64 i ∧ wr = w ∧ ((i ≤ s.size ∧ ∃ ps, Sp s.data.toList 47 f i ([] :: ps) ∧ ps.all Disk.partOk = true) ∨ (i = s.size + 1 ∧ Disk.pathOk s.data.toList = true))) (fun _ q _ => s.size + 1 - (intOf q).toNat)
    case atStart => exact ⟨1, 1, rfl, rfl, rfl, Or.inl ⟨by omega, [], HS1.out, rfl⟩⟩
    case round =>
      obtain ⟨f, i, rfl, rfl, rfl, hrel⟩ := hrel
      rcases hrel with ⟨hi, ps, hsp, hps⟩ | ⟨hi, hpo⟩
      · have hfi := hsp.fk
        have HSP := Lib.hid hsp
        have HPS := Lib.hid hps
        clear hsp hps
        obtain ⟨X, hX⟩ : ∃ X, X = s.extract f i := ⟨_, rfl⟩
        have hXs : X.size ≤ s.size := by rw [hX]; simp; omega
        have HXL : Hid (X.data.toList = seg s.data.toList f i) := Lib.hid (by rw [hX]; exact extract_list s f i)
        have HX := Lib.hid hX
        clear hX
        by_cases his : i < s.size
        · have hne : (i : Int) < (s.size : Int) := by omega
          have HC := Lib.hid (byte_at s his)
          by_cases hd : s[i] = 47
          · have hq : ((s[i].toNat : Int) != 47) = false := by rw [hd]; rfl
            have HIT := Lib.hid (HSP.out.hit (by rw [HC.out, hd]))
            clear hd
            cases hpk : Disk.partOk X.data.toList
            · have HF : Hid (Disk.pathOk s.data.toList = false) := Lib.hid (by
                have := HIT.out.eq
                rw [List.cons_append, List.cons_append] at this
                rw [HQS.out _ this]
                exact all_mid (by rw [← HXL.out]; exact hpk))
              go_wp2_with fail
              rw [← HX.out]
              refine (rpart_any X (by omega) _).mono ?_
              rintro e w1 ⟨rfl, rfl⟩
              rw [hpk]
              go_wp2
              go_returns
              exact ⟨by rw [HF.out]; rfl, rfl⟩
            · have HPK := Lib.hid hpk
              go_wp2_with fail
              rw [← HX.out]
              refine (rpart_any X (by omega) _).mono ?_
              rintro e w1 ⟨rfl, rfl⟩
              rw [hpk]
              go_wp2
              go_roundw
              case rel => exact ⟨i + 1, i + 1, by go_num, by go_num, trivial, Or.inl ⟨by omega, ps ++ [seg s.data.toList f i], HIT.out, by rw [List.all_append, HPS.out, ← HXL.out]; simp [HPK.out]⟩⟩
              case measure => simp [intOf]; omega
          · have hq : ((s[i].toNat : Int) != 47) = true := by rw [bne_iff_ne]; intro e; exact hd (UInt8.toNat_inj.1 (by show s[i].toNat = 47; omega))
            have MISS := Lib.hid (HSP.out.miss HC.out hd)
            clear hd
            go_wp2
            go_roundw
            case rel => exact ⟨f, i + 1, rfl, by go_num, trivial, Or.inl ⟨by omega, ps, MISS.out, HPS.out⟩⟩
            case measure => simp [intOf]; omega
        · obtain rfl : i = s.size := by omega
          have hne : ¬ ((s.size : Int) < (s.size : Int)) := by omega
          have HDONE := Lib.hid (HSP.out.done HSL.out.symm)
          have HPV : Hid (Disk.pathOk s.data.toList = Disk.partOk X.data.toList) := Lib.hid (by
            have := HDONE.out
            rw [List.cons_append] at this
            rw [HQS.out _ this, List.all_append, HPS.out, HXL.out, HSL.out]
            simp)
          cases hpk : Disk.partOk X.data.toList
          · rw [hpk] at HPV
            go_wp2_with fail
            rw [← HX.out]
            refine (rpart_any X (by omega) _).mono ?_
            rintro e w1 ⟨rfl, rfl⟩
            rw [hpk]
            go_wp2
            go_returns
            exact ⟨by rw [HPV.out]; rfl, rfl⟩
          · rw [hpk] at HPV
            go_wp2_with fail
            rw [← HX.out]
            refine (rpart_any X (by omega) _).mono ?_
            rintro e w1 ⟨rfl, rfl⟩
            rw [hpk]
            go_wp2
            go_roundw
            case rel => exact ⟨s.size + 1, s.size + 1, by go_num, by go_num, trivial, Or.inr ⟨rfl, HPV.out⟩⟩
            case measure => first | (simp [intOf]; done) | (simp [intOf]; omega)
      · have HPV := Lib.hid hpo
        have hex : ¬ ((i : Int) ≤ (s.size : Int)) := by omega
        have HI := Lib.hid hi
        clear hpo hi
        go_wp2
        go_returns
        exact ⟨by rw [HPV.out]; rfl, rfl⟩
  · have hq1 : ((s[0].toNat : Int) != 47) = true := by rw [bne_iff_ne]; intro e; exact h47 (UInt8.toNat_inj.1 (by show s[0].toNat = 47; omega))
    have HF : Hid (Disk.pathOk s.data.toList = false) := Lib.hid (by
      rw [hr, pathOk_cons, decide_eq_false h47]; rfl)
    clear hr hlen h47 hc0
    go_enter Tryz.func39, Tryz.ntmps39
    go_wp2
    go_returns
    exact ⟨by rw [HF.out]; rfl, rfl⟩

/-- A disk's entries as files. -/
def fls (l : Disk.M) : List Disk.Fl := l.map fun x => ⟨x.1, x.2.dir, x.2.data⟩
theorem fls_at {l : Disk.M} {i : Nat} {f : Disk.Fl} (h : (fls l)[i]? = some f) : l[i]? = some (f.path, f.t) := by
  unfold fls at h
  rw [List.getElem?_map] at h
  cases hx : l[i]? with
  | none => rw [hx] at h; simp at h
  | some x => rw [hx] at h; simp at h; subst h; rfl
theorem fls_length (l : Disk.M) : (fls l).length = l.length := by unfold fls; simp
/-- Where a path is. -/
def Found (l : Disk.M) (p : List UInt8) (i : Int) : Prop := (SM.look l p = none ∧ i = -1) ∨ ∃ (k : Nat) (t : Disk.T), i = k ∧ l[k]? = some (p, t) ∧ SM.look l p = some t
set_option maxHeartbeats 2000000 in
set_option maxRecDepth 100000 in
theorem find_any {w : World} {rd B : Nat} {lv : Value} {l : Disk.M} (c0 : w.cell? ⟨rd, 0, none⟩ = some lv) (hf : Files w B lv (fls l)) (hr : SM.Rises l) (hn : l.length ≤ 4398046511104) (p : ByteArray) :
    Calls Tryz.prog 40 #[.pointer (some ⟨rd, 0, none⟩), .string p] w fun e w' => (∃ i, e = .returned (.int .i64 i) ∧ Found l p.data.toList i) ∧ w' = w := by
  obtain ⟨a1, c1, rfl⟩ := hf.form
  obtain ⟨N, hN⟩ : ∃ N, N = (fls l).length := ⟨_, rfl⟩
  have HF := Lib.hid hf
  have HR := Lib.hid hr
  have HNL : Hid (N = l.length) := Lib.hid (by rw [hN, fls_length])
  have hNn : N ≤ 4398046511104 := by rw [HNL.out]; exact hn
  rw [← hN] at c0
  have HN := Lib.hid hN
  clear hf hr hn hN
  go_enter Tryz.func40, Tryz.ntmps40
  go_wp2
  go_loopw [5] (fun q wr => ∃ i : Nat, q = .int .i64 i ∧ i ≤ N ∧ (∀ x ∈ l.take i, x.1 ≠ p.data.toList) ∧ wr = w) (fun q _ => N - (intOf q).toNat)
  case atStart => exact ⟨0, rfl, by omega, fun x hx => by simp at hx, rfl⟩
  case round =>
    obtain ⟨i, rfl, hi, hall, rfl⟩ := hrel
    have HALL := Lib.hid hall
    clear hall
    by_cases hiN : i < N
    · obtain ⟨f, hf⟩ : ∃ f, (fls l)[i]? = some f := ⟨_, List.getElem?_eq_getElem (by have := HN.out; omega)⟩
      obtain ⟨bk, o, cap, hve, hbB, hbc⟩ := HF.out.at (by have := HN.out; omega)
      rw [← HN.out] at hve
      cases hve
      have e1 := (hbc i f hf).1
      have hl := fls_at hf
      have HL := Lib.hid hl
      have hiI : (i : Int) < (N : Int) := by omega
      have hq := sv_inj (a := f.path) (b := p.data.toList)
      rw [bs_of] at hq
      clear hbc hf hl
      by_cases he : f.path = p.data.toList
      · rw [decide_eq_true he] at hq
        have HFD : Hid (Found l p.data.toList i) := Lib.hid (Or.inr ⟨i, f.t, rfl, by rw [← he]; exact HL.out, by rw [← he]; exact SM.look_mem HR.out (List.mem_of_getElem? HL.out)⟩)
        clear he
        go_wp2
        go_returns
        exact ⟨⟨_, rfl, HFD.out⟩, rfl⟩
      · rw [decide_eq_false he] at hq
        have HNX : Hid (∀ x ∈ l.take (i + 1), x.1 ≠ p.data.toList) := Lib.hid (fun x hx => by
          rw [List.take_add_one, HL.out] at hx
          rcases List.mem_append.1 hx with hx | hx
          · exact HALL.out x hx
          · simp at hx; subst hx; exact he)
        clear he
        go_wp2
        go_roundw
        case rel => exact ⟨i + 1, by go_num, by omega, HNX.out, trivial⟩
        case measure => simp [intOf]; omega
    · have HFD : Hid (Found l p.data.toList (-1)) := Lib.hid (by
        refine Or.inl ⟨?_, rfl⟩
        cases hh : SM.look l p.data.toList with
        | none => rfl
        | some t =>
          have hm := SM.look_some hh
          have := HALL.out _ (by rw [List.take_of_length_le (by have := HNL.out; omega)]; exact hm)
          exact absurd rfl this)
      go_wp2
      go_returns
      exact ⟨⟨_, rfl, HFD.out⟩, rfl⟩
set_option maxHeartbeats 2000000 in
set_option maxRecDepth 100000 in
theorem rkind_any {w : World} {rd B : Nat} {lv : Value} {l : Disk.M} (c0 : w.cell? ⟨rd, 0, none⟩ = some lv) (hf : Files w B lv (fls l)) (hr : SM.Rises l) (hn : l.length ≤ 4398046511104) (p : ByteArray) :
    Calls Tryz.prog 42 #[.pointer (some ⟨rd, 0, none⟩), .string p] w fun e w' => e = .returned (.int .i64 (Disk.kind l p.data.toList)) ∧ w' = w := by
  have HFI := Lib.hid (find_any c0 hf hr hn p)
  have HF := Lib.hid hf
  have e1 := str_eq_lit p [47]
  obtain ⟨a1, c1, rfl⟩ := hf.form
  rw [fls_length] at c0
  clear hf hr
  by_cases h1 : p.data.toList = [47]
  · have HK : Hid (Disk.kind l p.data.toList = 2) := Lib.hid (by unfold Disk.kind; rw [if_pos h1])
    rw [decide_eq_true h1] at e1
    clear h1
    go_enter Tryz.func42, Tryz.ntmps42
    go_wp2_with fail
    refine HFI.out.mono ?_
    rintro e w1 ⟨⟨i, rfl, _⟩, rfl⟩
    go_wp2
    go_returns
    exact ⟨by rw [HK.out]; rfl, rfl⟩
  rw [decide_eq_false h1] at e1
  have HKI : Hid (∀ t, SM.look l p.data.toList = t → Disk.kind l p.data.toList = match t with | none => 0 | some t => if t.dir then 2 else 1) := Lib.hid (fun t h => by unfold Disk.kind; rw [if_neg h1, h]; cases t <;> rfl)
  clear h1
  go_enter Tryz.func42, Tryz.ntmps42
  go_wp2_with fail
  refine HFI.out.mono ?_
  rintro e w1 ⟨⟨i, rfl, hfd⟩, rfl⟩
  rcases hfd with ⟨hno, rfl⟩ | ⟨k, t, rfl, hk, hlk⟩
  · have HK := Lib.hid (HKI.out _ hno)
    clear hno
    go_wp2
    go_returns
    exact ⟨by rw [HK.out]; rfl, rfl⟩
  · have HK := Lib.hid (HKI.out _ hlk)
    have hkl := (List.getElem?_eq_some_iff.1 hk).1
    have hfk : (fls l)[k]? = some ⟨p.data.toList, t.dir, t.data⟩ := by unfold fls; rw [List.getElem?_map, hk]; rfl
    obtain ⟨bk, o, cap, hve, hbB, hbc⟩ := HF.out.at (by rw [fls_length]; omega)
    rw [fls_length] at hve
    cases hve
    have e2 := (hbc k _ hfk).2.1
    have hkI : (k : Int) < (l.length : Int) := by omega
    have hk0 : ¬ ((k : Int) < 0) := by omega
    have e2' : w1.cell? ⟨bk, o + k * 3 + 1, none⟩ = some (.bool t.dir) := e2
    clear hlk hk hfk hbc e2
    cases hd : t.dir
    all_goals
      rw [hd] at e2'
      have HD := Lib.hid hd
      clear hd
      go_wp2
      go_returns
      exact ⟨by rw [HK.out, HD.out]; rfl, rfl⟩
end Go.Proofs.YtdogacgpfnolfaaGreatDoor
