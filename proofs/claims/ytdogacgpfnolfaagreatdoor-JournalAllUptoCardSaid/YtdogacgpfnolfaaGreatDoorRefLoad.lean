/- The document's disk: loaded from files: the walk. -/
import Derived.Test.YtdogacgpfnolfaaGreatDoorRefPut
namespace Go.Proofs.YtdogacgpfnolfaaGreatDoor
open Go.RowKit
set_option linter.unusedSimpArgs false
set_option linter.unusedVariables false
set_option maxRecDepth 100000 in
theorem rnew_any (w : World) : Calls Tryz.prog 38 #[] w fun e w' => ∃ rd, e = .returned (.pointer (some ⟨rd, 0, none⟩)) ∧ RefIn w' w.heap.size rd [] (.slice none 0 0) (.slice none 0 0) (-1) ∧ Below w.heap.size w w' := by
  go_enter Tryz.func38, Tryz.ntmps38
  go_wp2
  go_returns
  refine ⟨w.heap.size, rfl, ⟨?_, ?_, ?_, fun j => by simp, World.ownsRow_nil _ _ _ _, by simp [Value.ownBlock], SM.rises_nil, Nat.le_refl _⟩, (Below.refl _ w).alloc (Nat.le_refl _) _⟩ <;> simp
/-- What the document's Load leaves. -/
def RLoadPost (fs : List Disk.Fl) (w : World) (e : Ending) (w' : World) : Prop := (match Disk.load fs with
  | none => e = .returned (.tuple #[.pointer none, .bool false])
  | some l => ∃ rd lv, e = .returned (.tuple #[.pointer (some ⟨rd, 0, none⟩), .bool true]) ∧ RefIn w' w.heap.size rd l lv (.slice none 0 0) (-1) ∧ l.length ≤ fs.length) ∧ Below w.heap.size w w'
theorem RLoadPost.bad {fs : List Disk.Fl} {w w' : World} (h : Disk.load fs = none) (hb : Below w.heap.size w w') : RLoadPost fs w (.returned (.tuple #[.pointer none, .bool false])) w' := by
  unfold RLoadPost
  rw [h]
  exact ⟨rfl, hb⟩
theorem RLoadPost.good {fs : List Disk.Fl} {w w' : World} {l : Disk.M} {rd : Nat} {lv : Value} (h : Disk.load fs = some l) (hd : RefIn w' w.heap.size rd l lv (.slice none 0 0) (-1)) (hn : l.length ≤ fs.length) (hb : Below w.heap.size w w') : RLoadPost fs w (.returned (.tuple #[.pointer (some ⟨rd, 0, none⟩), .bool true])) w' := by
  unfold RLoadPost
  rw [h]
  exact ⟨⟨rd, lv, rfl, hd, hn⟩, hb⟩
set_option maxHeartbeats 8000000 in
set_option maxRecDepth 100000 in
theorem rload_any {w : World} {B : Nat} {v : Value} {fs : List Disk.Fl} (h : Files w B v fs) (hB : B ≤ w.heap.size) (hn : fs.length ≤ 1099511627776) (hsz : ∀ f ∈ fs, f.path.length ≤ 4398046511104 ∧ f.data.length ≤ 4398046511104) :
    Calls Tryz.prog 18 #[v] w (RLoadPost fs w) := by
  obtain ⟨a1, c1, rfl⟩ := h.form
  obtain ⟨N, hN⟩ : ∃ N, N = fs.length := ⟨_, rfl⟩
  have HH := Lib.hid h
  have HSZ := Lib.hid hsz
  rw [← hN] at hn ⊢
  have HN := Lib.hid hN
  clear h hsz hN
  go_enter Tryz.func18, Tryz.ntmps18
  go_wp2_with fail
  refine (rnew_any _).mono ?_
  rintro e w1 ⟨rd, rfl, hd1, hb1⟩
  have HD1 := Lib.hid hd1
  have hz1 := hb1.size
  clear hd1
  go_wp2
  go_loopw [5] (fun p wr => ∃ (i : Nat) (l : Disk.M) (lv : Value), p = .int .i64 i ∧ i ≤ N ∧ l.length ≤ i ∧ Disk.fill [] (fs.take i) = some l ∧ RefIn wr w.heap.size rd l lv (.slice none 0 0) (-1) ∧ Below w.heap.size w wr) (fun p _ => N - (intOf p).toNat)
  case atStart => exact ⟨0, [], _, rfl, by omega, by simp, rfl, HD1.out, hb1⟩
  case round =>
    obtain ⟨i, l, lv, rfl, hi, hll, hfill, hdr, hBr⟩ := hrel
    obtain ⟨wo, rfl⟩ : ∃ x, x = wr := ⟨wr, rfl⟩
    have HFILL := Lib.hid hfill
    have HDR := Lib.hid hdr
    have hzr := hBr.size
    have hrdl := hdr.rdl
    have d0 := hdr.c0
    have HLL := Lib.hid hll
    clear hfill hdr hll
    by_cases hiN : i < N
    · obtain ⟨f, hf⟩ : ∃ f, fs[i]? = some f := ⟨_, List.getElem?_eq_getElem (by have := HN.out; omega)⟩
      obtain ⟨bk, o, cap, hve, hbB, hbc⟩ := HH.out.at (by have := HN.out; omega)
      rw [← HN.out] at hve
      cases hve
      obtain ⟨e1, e2, e3⟩ := hbc i f hf
      rw [← hBr.cell (p := ⟨bk, o + i * 3, none⟩) (by show bk < _; omega)] at e1
      rw [← hBr.cell (p := ⟨bk, o + i * 3 + 1, none⟩) (by show bk < _; omega)] at e2
      rw [← hBr.cell (p := ⟨bk, o + i * 3 + 2, none⟩) (by show bk < _; omega)] at e3
      have hfz := HSZ.out f (List.mem_of_getElem? hf)
      have HBAD : Hid (Disk.bad l f = ((SM.look l f.path).isSome || (!Disk.pathOk f.path || (f.dir && !f.data.isEmpty)))) := Lib.hid rfl
      have HSTOP : Hid (Disk.bad l f = true → Disk.load fs = none) := Lib.hid (fun h => by unfold Disk.load; rw [Disk.fill_stop HFILL.out hf h])
      have HNEXT : Hid (Disk.bad l f = false → Disk.fill [] (fs.take (i + 1)) = some (SM.put l f.path f.t)) := Lib.hid (fun h => Disk.fill_next HFILL.out hf h)
      have BADS : Hid (∀ (W : World), Below w.heap.size w W → Disk.bad l f = true → RLoadPost fs w (.returned (.tuple #[.pointer none, .bool false])) W) := Lib.hid (fun W h1 h2 => RLoadPost.bad (HSTOP.out h2) h1)
      clear hbc hf
      obtain ⟨fp, hfp⟩ : ∃ x, x = f.path := ⟨_, rfl⟩
      obtain ⟨fd, hfd⟩ : ∃ x, x = f.dir := ⟨_, rfl⟩
      obtain ⟨ft, hft⟩ : ∃ x, x = f.data := ⟨_, rfl⟩
      rw [← hfp] at e1 hfz HBAD
      rw [← hfd] at e2 HBAD
      rw [← hft] at e3 hfz HBAD
      have HFF : Hid (f = ⟨fp, fd, ft⟩) := Lib.hid (by obtain ⟨a, b, c⟩ := f; dsimp only at hfp hfd hft; rw [hfp, hfd, hft])
      clear hfp hfd hft
      have hlt : (i : Int) < (N : Int) := by omega
      have hps : (bs fp).size ≤ 9223372036854775806 := by show fp.toArray.size ≤ _; simp; omega
      have HPA := Lib.hid (fun W => rpathD_any (bs fp) hps W)
      cases hpo : Disk.pathOk fp
      · have HF := Lib.hid (show Disk.bad l f = true by rw [HBAD.out, hpo]; simp)
        rw [bs_list, hpo] at HPA
        clear hpo
        go_wp2_with fail
        refine (HPA.out _).mono ?_
        rintro e w2 ⟨rfl, rfl⟩
        go_wp2
        go_returns
        exact BADS.out _ hBr HF.out
      rw [bs_list, hpo] at HPA
      have HB1 : Hid (Disk.bad l f = ((SM.look l fp).isSome || (fd && !ft.isEmpty))) := Lib.hid (by rw [HBAD.out, hpo]; simp)
      clear hpo
      have HFI := Lib.hid (find_any d0 HDR.out.row.files HDR.out.rises (by have := HLL.out; omega) (bs fp))
      go_wp2_with fail
      refine (HPA.out _).mono ?_
      rintro e w2 ⟨rfl, rfl⟩
      go_wp2_with fail
      refine (HFI.out).mono ?_
      rintro e w3 ⟨⟨fi, rfl, hfd⟩, rfl⟩
      rw [bs_list] at hfd
      rcases hfd with ⟨hno, rfl⟩ | ⟨k, t, rfl, hk, hlk⟩
      rotate_left 1
      · have HF := Lib.hid (show Disk.bad l f = true by rw [HB1.out, hlk]; rfl)
        have hk0 : (0 : Int) ≤ (k : Int) := by omega
        clear hk hlk
        go_wp2
        go_returns
        exact BADS.out _ hBr HF.out
      have HB2 : Hid (Disk.bad l f = (fd && !ft.isEmpty)) := Lib.hid (by rw [HB1.out, hno]; rfl)
      clear hno
      have hft := str_eq_lit (bs ft) []
      rw [bs_list] at hft
      have CASES : (fd = true ∧ ((bs ft).toList == ([] : List UInt8)) = false ∧ Disk.bad l f = true) ∨ (fd = true ∧ ((bs ft).toList == ([] : List UInt8)) = true ∧ Disk.bad l f = false) ∨ (fd = false ∧ Disk.bad l f = false) := by
        rw [HB2.out, hft]
        cases fd
        · exact Or.inr (Or.inr ⟨rfl, rfl⟩)
        · cases ft with
          | nil => exact Or.inr (Or.inl ⟨rfl, rfl, rfl⟩)
          | cons a b => exact Or.inl ⟨rfl, rfl, rfl⟩
      clear hft
      rcases CASES with ⟨hfd, hq, hbad⟩ | ⟨hfd, hq, hbad⟩ | ⟨hfd, hbad⟩
      · subst hfd
        have HF := Lib.hid hbad
        clear hbad
        go_wp2
        go_returns
        exact BADS.out _ hBr HF.out
      all_goals
        subst hfd
        have HF := Lib.hid (HNEXT.out hbad)
        clear hbad
        have HPU := Lib.hid (put_any HDR.out f false (by have := HLL.out; omega))
        rw [HFF.out] at HPU
        rw [HFF.out] at HF
        dsimp only at HPU HF
        have HLP := Lib.hid (fun t => SM.length_put_le l fp t)
        go_wp2_with fail
        refine (HPU.out).mono ?_
        rintro e w4 ⟨rfl, ⟨lv4, hr4, _⟩, hg4⟩
        have HR4 := Lib.hid hr4
        have HB4 := Lib.hid (hBr.grown hg4 hzr (fun j hj => by cases hj; exact HDR.out.rdb))
        clear hr4 hg4
        go_wp2
        go_roundw
        case rel => exact ⟨i + 1, _, lv4, by go_num, by omega, Nat.le_trans (HLP.out _) (by have := HLL.out; omega), HF.out, HR4.out, HB4.out⟩
        case measure => simp [intOf]; omega
    · have hfull : fs.take i = fs := List.take_of_length_le (by have := HN.out; omega)
      have hfl := HFILL.out
      rw [hfull] at hfl
      have HLD : Hid (Disk.load fs = if Disk.housed l then some l else none) := Lib.hid (by unfold Disk.load; rw [hfl])
      have HLP : Hid (∀ x ∈ l, x.1.length ≤ 4398046511104) := Lib.hid (fun x hx => by
        have h1 := SM.look_mem HDR.out.rises hx
        rcases (Disk.fill_look hfl).1 _ _ h1 with h | ⟨f, hf, e, _⟩
        · exact absurd h (by simp [SM.look_nil])
        · rw [← e]; exact (HSZ.out f hf).1)
      clear hfull hfl
      have HFI := Lib.hid HDR.out.row.files
      obtain ⟨al, cl, rfl⟩ := own_form HDR.out.row
      obtain ⟨M, hM⟩ : ∃ M, M = (fls l).length := ⟨_, rfl⟩
      rw [← hM] at d0
      have HM := Lib.hid hM
      have HML : Hid (M = l.length) := Lib.hid (by rw [hM, fls_length])
      have hMi : M ≤ i := by rw [HML.out]; exact HLL.out
      clear hM
      have hex : ¬ ((i : Int) < (N : Int)) := by omega
      go_wp2
      go_loopw [7] (fun p wr => ∃ j : Nat, p = .int .i64 j ∧ j ≤ M ∧ (∀ x ∈ l.take j, Disk.kind l (Disk.parent x.1) = 2) ∧ wr = wo) (fun p _ => M - (intOf p).toNat)
      case atStart => exact ⟨0, rfl, by omega, fun x hx => by simp at hx, rfl⟩
      case round =>
        obtain ⟨j, rfl, hj, hall, rfl⟩ := hrel
        have HALL := Lib.hid hall
        clear hall
        by_cases hjM : j < M
        · obtain ⟨f, hf⟩ : ∃ f, (fls l)[j]? = some f := ⟨_, List.getElem?_eq_getElem (by have := HM.out; omega)⟩
          obtain ⟨bk, o, cap, hve, hbB, hbc⟩ := HFI.out.at (by have := HM.out; omega)
          rw [← HM.out] at hve
          cases hve
          obtain ⟨e1, e2, e3⟩ := hbc j f hf
          have hl := fls_at hf
          have HMEM := Lib.hid (List.mem_of_getElem? hl)
          have HL := Lib.hid hl
          obtain ⟨xp, xd, xt⟩ := f
          dsimp only at e1 e2 e3 HL HMEM
          have hxl := HLP.out _ HMEM.out
          dsimp only at hxl
          have hlt : (j : Int) < (M : Int) := by omega
          have HPAR := Lib.hid (fun W => rparent_any (bs xp) (by show xp.toArray.size ≤ _; simp; omega) W)
          rw [bs_list] at HPAR
          obtain ⟨q, hq⟩ : ∃ q, q = Disk.parent xp := ⟨_, rfl⟩
          rw [← hq] at HPAR
          have HKI := Lib.hid (rkind_any HDR.out.c0 HFI.out HDR.out.rises (by have := HML.out; omega) (bs q))
          rw [bs_list] at HKI
          have HNX : Hid (Disk.kind l q = 2 → ∀ x ∈ l.take (j + 1), Disk.kind l (Disk.parent x.1) = 2) := Lib.hid (fun h x hx => by
            rw [List.take_add_one, HL.out] at hx
            rcases List.mem_append.1 hx with hx | hx
            · exact HALL.out x hx
            · simp at hx; subst hx; rw [← hq]; exact h)
          have HNO : Hid (Disk.kind l q ≠ 2 → Disk.load fs = none) := Lib.hid (fun h => by
            rw [HLD.out, if_neg]
            unfold Disk.housed
            rw [List.all_eq_true]
            intro hh
            have := hh _ HMEM.out
            dsimp only at this
            rw [← hq] at this
            exact h (by simpa using this))
          obtain ⟨kk, hkk⟩ : ∃ kk, kk = Disk.kind l q := ⟨_, rfl⟩
          rw [← hkk] at HKI HNX HNO
          clear hf hbc hl hq hkk
          by_cases hk2 : kk = 2
          · have hne : (kk != 2) = false := by rw [bne_eq_false_iff_eq]; exact hk2
            have HK := Lib.hid (HNX.out hk2)
            clear hk2
            go_wp2_with fail
            refine (HPAR.out _).mono ?_
            rintro e w5 ⟨rfl, rfl⟩
            go_wp2_with fail
            refine (HKI.out).mono ?_
            rintro e w6 ⟨rfl, rfl⟩
            go_wp2
            go_roundw
            case rel => exact ⟨j + 1, by go_num, by omega, HK.out, trivial⟩
            case measure => simp [intOf]; omega
          · have hne : (kk != 2) = true := by rw [bne_iff_ne]; exact hk2
            have HK := Lib.hid (HNO.out hk2)
            clear hk2
            go_wp2_with fail
            refine (HPAR.out _).mono ?_
            rintro e w5 ⟨rfl, rfl⟩
            go_wp2_with fail
            refine (HKI.out).mono ?_
            rintro e w6 ⟨rfl, rfl⟩
            go_wp2
            go_returns
            exact RLoadPost.bad HK.out hBr
        · have HF := Lib.hid (RLoadPost.good (fs := fs) (w := w) (by
            rw [HLD.out, if_pos]
            unfold Disk.housed
            rw [List.all_eq_true]
            intro x hx
            have := HALL.out x (by rw [List.take_of_length_le (by have := HML.out; omega)]; exact hx)
            rw [this]; rfl) HDR.out (by have := HLL.out; have := HN.out; omega) hBr)
          have hex2 : ¬ ((j : Int) < (M : Int)) := by omega
          go_wp2
          go_returns
          exact HF.out
end Go.Proofs.YtdogacgpfnolfaaGreatDoor
