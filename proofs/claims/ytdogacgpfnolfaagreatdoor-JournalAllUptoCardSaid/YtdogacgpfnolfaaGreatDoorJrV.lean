/- what JournalAll leans on. -/
import Derived.Test.YtdogacgpfnolfaaGreatDoorJrS
import Derived.Test.YtdogacgpfnolfaaGreatDoorJrD
import Derived.Test.YtdogacgpfnolfaaGreatDoorDkD
namespace Go.Proofs.YtdogacgpfnolfaaGreatDoor
open Go.RowKit Go.Maps
set_option linter.unusedSimpArgs false
set_option linter.unusedVariables false
theorem ours_jp (p : List UInt8) : Disk.ours p = Disk.jp p := by
  unfold Disk.ours Disk.jp
  rfl
theorem read_free {fs : List Disk.Fl} {l : Disk.M} (h : Disk.read fs = some l) : Disk.load fs = some l ∧ Disk.jpart l = [] := by
  have hl := Disk.read_load h
  refine ⟨hl, ?_⟩
  have hno : ∀ f ∈ fs, Disk.jp f.path = false := by
    unfold Disk.read at h
    rw [hl] at h
    dsimp only at h
    split at h
    · exact absurd h (by simp)
    · rename_i hh
      intro f hf
      rw [← ours_jp]
      cases hj : Disk.ours f.path with
      | false => rfl
      | true => exact absurd (List.any_eq_true.2 ⟨f, hf, hj⟩) hh
  have hh := load_hung hl
  unfold Disk.jpart
  rw [List.filter_eq_nil_iff]
  intro x hx
  have hlook := SM.look_mem hh.rises hx
  unfold Disk.load at hl
  cases hf : Disk.fill [] fs with
  | none => rw [hf] at hl; exact absurd hl (by simp)
  | some m =>
    rw [hf] at hl
    dsimp only at hl
    split at hl
    · cases hl
      rcases (Disk.fill_look hf).1 x.1 x.2 hlook with h1 | ⟨f, hf2, e, _⟩
      · simp [SM.look_nil] at h1
      · rw [← e, hno f hf2]; simp
    · exact absurd hl (by simp)
/-- All or none, as a walk takes it. -/
theorem all_plan {a b : Disk.M} {D : List Disk.Dd} {X : List UInt8} (hg : Disk.Good a D) (hb : Disk.runC a D = b) (hp : parseJ X = (0, D)) {s1 : Disk.S} (h1 : s1.l = a) (h2 : s1.raws = []) :
    ∃ Q : Disk.M → Prop, ((s1.commit true X D).1 = 0 ∨ (s1.commit true X D).1 = 15) ∧ Q (s1.commit true X D).2.l ∧
      (∀ s : Disk.S, Q s.l → ((s.recover parseJ).1 = 0 ∨ (s.recover parseJ).1 = 15) ∧ Q (s.recover parseJ).2.l ∧ (s.left = -1 → (s.recover parseJ).1 = 0 ∧ (s.recover parseJ).2.l = if (s1.commit true X D).2.raws.length < 3 then a else b)) ∧
      (∀ m, Q m → Disk.LT X m) ∧ ((s1.commit true X D).2.raws.length < 3 → (s1.commit true X D).1 ≠ 0 ∨ D = []) := by
  obtain ⟨c1, c2, c3⟩ := Disk.commit_all hg X h1 h2
  rcases c2 with ⟨hlt, ho⟩ | ⟨hge, hn⟩
  · refine ⟨Disk.Old a D X, c1, ho, fun s hs => ?_, fun m hm => ?_, fun _ => ?_⟩
    · have hw := Disk.recover_old hg parseJ hs
      refine ⟨?_, ?_, fun hl => ?_⟩
      · rcases hw.2 with ⟨e, _⟩ | ⟨e, _⟩
        · exact Or.inl e
        · exact Or.inr e
      · rcases hw.2 with ⟨_, h⟩ | ⟨_, _, h⟩
        · exact Or.inl h
        · exact h
      · have hup := hw.1 hl
        rcases hw.2 with ⟨e, h⟩ | ⟨_, e, _⟩
        · refine ⟨e, ?_⟩
          rw [if_pos hlt]
          exact h.none
        · rw [hup] at e; exact absurd e (by decide)
    · rcases hm with h | h | h
      · exact Or.inl (h.look Disk.jp_jT)
      · exact Or.inl (h.look Disk.jp_jT)
      · exact Or.inl (h.look Disk.jp_jT)
    · by_cases e : (s1.commit true X D).1 = 0
      · by_cases hd : D = []
        · exact Or.inr hd
        · have := c3 e hd; omega
      · exact Or.inl e
  · refine ⟨Disk.New a D X, c1, hn, fun s hs => ?_, fun m hm => ?_, fun h => by omega⟩
    · have hw := Disk.recover_new hg hp hs
      refine ⟨?_, ?_, fun hl => ?_⟩
      · rcases hw.2 with ⟨e, _⟩ | ⟨e, _⟩
        · exact Or.inl e
        · exact Or.inr e
      · rcases hw.2 with ⟨_, h⟩ | ⟨_, _, h⟩
        · exact Or.inr (Or.inr h)
        · exact h
      · have hup := hw.1 hl
        rcases hw.2 with ⟨e, h⟩ | ⟨_, e, _⟩
        · refine ⟨e, ?_⟩
          rw [if_neg (by omega), ← hb]
          have := h.none
          rwa [List.take_length] at this
        · rw [hup] at e; exact absurd e (by decide)
    · rcases hm with ⟨f, h⟩ | h | h
      · exact Or.inr (h.look Disk.jp_jT)
      · exact Or.inl (h.look Disk.jp_jT)
      · exact Or.inl (h.look Disk.jp_jT)
theorem free_kind {a : Disk.M} (h : Disk.jpart a = []) : Disk.kind a Disk.jA = 0 := by
  rw [← Disk.kind_jpart Disk.jp_jA, h]
  rfl
theorem deedCells_of (D : List Disk.Dd) : PL.deedCells (D.map ofDd) = D.flatMap ddCells := by
  unfold PL.deedCells
  rw [List.flatMap_map]
  rfl
theorem delta_len (a b : Disk.M) : (Disk.delta a b).length ≤ a.length + a.length + (b.length + b.length) := by
  unfold Disk.delta Disk.pick
  simp only [List.length_append, List.length_reverse, List.length_map]
  have h1 := List.length_filter_le (fun x => Disk.cls b x == 1) a
  have h2 := List.length_filter_le (fun x => Disk.cls b x == 2) a
  have h3 := List.length_filter_le (fun x => Disk.cls2 a x == 3) b
  have h4 := List.length_filter_le (fun x => Disk.cls2 a x == 4) b
  omega
/-- Two lists of files are compared. -/
def BoolPost (w : World) (e : Ending) (w' : World) : Prop := ∃ b, e = .returned (.bool b) ∧ ∃ m, w' = w.drewN m
set_option maxHeartbeats 4000000 in
set_option maxRecDepth 100000 in
theorem files_bool {w : World} {B : Nat} {v1 v2 : Value} {ds es : List Disk.Fl} (h1 : Files w B v1 ds) (h2 : Files w B v2 es) (hn : ds.length ≤ 4398046511104) (hm : es.length ≤ 4398046511104) :
    Calls Tryz.prog 16 #[v1, v2] w (BoolPost w) := by
  obtain ⟨a1, c1, rfl⟩ := h1.form
  obtain ⟨a2, c2, rfl⟩ := h2.form
  obtain ⟨N, hN⟩ : ∃ N, N = ds.length := ⟨_, rfl⟩
  obtain ⟨M, hM⟩ : ∃ M, M = es.length := ⟨_, rfl⟩
  have H1 := Lib.hid h1
  have H2 := Lib.hid h2
  rw [← hN] at hn ⊢
  rw [← hM] at hm ⊢
  have HN := Lib.hid hN
  have HM := Lib.hid hM
  clear h1 h2 hN hM
  by_cases hnm : N = M
  · subst hnm
    go_enter Tryz.func16, Tryz.ntmps16
    go_wp2
    go_loopw [5] (fun q wr => ∃ i m : Nat, q = .int .i64 i ∧ i ≤ N ∧ wr = w.drewN m) (fun q _ => N - (intOf q).toNat)
    case atStart => exact ⟨0, 0, rfl, by omega, rfl⟩
    case round =>
      obtain ⟨i, m, rfl, hi, rfl⟩ := hrel
      by_cases hiN : i < N
      · obtain ⟨d, hd⟩ : ∃ d, ds[i]? = some d := ⟨_, List.getElem?_eq_getElem (by have := HN.out; omega)⟩
        obtain ⟨f, hf⟩ : ∃ f, es[i]? = some f := ⟨_, List.getElem?_eq_getElem (by have := HM.out; omega)⟩
        obtain ⟨b1, o1, cap1, hv1, hb1, hc1⟩ := H1.out.at (by have := HN.out; omega)
        obtain ⟨b2, o2, cap2, hv2, hb2, hc2⟩ := H2.out.at (by have := HM.out; omega)
        rw [← HN.out] at hv1
        rw [← HM.out] at hv2
        cases hv1
        cases hv2
        obtain ⟨x1, x2, x3⟩ := hc1 i d hd
        obtain ⟨y1, y2, y3⟩ := hc2 i f hf
        have hiI : (i : Int) < (N : Int) := by omega
        have hdn := fun w => fileNeq w d f
        obtain ⟨sb, hsb⟩ : ∃ sb, sb = sameF d f := ⟨_, rfl⟩
        rw [← hsb] at hdn
        clear hc1 hc2 hd hf hsb
        cases sb
        · go_wp2
          go_big_quiet (fail)
          go_wp2
          go_returns
          exact ⟨_, rfl, m + nq, by first | rfl | rw [World.drewN_drewN]⟩
        · go_wp2
          go_big_quiet (fail)
          go_wp2
          go_roundw
          case rel => exact ⟨i + 1, _, by go_num, by omega, rfl⟩
          case measure => simp [intOf]; omega
      · go_wp2
        go_returns
        exact ⟨_, rfl, _, rfl⟩
  · have hq : (((N : Nat) : Int) != ((M : Nat) : Int)) = true := by rw [bne, beq_eq_false_iff_ne.2 (by omega)]; rfl
    go_enter Tryz.func16, Tryz.ntmps16
    go_wp2
    go_returns
    exact ⟨_, rfl, 0, rfl⟩
/-- The slice v has the numbers xs. -/
structure Cuts (w : World) (B : Nat) (v : Value) (xs : List Int) : Prop where
  is : ∃ a cap, v = .slice a xs.length cap ∧ ∀ (i : Nat) x, xs[i]? = some x → (∃ bk o, a = some ⟨bk, o, none⟩ ∧ bk < B ∧ w.cell? ⟨bk, o + i, none⟩ = some (.int .i64 x)) ∧ x ≤ 9223372036854775807
theorem Cuts.at {w : World} {B : Nat} {v : Value} {xs : List Int} (h : Cuts w B v xs) (hn : 0 < xs.length) : ∃ bk o cap, v = .slice (some ⟨bk, o, none⟩) xs.length cap ∧ bk < B ∧ ∀ (i : Nat) x, xs[i]? = some x → w.cell? ⟨bk, o + i, none⟩ = some (.int .i64 x) ∧ x ≤ 9223372036854775807 := by
  obtain ⟨a, cap, rfl, hc⟩ := h.is
  obtain ⟨⟨bk, o, ha, hB, _⟩, _⟩ := hc 0 xs[0] (List.getElem?_eq_getElem hn)
  subst ha
  refine ⟨bk, o, cap, rfl, hB, fun i x hx => ?_⟩
  obtain ⟨⟨bk', o', ha', _, h1⟩, h2⟩ := hc i x hx
  cases ha'
  exact ⟨h1, h2⟩
end Go.Proofs.YtdogacgpfnolfaaGreatDoor
