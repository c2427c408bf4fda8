/- What makes one set of files another one is a plan that goes: in plain words. No program stands here. -/
import Derived.Test.YtdogacgpfnolfaaGreatDoorDoesJ
import Derived.Test.YtdogacgpfnolfaaGreatDoorJrA
import Derived.Test.YtdogacgpfnolfaaGreatDoorPAgainL
namespace Go.Proofs.YtdogacgpfnolfaaGreatDoor
set_option linter.unusedSimpArgs false
set_option linter.unusedVariables false
namespace PL.Plan
theorem lastKind_le {pre : List D} {k : Int} (h : ∀ x ∈ pre, x.kind ≤ k) (h1 : 1 ≤ k) : lastKind pre ≤ k := by
  unfold lastKind
  cases hl : pre.getLast? with
  | none => exact h1
  | some x => exact h x (List.mem_of_getLast? hl)
theorem okD_raise {least : Int} {d : D} (h : okD 1 d = true) (hl : least ≤ d.kind) : okD least d = true := by
  unfold okD at h ⊢
  rw [Bool.and_eq_true] at h ⊢
  exact ⟨decide_eq_true hl, h.2⟩
/-- Deeds that rise by their kinds, each path once, or twice as it may be, are a plan. -/
theorem ok_of : ∀ (n : Nat) (ds : List D), ds.length = n → (∀ d ∈ ds, okD 1 d = true) → ds.Pairwise (fun x y => x.kind ≤ y.kind) → ds.Pairwise (fun x y => x.path = y.path → pairB x.kind y.kind = true) → ok ds = true := fun n => by
  induction n with
  | zero =>
    intro ds hn _ _ _
    rw [List.length_eq_zero_iff.1 hn]
    rfl
  | succ n ih =>
    intro ds hn h1 h2 h3
    rcases List.eq_nil_or_concat ds with rfl | ⟨pre, d, rfl⟩
    · simp at hn
    rw [List.concat_eq_append] at hn h1 h2 h3 ⊢
    obtain ⟨a1, _, a3⟩ := List.pairwise_append.1 h2
    obtain ⟨b1, _, b3⟩ := List.pairwise_append.1 h3
    have hd := h1 d (List.mem_append_right _ (List.mem_singleton.2 rfl))
    have hk : 1 ≤ d.kind := by
      unfold okD at hd
      rw [Bool.and_eq_true] at hd
      exact of_decide_eq_true hd.1
    rw [ok_step (ih pre (by simpa using hn) (fun x hx => h1 x (List.mem_append_left _ hx)) a1 b1)]
    unfold stepOk
    rw [okD_raise hd (lastKind_le (fun x hx => a3 x hx d (List.mem_singleton.2 rfl)) hk), Bool.true_and, Bool.and_eq_true]
    have hm : ∀ x ∈ met pre d.path, pairB x.kind d.kind = true := fun x hx => by
      have := List.mem_filter.1 hx
      exact b3 x this.1 d (List.mem_singleton.2 rfl) (of_decide_eq_true this.2)
    refine ⟨decide_eq_true ?_, List.all_eq_true.2 hm⟩
    have hp : (met pre d.path).Pairwise (fun x y => x.path = y.path → pairB x.kind y.kind = true) := List.Pairwise.filter _ b1
    have hpath : ∀ x ∈ met pre d.path, x.path = d.path := fun x hx => of_decide_eq_true (List.mem_filter.1 hx).2
    match hq : met pre d.path with
    | [] => exact Nat.zero_le _
    | [x] => exact Nat.le_refl _
    | x :: y :: r =>
      exfalso
      rw [hq] at hm hp hpath
      have e1 := (List.pairwise_cons.1 hp).1 y List.mem_cons_self ((hpath x List.mem_cons_self).trans (hpath y (List.mem_cons_of_mem _ List.mem_cons_self)).symm)
      have e2 := hm y (List.mem_cons_of_mem _ List.mem_cons_self)
      unfold pairB at e1 e2
      simp only [Bool.or_eq_true, Bool.and_eq_true, beq_iff_eq] at e1 e2
      omega
end PL.Plan
def ofDd (d : Disk.Dd) : PL.Plan.D := ⟨d.kind, d.path, d.data⟩
theorem to_of (ds : List Disk.Dd) : (ds.map ofDd).map toDd = ds := by
  rw [List.map_map]
  have : (toDd ∘ ofDd) = id := rfl
  rw [this, List.map_id]
theorem of_to (ds : List PL.Plan.D) : (ds.map toDd).map ofDd = ds := by
  rw [List.map_map]
  have : (ofDd ∘ toDd) = id := rfl
  rw [this, List.map_id]
theorem free_jp (p : List UInt8) : PL.Plan.free p = !Disk.jp p := by
  show (!decide (p = Disk.jA) && !(Disk.jA ++ [47]).isPrefixOf p) = !(decide (p = Disk.jA) || (Disk.jA ++ [47]).isPrefixOf p)
  rw [Bool.not_or]
namespace Disk
theorem pick_mem {c : List UInt8 × T → Nat} {k : Nat} {f : List UInt8 × T → Dd} (hf : ∀ x, (f x).path = x.1) {l : M} (hl : SM.Rises l) {d : Dd} (h : d ∈ pick c k f l) : ∃ t, SM.look l d.path = some t ∧ c (d.path, t) = k ∧ f (d.path, t) = d := by
  unfold pick at h
  obtain ⟨x, hx, e⟩ := List.mem_map.1 h
  have h1 := List.mem_filter.1 hx
  have hp : d.path = x.1 := by rw [← e]; exact hf x
  refine ⟨x.2, ?_, ?_, ?_⟩
  · rw [hp]; exact SM.look_mem hl h1.1
  · rw [hp]; exact beq_iff_eq.1 h1.2
  · rw [hp]; exact e
theorem apart_pick {c : List UInt8 × T → Nat} {k : Nat} {f : List UInt8 × T → Dd} (hf : ∀ x, (f x).path = x.1) {l : M} (hl : SM.Rises l) : (pick c k f l).Pairwise (fun x y => x.path ≠ y.path) :=
  (pick_rise (c := c) (k := k) hf hl).imp fun {x y} h => SM.before_ne h
theorem dir_file {a b : M} {p : List UInt8} {t : T} (h : cls b (p, t) = 1) : t.dir = false ∧ ∀ y, SM.look b p = some y → y.dir = true := by
  rw [cls_val] at h
  split at h
  · exact absurd h (by decide)
  · rename_i hn
    cases hd : t.dir with
    | true => rw [hd] at h; exact absurd h (by decide)
    | false =>
      refine ⟨rfl, fun y hy => ?_⟩
      cases hyd : y.dir with
      | true => rfl
      | false => exact absurd ⟨y, hy, by rw [hyd, hd]⟩ hn
theorem file_dir {a b : M} {p : List UInt8} {t : T} (h : cls b (p, t) = 2) : t.dir = true ∧ ∀ y, SM.look b p = some y → y.dir = false := by
  rw [cls_val] at h
  split at h
  · exact absurd h (by decide)
  · rename_i hn
    cases hd : t.dir with
    | false => rw [hd] at h; exact absurd h (by decide)
    | true =>
      refine ⟨rfl, fun y hy => ?_⟩
      cases hyd : y.dir with
      | false => rfl
      | true => exact absurd ⟨y, hy, by rw [hyd, hd]⟩ hn
theorem new_dir {a : M} {p : List UInt8} {t : T} (h : cls2 a (p, t) = 3) : t.dir = true := by
  rw [cls2_val] at h
  split at h
  · exact absurd h (by decide)
  · cases hd : t.dir with
    | true => rfl
    | false => rw [hd] at h; exact absurd h (by decide)
theorem new_file {a : M} {p : List UInt8} {t : T} (h : cls2 a (p, t) = 4) : t.dir = false := by
  rw [cls2_val] at h
  split at h
  · exact absurd h (by decide)
  · cases hd : t.dir with
    | false => rfl
    | true => rw [hd] at h; exact absurd h (by decide)
/-- What makes one set another is a plan. -/
theorem delta_plan {a b : M} (ha : Hung a) (hb : Hung b) (fa : jpart a = []) (fb : jpart b = []) : PL.Plan.ok ((delta a b).map ofDd) = true := by
  have jf : ∀ {l : M}, SM.Rises l → jpart l = [] → ∀ {p : List UInt8} {t : T}, SM.look l p = some t → jp p = false := fun {l} hr hl {p t} hp => by
    have h1 := SM.look_some hp
    unfold jpart at hl
    rw [List.filter_eq_nil_iff] at hl
    have := hl _ h1
    simpa using this
  have mU : ∀ d ∈ (pick (cls b) 1 unl a).reverse, ∃ t, SM.look a d.path = some t ∧ cls b (d.path, t) = 1 ∧ d.kind = 1 ∧ d.data = [] := fun d hd => by
    obtain ⟨t, h1, h2, h3⟩ := pick_mem (f := unl) (fun x => rfl) ha.rises (List.mem_reverse.1 hd)
    exact ⟨t, h1, h2, by rw [← h3]; rfl, by rw [← h3]; rfl⟩
  have mR : ∀ d ∈ (pick (cls b) 2 rmd a).reverse, ∃ t, SM.look a d.path = some t ∧ cls b (d.path, t) = 2 ∧ d.kind = 2 ∧ d.data = [] := fun d hd => by
    obtain ⟨t, h1, h2, h3⟩ := pick_mem (f := rmd) (fun x => rfl) ha.rises (List.mem_reverse.1 hd)
    exact ⟨t, h1, h2, by rw [← h3]; rfl, by rw [← h3]; rfl⟩
  have mK : ∀ d ∈ pick (cls2 a) 3 mkd b, ∃ t, SM.look b d.path = some t ∧ cls2 a (d.path, t) = 3 ∧ d.kind = 3 ∧ d.data = [] := fun d hd => by
    obtain ⟨t, h1, h2, h3⟩ := pick_mem (f := mkd) (fun x => rfl) hb.rises hd
    exact ⟨t, h1, h2, by rw [← h3]; rfl, by rw [← h3]; rfl⟩
  have mP : ∀ d ∈ pick (cls2 a) 4 putd b, ∃ t, SM.look b d.path = some t ∧ cls2 a (d.path, t) = 4 ∧ d.kind = 4 := fun d hd => by
    obtain ⟨t, h1, h2, h3⟩ := pick_mem (f := putd) (fun x => rfl) hb.rises hd
    exact ⟨t, h1, h2, by rw [← h3]; rfl⟩
  have aU : ((pick (cls b) 1 unl a).reverse).Pairwise (fun x y => x.path ≠ y.path) := List.pairwise_reverse.2 ((apart_pick (fun x => rfl) ha.rises).imp fun h e => h e.symm)
  have aR : ((pick (cls b) 2 rmd a).reverse).Pairwise (fun x y => x.path ≠ y.path) := List.pairwise_reverse.2 ((apart_pick (fun x => rfl) ha.rises).imp fun h e => h e.symm)
  have aK : (pick (cls2 a) 3 mkd b).Pairwise (fun x y => x.path ≠ y.path) := apart_pick (fun x => rfl) hb.rises
  have aP : (pick (cls2 a) 4 putd b).Pairwise (fun x y => x.path ≠ y.path) := apart_pick (fun x => rfl) hb.rises
  have key : (delta a b).Pairwise (fun x y => x.kind ≤ y.kind ∧ (x.path = y.path → PL.Plan.pairB x.kind y.kind = true)) := by
    unfold delta
    refine List.pairwise_append.2 ⟨?_, List.pairwise_append.2 ⟨?_, List.pairwise_append.2 ⟨?_, ?_, ?_⟩, ?_⟩, ?_⟩
    · refine List.Pairwise.imp_of_mem (fun {x y} hx hy h => ?_) aU
      obtain ⟨_, _, _, k1, _⟩ := mU x hx
      obtain ⟨_, _, _, k2, _⟩ := mU y hy
      exact ⟨by omega, fun e => absurd e h⟩
    · refine List.Pairwise.imp_of_mem (fun {x y} hx hy h => ?_) aR
      obtain ⟨_, _, _, k1, _⟩ := mR x hx
      obtain ⟨_, _, _, k2, _⟩ := mR y hy
      exact ⟨by omega, fun e => absurd e h⟩
    · refine List.Pairwise.imp_of_mem (fun {x y} hx hy h => ?_) aK
      obtain ⟨_, _, _, k1, _⟩ := mK x hx
      obtain ⟨_, _, _, k2, _⟩ := mK y hy
      exact ⟨by omega, fun e => absurd e h⟩
    · refine List.Pairwise.imp_of_mem (fun {x y} hx hy h => ?_) aP
      obtain ⟨_, _, _, k1⟩ := mP x hx
      obtain ⟨_, _, _, k2⟩ := mP y hy
      exact ⟨by omega, fun e => absurd e h⟩
    · intro x hx y hy
      obtain ⟨t, l1, c1, k1, _⟩ := mK x hx
      obtain ⟨u, l2, c2, k2⟩ := mP y hy
      refine ⟨by omega, fun e => ?_⟩
      rw [e, l2] at l1
      rw [e, ← Option.some.inj l1, c2] at c1
      exact absurd c1 (by decide)
    · intro x hx y hy
      obtain ⟨t, l1, c1, k1, _⟩ := mR x hx
      rcases List.mem_append.1 hy with hy | hy
      · obtain ⟨u, l2, c2, k2, _⟩ := mK y hy
        refine ⟨by omega, fun e => ?_⟩
        rw [e] at c1
        have := (file_dir (a := a) c1).2 u l2
        rw [new_dir c2] at this
        exact absurd this (by simp)
      · obtain ⟨u, l2, c2, k2⟩ := mP y hy
        exact ⟨by omega, fun _ => by rw [k1, k2]; rfl⟩
    · intro x hx y hy
      obtain ⟨t, l1, c1, k1, _⟩ := mU x hx
      rcases List.mem_append.1 hy with hy | hy
      · obtain ⟨u, l2, c2, k2, _⟩ := mR y hy
        refine ⟨by omega, fun e => ?_⟩
        rw [e, l2] at l1
        rw [e, ← Option.some.inj l1, c2] at c1
        exact absurd c1 (by decide)
      rcases List.mem_append.1 hy with hy | hy
      · obtain ⟨u, l2, c2, k2, _⟩ := mK y hy
        exact ⟨by omega, fun _ => by rw [k1, k2]; rfl⟩
      · obtain ⟨u, l2, c2, k2⟩ := mP y hy
        refine ⟨by omega, fun e => ?_⟩
        rw [e] at c1
        have := (dir_file (a := a) c1).2 u l2
        rw [new_file c2] at this
        exact absurd this (by simp)
  refine PL.Plan.ok_of _ _ rfl (fun d hd => ?_) (List.pairwise_map.2 (key.imp fun h => h.1)) (List.pairwise_map.2 (key.imp fun h => h.2))
  obtain ⟨x, hx, rfl⟩ := List.mem_map.1 hd
  have hx' : 1 ≤ x.kind ∧ x.kind ≤ 4 ∧ (x.kind = 4 ∨ x.data = []) ∧ pathOk x.path = true ∧ jp x.path = false := by
    unfold delta at hx
    rcases List.mem_append.1 hx with hx | hx
    · obtain ⟨t, l1, c1, k1, e1⟩ := mU x hx
      exact ⟨by omega, by omega, Or.inr e1, ha.ok _ _ l1, jf ha.rises fa l1⟩
    rcases List.mem_append.1 hx with hx | hx
    · obtain ⟨t, l1, c1, k1, e1⟩ := mR x hx
      exact ⟨by omega, by omega, Or.inr e1, ha.ok _ _ l1, jf ha.rises fa l1⟩
    rcases List.mem_append.1 hx with hx | hx
    · obtain ⟨t, l1, c1, k1, e1⟩ := mK x hx
      exact ⟨by omega, by omega, Or.inr e1, hb.ok _ _ l1, jf hb.rises fb l1⟩
    · obtain ⟨t, l1, c1, k1⟩ := mP x hx
      exact ⟨by omega, by omega, Or.inl k1, hb.ok _ _ l1, jf hb.rises fb l1⟩
  obtain ⟨x1, x2, x3, x4, x5⟩ := hx'
  unfold PL.Plan.okD
  rw [free_jp]
  show (decide (1 ≤ x.kind) && (decide (x.kind ≤ 4) && ((decide (x.kind = 4) || x.data.isEmpty) && (PL.Plan.pathOk x.path && !jp x.path)))) = true
  rw [pathOk_eq, x4, x5, decide_eq_true x1, decide_eq_true x2]
  rcases x3 with h | h
  · rw [decide_eq_true h]; rfl
  · rw [h]; simp
/-- What can be done one by one is tried in vain by nobody. -/
theorem tries_all : ∀ (ds : List Dd) (s : S) (b : M), Hung s.l → s.left = -1 → (∀ d ∈ ds, pathOk d.path = true) → doAll s.l ds = some b → s.tries ds = true ∧ runC s.l ds = b
  | [], s, b, _, _, _, h => ⟨rfl, Option.some.inj h⟩
  | d :: r, s, b, hh, hl, hp, h => by
    have hp0 := hp d List.mem_cons_self
    unfold doAll at h
    cases hd : doD s.l d with
    | none => rw [hd] at h; exact absurd h (by simp)
    | some m =>
      rw [hd] at h
      have h : doAll m r = some b := h
      have hstep : want s.l d = true ∧ coreOk s.l d ∧ doesC s.l d = m := by
        unfold doD at hd
        by_cases k1 : d.kind = 1
        · rw [if_pos k1] at hd
          split at hd
          · rename_i hc
            refine ⟨?_, ?_, ?_⟩
            · unfold want
              rw [decide_eq_true (p := d.kind = 1 → kind s.l d.path = 1) (fun _ => hc.1), decide_eq_true (p := d.kind = 2 → _) (fun k => by omega), decide_eq_true (p := d.kind = 3 → _) (fun k => by omega)]; rfl
            · unfold coreOk coreJ doesC
              rw [if_pos (Or.inl ⟨k1, hc.1⟩), if_pos k1, if_pos hc.1]; exact ⟨hc.2, rfl⟩
            · unfold doesC; rw [if_pos k1, if_pos hc.1]; exact Option.some.inj hd
          · exact absurd hd (by simp)
        rw [if_neg k1] at hd
        by_cases k2 : d.kind = 2
        · rw [if_pos k2] at hd
          split at hd
          · rename_i hc
            refine ⟨?_, ?_, ?_⟩
            · unfold want
              rw [decide_eq_true (p := d.kind = 1 → _) (fun k => by omega), decide_eq_true (p := d.kind = 2 → kind s.l d.path = 2) (fun _ => hc.1), decide_eq_true (p := d.kind = 3 → _) (fun k => by omega)]; rfl
            · unfold coreOk coreJ doesC
              rw [if_pos (Or.inr ⟨k2, hc.1⟩), if_neg k1, if_pos k2, if_pos hc.1]; exact ⟨hc.2, rfl⟩
            · unfold doesC; rw [if_neg k1, if_pos k2, if_pos hc.1]; exact Option.some.inj hd
          · exact absurd hd (by simp)
        rw [if_neg k2] at hd
        by_cases k3 : d.kind = 3
        · rw [if_pos k3] at hd
          split at hd
          · rename_i hc
            have hk : kind s.l d.path = 0 := by
              refine Decidable.byContradiction fun hn => ?_
              unfold mkdirC at hc
              rw [if_neg (by simp [hp0])] at hc
              split at hc
              · rename_i hh; exact hh hc
              · first | exact absurd (show (11 : Int) = 0 from hc) (by decide) | (rw [if_pos hn] at hc; exact absurd (show (11 : Int) = 0 from hc) (by decide))
            refine ⟨?_, ?_, ?_⟩
            · unfold want
              rw [decide_eq_true (p := d.kind = 1 → _) (fun k => by omega), decide_eq_true (p := d.kind = 2 → _) (fun k => by omega), decide_eq_true (p := d.kind = 3 → kind s.l d.path = 0) (fun _ => hk)]; rfl
            · unfold coreOk coreJ doesC
              rw [if_neg (by omega), if_pos ⟨k3, hk⟩, if_neg k1, if_neg k2, if_pos k3, if_pos hk]; exact ⟨hc, rfl⟩
            · unfold doesC; rw [if_neg k1, if_neg k2, if_pos k3, if_pos hk]; exact Option.some.inj hd
          · exact absurd hd (by simp)
        rw [if_neg k3] at hd
        by_cases k4 : d.kind = 4
        · rw [if_pos k4] at hd
          split at hd
          · rename_i hc
            have hw : want s.l d = true := by
              unfold want
              rw [decide_eq_true (p := d.kind = 1 → _) (fun k => by omega), decide_eq_true (p := d.kind = 2 → _) (fun k => by omega), decide_eq_true (p := d.kind = 3 → _) (fun k => by omega)]; rfl
            have hcd := core_done hh hp0 (by omega) hw (fun c r e => by
              unfold coreJ at e
              rw [if_neg (by omega), if_neg (by omega)] at e
              split at e
              · cases e; exact hc
              · exact absurd e (by simp))
            refine ⟨hw, hcd.2, ?_⟩
            unfold doesC; rw [if_neg k1, if_neg k2, if_neg k3, if_pos k4]; exact Option.some.inj hd
          · exact absurd hd (by simp)
        rw [if_neg k4] at hd
        exact absurd hd (by simp)
      obtain ⟨w1, w2, w3⟩ := hstep
      obtain ⟨n1, n2, n3⟩ := doJ_next hl w2
      rw [w3] at n2
      have ih := tries_all r (s.doJ d).2 b (by rw [n2, ← w3]; exact hung_does hh d) n3 (fun x hx => hp x (List.mem_cons_of_mem _ hx)) (by rw [n2]; exact h)
      refine ⟨?_, ?_⟩
      · unfold S.tries
        rw [w1, decide_eq_true n1, ih.1]
        rfl
      · show runC (doesC s.l d) r = b
        rw [w3, ← n2]
        exact ih.2
/-- The plan that a journal takes when one set of files is to be another one. -/
theorem delta_good {a b : M} (ha : Hung a) (hb : Hung b) (fa : jpart a = []) (fb : jpart b = []) : Good a (delta a b) ∧ S.tries ⟨a, [], -1⟩ (delta a b) = true ∧ runC a (delta a b) = b := by
  have hok := delta_plan ha hb fa fb
  have hp := plan_paired hok
  rw [to_of] at hp
  have hall := PL.Plan.ok_all hok
  have ht := tries_all (delta a b) ⟨a, [], -1⟩ b ha rfl hp.1 (does ha hb)
  refine ⟨good_of ha hp (fun d hd => ?_) (fun d hd => ?_) fa ht.1, ht⟩
  · have := hall (ofDd d) (List.mem_map.2 ⟨d, hd, rfl⟩)
    exact ⟨this.1, this.2.1⟩
  · have := (hall (ofDd d) (List.mem_map.2 ⟨d, hd, rfl⟩)).2.2.2.2
    rw [free_jp] at this
    simpa [ofDd] using this
end Disk
end Go.Proofs.YtdogacgpfnolfaaGreatDoor
