/- There and back: the counts, in plain words. -/
import Derived.Test.YtnfklomokjhojaaDoorDeltaW
namespace Go.Proofs.YtnfklomokjhojaaDoor
set_option linter.unusedSimpArgs false
set_option linter.unusedVariables false
namespace Disk
def cnt (k : Int) (ds : List Dd) : Nat := (ds.filter fun d => d.kind == k).length
theorem cnt_nil (k : Int) : cnt k [] = 0 := rfl
theorem cnt_append (k : Int) (a b : List Dd) : cnt k (a ++ b) = cnt k a + cnt k b := by unfold cnt; rw [List.filter_append, List.length_append]
theorem cnt_reverse (k : Int) (a : List Dd) : cnt k a.reverse = cnt k a := by unfold cnt; rw [List.filter_reverse, List.length_reverse]
theorem cnt_le (k : Int) (a : List Dd) : cnt k a ≤ a.length := List.length_filter_le _ _
theorem cnt_pick (c : List UInt8 × T → Nat) (n : Nat) (f : List UInt8 × T → Dd) (l : M) (k k' : Int) (hf : ∀ x, (f x).kind = k') : cnt k (pick c n f l) = if k' = k then (l.filter fun x => c x == n).length else 0 := by
  unfold cnt pick
  rw [List.filter_map, List.length_map, List.filter_filter]
  by_cases h : k' = k
  · rw [if_pos h]
    congr 1
    apply List.filter_congr
    intro x _
    show ((f x).kind == k && c x == n) = _
    rw [hf, h]; simp
  · rw [if_neg h]
    rw [List.filter_eq_nil_iff.2]
    · rfl
    · intro x _
      show ¬ ((f x).kind == k && c x == n) = true
      rw [hf, beq_eq_false_iff_ne.2 h]; simp
theorem cnt_delta (k : Int) (a b : M) : cnt k (delta a b) = (if (1 : Int) = k then (a.filter fun x => cls b x == 1).length else 0) + ((if (2 : Int) = k then (a.filter fun x => cls b x == 2).length else 0) + ((if (3 : Int) = k then (b.filter fun x => cls2 a x == 3).length else 0) + (if (4 : Int) = k then (b.filter fun x => cls2 a x == 4).length else 0))) := by
  unfold delta
  rw [cnt_append, cnt_append, cnt_append, cnt_reverse, cnt_reverse, cnt_pick _ _ _ _ k 1 (fun _ => rfl), cnt_pick _ _ _ _ k 2 (fun _ => rfl), cnt_pick _ _ _ _ k 3 (fun _ => rfl), cnt_pick _ _ _ _ k 4 (fun _ => rfl)]
theorem filter_split {α : Type} (P Q R : α → Bool) : ∀ (l : List α), (∀ x ∈ l, P x = (Q x || R x) ∧ (Q x && R x) = false) → (l.filter P).length = (l.filter Q).length + (l.filter R).length
  | [], _ => rfl
  | x :: r, h => by
    have ih := filter_split P Q R r fun y hy => h y (List.mem_cons_of_mem _ hy)
    obtain ⟨h1, h2⟩ := h x List.mem_cons_self
    rw [List.filter_cons, List.filter_cons, List.filter_cons, h1]
    cases hq : Q x <;> cases hr : R x
    · simp [ih]
    · simp [ih]; omega
    · simp [ih]; omega
    · rw [hq, hr] at h2; exact absurd h2 (by simp)
/-- Both are files, and not the same. -/
def differ (a : M) (y : List UInt8 × T) : Bool := !y.2.dir && match SM.look a y.1 with
  | some x => !x.dir && !decide (x = y.2)
  | none => false
theorem differ_same {a b : M} (ha : SM.Rises a) (hb : SM.Rises b) : (b.filter (differ a)).length = (a.filter (differ b)).length := by
  have key : ∀ {a b : M}, SM.Rises a → SM.Rises b → ∀ p, SM.look ((b.filter (differ a)).map fun x => (x.1, ())) p = some () → SM.look ((a.filter (differ b)).map fun x => (x.1, ())) p = some () := by
    intro a b ha hb p h
    have hm := SM.look_some h
    obtain ⟨y, hy, e⟩ := List.mem_map.1 hm
    have e1 : y.1 = p := congrArg Prod.fst e
    obtain ⟨hy1, hy2⟩ := List.mem_filter.1 hy
    have hyb := SM.look_mem hb hy1
    unfold differ at hy2
    cases hx : SM.look a y.1 with
    | none => rw [hx] at hy2; simp at hy2
    | some x =>
      rw [hx] at hy2
      simp at hy2
      have hxa := SM.look_some hx
      have hin : (y.1, x) ∈ a.filter (differ b) := List.mem_filter.2 ⟨hxa, by
        unfold differ
        simp only
        rw [hyb]
        simp [hy2.1, hy2.2.1]
        exact fun e => hy2.2.2 e.symm⟩
      have hr : SM.Rises ((a.filter (differ b)).map fun x => (x.1, ())) := by
        unfold SM.Rises
        rw [List.pairwise_map]
        exact List.Pairwise.filter _ ha
      have := SM.look_mem hr (x := (p, ())) (List.mem_map.2 ⟨_, hin, by rw [e1]⟩)
      exact this
  have hra : SM.Rises ((a.filter (differ b)).map fun x => (x.1, ())) := by
    unfold SM.Rises
    rw [List.pairwise_map]
    exact List.Pairwise.filter _ ha
  have hrb : SM.Rises ((b.filter (differ a)).map fun x => (x.1, ())) := by
    unfold SM.Rises
    rw [List.pairwise_map]
    exact List.Pairwise.filter _ hb
  have h := SM.ext hrb hra fun p => by
    cases h1 : SM.look ((b.filter (differ a)).map fun x => (x.1, ())) p with
    | some u => exact (key ha hb p h1).symm
    | none =>
      cases h2 : SM.look ((a.filter (differ b)).map fun x => (x.1, ())) p with
      | none => rfl
      | some u => rw [key hb ha p h2] at h1; exact absurd h1 (by simp)
  have := congrArg List.length h
  simpa using this
/-- Directories that come are those that go on the way back. -/
theorem dirs_count {fa fb : List Fl} {a b : M} (ha : Loaded fa a) (hb : Loaded fb b) : (b.filter fun x => cls2 a x == 3).length = (b.filter fun x => cls a x == 2).length := by
  congr 1
  apply List.filter_congr
  intro y hy
  have hyb := SM.look_mem hb.rises hy
  unfold cls2 cls
  cases hx : SM.look a y.1 with
  | none => cases hd : y.2.dir <;> simp
  | some x =>
    simp only
    cases hd : y.2.dir
    · by_cases h1 : x = y.2
      · subst h1; simp [hd]
      · cases hxd : x.dir <;> simp [h1]
    · have e1 := hb.dirs _ _ hyb hd
      by_cases h1 : x = y.2
      · subst h1; simp [hd]
      · cases hxd : x.dir
        · simp [h1]
        · have e2 := ha.dirs _ _ hx hxd
          refine absurd ?_ h1
          obtain ⟨xd, xt⟩ := x
          obtain ⟨p, yd, yt⟩ := y
          simp at hd e1 hxd e2
          rw [hxd, e2, hd, e1]
/-- Files that come, and are replaced, against those on the way back. -/
theorem files_count {a b : M} : (b.filter fun x => cls2 a x == 4).length = (b.filter fun x => cls a x == 1).length + (b.filter (differ a)).length := by
  refine filter_split _ _ _ b fun y _ => ?_
  unfold cls2 cls differ
  cases hx : SM.look a y.1 with
  | none => cases hd : y.2.dir <;> simp
  | some x =>
    simp only
    by_cases h1 : x = y.2
    · subst h1; simp
    · cases hd : y.2.dir <;> cases hxd : x.dir <;> simp [h1]
theorem counts {fa fb : List Fl} {a b : M} (ha : Loaded fa a) (hb : Loaded fb b) : cnt 3 (delta a b) = cnt 2 (delta b a) ∧ cnt 2 (delta a b) = cnt 3 (delta b a) ∧ cnt 4 (delta a b) + cnt 1 (delta a b) = cnt 1 (delta b a) + cnt 4 (delta b a) := by
  simp only [cnt_delta]
  have h1 := dirs_count ha hb
  have h2 := dirs_count hb ha
  have h3 := files_count (a := a) (b := b)
  have h4 := files_count (a := b) (b := a)
  have h5 := differ_same ha.rises hb.rises
  refine ⟨by simp; omega, by simp; omega, by simp; omega⟩
theorem kinds {a b : M} {d : Dd} (h : d ∈ delta a b) : ∃ c : Nat, d.kind = c ∧ 1 ≤ c ∧ c ≤ 4 := by
  rcases mem_delta.1 h with h | h | h | h <;> obtain ⟨x, _, _, rfl⟩ := mem_pick.1 h
  · exact ⟨1, rfl, by omega, by omega⟩
  · exact ⟨2, rfl, by omega, by omega⟩
  · exact ⟨3, rfl, by omega, by omega⟩
  · exact ⟨4, rfl, by omega, by omega⟩
theorem delta_length {fa fb : List Fl} {a b : M} (ha : Loaded fa a) (hb : Loaded fb b) : (delta a b).length ≤ 2 * fa.length + 2 * fb.length := by
  have l1 := ha.len
  have l2 := hb.len
  have p1 : ∀ (c : List UInt8 × T → Nat) k f (l : M), (pick c k f l).length ≤ l.length := fun c k f l => by
    unfold pick; rw [List.length_map]; exact List.length_filter_le _ _
  unfold delta
  simp only [List.length_append, List.length_reverse]
  have q1 := p1 (cls b) 1 unl a
  have q2 := p1 (cls b) 2 rmd a
  have q3 := p1 (cls2 a) 3 mkd b
  have q4 := p1 (cls2 a) 4 putd b
  omega
theorem res_back {before after : List Fl} {a b : M} (h1 : read before = some a) (h2 : read after = some b) : deedsRes after before = (delta b a, 0) := by
  unfold deedsRes
  rw [h2, h1]
theorem res_bad {before after : List Fl} (h : deedsRes before after = ([], 1)) : deedsRes after before = ([], 1) := by
  unfold deedsRes at h ⊢
  cases h1 : read before with
  | none =>
    cases h2 : read after with
    | none => rfl
    | some b => rfl
  | some a =>
    cases h2 : read after with
    | none => rfl
    | some b => rw [h1, h2] at h; exact absurd (congrArg Prod.snd h) (by simp)
theorem cnt_next {ds : List Dd} {i : Nat} {d : Dd} (h : ds[i]? = some d) (k : Int) : cnt k (ds.take (i + 1)) = if d.kind = k then cnt k (ds.take i) + 1 else cnt k (ds.take i) := by
  rw [List.take_add_one, h, cnt_append]
  unfold cnt
  by_cases hk : d.kind = k
  · rw [if_pos hk]; simp [hk]
  · rw [if_neg hk]; simp [hk]
end Disk
end Go.Proofs.YtnfklomokjhojaaDoor
