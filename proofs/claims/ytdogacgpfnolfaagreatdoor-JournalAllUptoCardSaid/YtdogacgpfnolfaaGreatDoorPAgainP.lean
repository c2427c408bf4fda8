/- A plan that is done from the beginning once more comes to the same: in plain words. No program stands here. -/
import Derived.Test.YtdogacgpfnolfaaGreatDoorHung
namespace Go.Proofs.YtdogacgpfnolfaaGreatDoor
set_option linter.unusedSimpArgs false
set_option linter.unusedVariables false
namespace Disk
theorem root_no : pathOk [47] = false := by decide
theorem not_root {p : List UInt8} (h : pathOk p = true) : p ≠ [47] := fun e => by rw [e, root_no] at h; exact absurd h (by simp)
theorem kind_at {l : M} {p : List UInt8} (hp : pathOk p = true) : kind l p = match SM.look l p with | none => 0 | some t => if t.dir then 2 else 1 := by
  unfold kind
  rw [if_neg (not_root hp)]
  cases SM.look l p <;> rfl
/-- A deed, done once more or not. -/
def doesC (l : M) (d : Dd) : M :=
  if d.kind = 1 then (if kind l d.path = 1 then (removeC l d.path).2 else l)
  else if d.kind = 2 then (if kind l d.path = 2 then (removeC l d.path).2 else l)
  else if d.kind = 3 then (if kind l d.path = 0 then (mkdirC l d.path).2 else l)
  else if d.kind = 4 then (writeC l d.path d.data).2 else l
/-- Can it be done, as far as what is there says? -/
def canC (l : M) (d : Dd) : Bool :=
  if d.kind = 1 then decide (kind l d.path = 1) else if d.kind = 2 then decide (kind l d.path = 2) && (names l d.path).isEmpty
  else if d.kind = 3 then decide (kind l d.path = 0) else decide (kind l d.path ≠ 2)
/-- What stands at its path behind it. -/
def stands (l : M) (d : Dd) : Prop := (d.kind = 3 → kind l d.path = 2) ∧ (d.kind = 4 → kind l d.path = 1)
/-- What a deed that was done leaves at its path, whatever deeds of the plan come behind. -/
def after (d : Dd) (l : M) : Prop :=
  (d.kind = 1 → SM.look l d.path = none ∨ SM.look l d.path = some ⟨true, []⟩) ∧
  (d.kind = 2 → SM.look l d.path = none ∨ ∃ t, SM.look l d.path = some ⟨false, t⟩) ∧
  (d.kind = 3 → SM.look l d.path = some ⟨true, []⟩) ∧ (d.kind = 4 → SM.look l d.path = some ⟨false, d.data⟩)
theorem put_same {l : M} (h : SM.Rises l) {p : List UInt8} {t : T} (hl : SM.look l p = some t) : SM.put l p t = l := by
  refine SM.ext (SM.rises_put h _ _) h fun q => ?_
  rw [SM.look_put]
  by_cases e : q = p
  · rw [if_pos e, e, hl]
  · rw [if_neg e]
theorem kind_file {l : M} {p : List UInt8} (hp : pathOk p = true) (h : kind l p = 1) : ∃ t, SM.look l p = some ⟨false, t⟩ := by
  rw [kind_at hp] at h
  cases hl : SM.look l p with
  | none => rw [hl] at h; exact absurd h (by decide)
  | some t =>
    obtain ⟨d, x⟩ := t
    rw [hl] at h
    cases d
    · exact ⟨x, rfl⟩
    · exact absurd h (by simp)
theorem home_in {l : M} (h : Hung l) {p : List UInt8} {t : T} (hl : SM.look l p = some t) : homeE l p = 0 := by
  unfold homeE
  rw [kind_dir (h.housed p t hl)]
  rfl
/-- It is not done twice. -/
theorem does_again {l : M} (h : Hung l) {d : Dd} (hp : pathOk d.path = true) (ha : after d l) : doesC l d = l := by
  obtain ⟨a1, a2, a3, a4⟩ := ha
  unfold doesC
  by_cases k1 : d.kind = 1
  · rw [if_pos k1, if_neg]
    rw [kind_at hp]
    rcases a1 k1 with e | e <;> rw [e] <;> decide
  rw [if_neg k1]
  by_cases k2 : d.kind = 2
  · rw [if_pos k2, if_neg]
    rw [kind_at hp]
    rcases a2 k2 with e | ⟨t, e⟩ <;> rw [e] <;> simp
  rw [if_neg k2]
  by_cases k3 : d.kind = 3
  · rw [if_pos k3, if_neg]
    rw [kind_at hp, a3 k3]
    decide
  rw [if_neg k3]
  by_cases k4 : d.kind = 4
  · rw [if_pos k4]
    unfold writeC
    have hk : kind l d.path = 1 := by rw [kind_at hp, a4 k4]; rfl
    rw [if_neg (by simp [hp]), if_neg (by rw [home_in h (a4 k4)]; decide), if_neg (by rw [hk]; decide)]
    exact put_same h.rises (a4 k4)
  · rw [if_neg k4]
theorem no_names {l : M} {p : List UInt8} (h : (names l p).isEmpty = true) : (l.any fun x => parent x.1 == p) = false := by
  unfold names at h
  rw [List.isEmpty_iff, List.map_eq_nil_iff, List.filter_eq_nil_iff] at h
  rw [Bool.eq_false_iff]
  intro hh
  obtain ⟨x, hx, e⟩ := List.any_eq_true.1 hh
  exact h x hx e
theorem no_child {l : M} (h : Hung l) {p : List UInt8} {t : List UInt8} (hp : pathOk p = true) (hl : SM.look l p = some ⟨false, t⟩) : (l.any fun x => parent x.1 == p) = false := by
  rw [Bool.eq_false_iff]
  intro hh
  obtain ⟨x, hx, e⟩ := List.any_eq_true.1 hh
  have e := beq_iff_eq.1 e
  rcases h.housed x.1 x.2 (SM.look_mem h.rises hx) with h1 | h1
  · rw [e] at h1; exact not_root hp h1
  · rw [e, hl] at h1; exact absurd h1 (by simp)
theorem look_remove {l : M} {p : List UInt8} (hp : pathOk p = true) (hk : kind l p ≠ 0) (hc : (l.any fun x => parent x.1 == p) = false) : (removeC l p).2 = SM.del l p := by
  unfold removeC
  rw [if_neg (by simp [hp]), if_neg hk, if_neg (by rw [hc]; simp)]
theorem hung_does {l : M} (h : Hung l) (d : Dd) : Hung (doesC l d) := by
  unfold doesC
  repeat' split
  all_goals first | exact h | exact hung_removeC h _ | exact hung_mkdirC h _ | exact hung_writeC h _ _
/-- Other paths are as they were. -/
theorem does_other {l : M} (d : Dd) {q : List UInt8} (hq : q ≠ d.path) : SM.look (doesC l d) q = SM.look l q := by
  have hput : ∀ t, SM.look (SM.put l d.path t) q = SM.look l q := fun t => by rw [SM.look_put, if_neg hq]
  have hdel : SM.look (SM.del l d.path) q = SM.look l q := by rw [SM.look_del, if_neg hq]
  unfold doesC removeC mkdirC writeC
  repeat' split
  all_goals first | rfl | exact hput _ | exact hdel
/-- What can be done is done. -/
theorem does_done {l : M} (h : Hung l) {d : Dd} (hp : pathOk d.path = true) (hc : canC l d = true) (hs : stands (doesC l d) d) : after d (doesC l d) := by
  by_cases k1 : d.kind = 1
  · have hk : kind l d.path = 1 := by unfold canC at hc; rw [if_pos k1] at hc; exact of_decide_eq_true hc
    obtain ⟨t, ht⟩ := kind_file hp hk
    have e : doesC l d = SM.del l d.path := by unfold doesC; rw [if_pos k1, if_pos hk]; exact look_remove hp (by rw [hk]; decide) (no_child h hp ht)
    rw [e]
    refine ⟨fun _ => Or.inl (by rw [SM.look_del, if_pos rfl]), fun k => by omega, fun k => by omega, fun k => by omega⟩
  by_cases k2 : d.kind = 2
  · have hk : kind l d.path = 2 ∧ (names l d.path).isEmpty = true := by
      unfold canC at hc
      rw [if_neg k1, if_pos k2, Bool.and_eq_true] at hc
      exact ⟨of_decide_eq_true hc.1, hc.2⟩
    have e : doesC l d = SM.del l d.path := by unfold doesC; rw [if_neg k1, if_pos k2, if_pos hk.1]; exact look_remove hp (by rw [hk.1]; decide) (no_names hk.2)
    rw [e]
    refine ⟨fun k => by omega, fun _ => Or.inl (by rw [SM.look_del, if_pos rfl]), fun k => by omega, fun k => by omega⟩
  by_cases k3 : d.kind = 3
  · have h2 := hs.1 k3
    rcases kind_two h2 with hr | ⟨t, ht, hd⟩
    · exact absurd hr (not_root hp)
    · refine ⟨fun k => by omega, fun k => by omega, fun _ => by rw [ht, (hung_does h d).dirs _ _ ht hd], fun k => by omega⟩
  by_cases k4 : d.kind = 4
  · have h1 := hs.2 k4
    have hk : kind l d.path ≠ 2 := by unfold canC at hc; rw [if_neg k1, if_neg k2, if_neg k3] at hc; exact of_decide_eq_true hc
    have e0 : doesC l d = (writeC l d.path d.data).2 := by unfold doesC; rw [if_neg k1, if_neg k2, if_neg k3, if_pos k4]
    have hh : homeE l d.path = 0 := by
      refine Decidable.byContradiction fun hh => ?_
      have e : doesC l d = l := by rw [e0]; unfold writeC; rw [if_neg (by simp [hp]), if_pos hh]
      rw [e] at h1
      obtain ⟨t, ht⟩ := kind_file hp h1
      exact hh (home_in h ht)
    have e : doesC l d = SM.put l d.path ⟨false, d.data⟩ := by rw [e0]; unfold writeC; rw [if_neg (by simp [hp]), if_neg (by rw [hh]; decide), if_neg hk]
    rw [e]
    refine ⟨fun k => by omega, fun k => by omega, fun k => by omega, fun _ => by rw [SM.look_put, if_pos rfl]⟩
  · exact ⟨fun k => absurd k k1, fun k => absurd k k2, fun k => absurd k k3, fun k => absurd k k4⟩
/-- May the second one have the path of the first? -/
def twin (a b : Int) : Prop := (a = 1 ∧ b = 3) ∨ (a = 2 ∧ b = 4)
theorem after_next {l : M} {d x : Dd} (ha : after d l) (hx : x.path = d.path → twin d.kind x.kind ∧ after x (doesC l x)) : after d (doesC l x) := by
  by_cases hp : d.path = x.path
  · obtain ⟨ht, _, _, b3, b4⟩ := hx hp.symm
    rw [← hp] at b3 b4
    rcases ht with ⟨e1, e2⟩ | ⟨e1, e2⟩
    · exact ⟨fun _ => Or.inr (b3 e2), fun k => by omega, fun k => by omega, fun k => by omega⟩
    · exact ⟨fun k => by omega, fun _ => Or.inr ⟨_, b4 e2⟩, fun k => by omega, fun k => by omega⟩
  · unfold after
    rw [does_other x hp]
    exact ha
def runC (l : M) (ds : List Dd) : M := ds.foldl doesC l
theorem runC_next {l : M} {ds : List Dd} {i : Nat} {d : Dd} (h : ds[i]? = some d) : runC l (ds.take (i + 1)) = doesC (runC l (ds.take i)) d := by
  unfold runC
  rw [List.take_add_one, h, List.foldl_append]
  rfl
theorem hung_run {l : M} (h : Hung l) : ∀ (ds : List Dd), Hung (runC l ds) := fun ds => by
  unfold runC
  induction ds generalizing l with
  | nil => exact h
  | cons d r ih => exact ih (hung_does h d)
/-- A plan, as far as the paths of its deeds go. -/
def paired (ds : List Dd) : Prop := (∀ d ∈ ds, pathOk d.path = true) ∧ ∀ (i j : Nat) (a b : Dd), i < j → ds[i]? = some a → ds[j]? = some b → b.path = a.path → twin a.kind b.kind
/-- All of its deeds can be done, one behind the other. -/
def canAll (l : M) (ds : List Dd) : Prop := ∀ (i : Nat) (d : Dd), ds[i]? = some d → canC (runC l (ds.take i)) d = true ∧ stands (runC l (ds.take (i + 1))) d
theorem again {l : M} (h : Hung l) {ds : List Dd} (hp : paired ds) (hc : canAll l ds) (f : Nat) : runC (runC l (ds.take f)) ds = runC l ds := by
  have hdone : ∀ (i : Nat) (d : Dd), ds[i]? = some d → after d (doesC (runC l (ds.take i)) d) := fun i d hd => by
    have h1 := hc i d hd
    rw [runC_next hd] at h1
    exact does_done (hung_run h _) (hp.1 d (List.mem_of_getElem? hd)) h1.1 h1.2
  have hstay : ∀ (n i : Nat) (d : Dd), ds[i]? = some d → after d (runC l (ds.take (i + 1 + n))) := fun n => by
    induction n with
    | zero => intro i d hd; rw [Nat.add_zero, runC_next hd]; exact hdone i d hd
    | succ n ih =>
      intro i d hd
      have h1 := ih i d hd
      cases hx : ds[i + 1 + n]? with
      | none =>
        have hlen : ds.length ≤ i + 1 + n := List.getElem?_eq_none_iff.1 hx
        rw [List.take_of_length_le (by omega)] at h1 ⊢
        exact h1
      | some x =>
        rw [show i + 1 + (n + 1) = i + 1 + n + 1 from rfl, runC_next hx]
        exact after_next h1 fun e => ⟨hp.2 i (i + 1 + n) d x (by omega) hd hx e, hdone _ _ hx⟩
  have hno : ∀ k, k ≤ f → runC (runC l (ds.take f)) (ds.take k) = runC l (ds.take f) := fun k => by
    induction k with
    | zero => intro _; rfl
    | succ k ih =>
      intro hk
      cases hx : ds[k]? with
      | none =>
        have hlen : ds.length ≤ k := List.getElem?_eq_none_iff.1 hx
        have := ih (by omega)
        rw [List.take_of_length_le hlen] at this
        rw [List.take_of_length_le (show ds.length ≤ k + 1 by omega)]
        exact this
      | some x =>
        rw [runC_next hx, ih (by omega)]
        have h1 := hstay (f - (k + 1)) k x hx
        rw [show k + 1 + (f - (k + 1)) = f by omega] at h1
        exact does_again (hung_run h _) (hp.1 x (List.mem_of_getElem? hx)) h1
  have e : ds = ds.take f ++ ds.drop f := (List.take_append_drop f ds).symm
  have app : ∀ (m : M) (a b : List Dd), runC m (a ++ b) = runC (runC m a) b := fun m a b => by unfold runC; exact List.foldl_append
  calc runC (runC l (ds.take f)) ds = runC (runC l (ds.take f)) (ds.take f ++ ds.drop f) := by rw [← e]
    _ = runC (runC (runC l (ds.take f)) (ds.take f)) (ds.drop f) := app _ _ _
    _ = runC (runC l (ds.take f)) (ds.drop f) := by rw [hno f (Nat.le_refl _)]
    _ = runC l (ds.take f ++ ds.drop f) := (app _ _ _).symm
    _ = runC l ds := by rw [← e]
end Disk
end Go.Proofs.YtdogacgpfnolfaaGreatDoor
