/- Deeds are a plan: step by step, and by looking back at all that stand ahead. Plain words. -/
import Derived.Test.YtnbjdfiembbmmaaDoorPlanPrint
namespace Go.Proofs.YtnbjdfiembbmmaaDoor
set_option linter.unusedSimpArgs false
set_option linter.unusedVariables false
namespace Plan
/-- What stands noted behind deeds. -/
def run (least : Int) (s : List UInt8 → Int) : List D → Int × (List UInt8 → Int)
  | [] => (least, s)
  | d :: r => run d.kind (upd s d.path (note (s d.path) d.kind)) r
theorem chk_append : ∀ (a b : List D) (least : Int) (s : List UInt8 → Int), chk least s (a ++ b) = (chk least s a && chk (run least s a).1 (run least s a).2 b)
  | [], b, least, s => by simp [chk, run]
  | d :: r, b, least, s => by
    have ih := chk_append r b d.kind (upd s d.path (note (s d.path) d.kind))
    simp only [List.cons_append, chk, run, ih, Bool.and_assoc]
theorem run_append : ∀ (a b : List D) (least : Int) (s : List UInt8 → Int), run least s (a ++ b) = run (run least s a).1 (run least s a).2 b
  | [], b, least, s => rfl
  | d :: r, b, least, s => run_append r b _ _
/-- The deeds ahead that have a path. -/
def met (pre : List D) (q : List UInt8) : List D := pre.filter fun x => decide (x.path = q)
/-- What is noted at a path, by looking back. -/
def st (pre : List D) (q : List UInt8) : Int := match met pre q with
  | [] => 0
  | [x] => x.kind
  | _ => -1
def lastKind (pre : List D) : Int := match pre.getLast? with
  | none => 1
  | some x => x.kind
theorem met_snoc (pre : List D) (d : D) (q : List UInt8) : met (pre ++ [d]) q = if d.path = q then met pre q ++ [d] else met pre q := by
  unfold met
  rw [List.filter_append]
  by_cases h : d.path = q
  · simp [h]
  · simp [h]
theorem run_state (pre : List D) (hk : ∀ d ∈ pre, 1 ≤ d.kind) : (run 1 (fun _ => 0) pre).1 = lastKind pre ∧ ∀ q, (run 1 (fun _ => 0) pre).2 q = st pre q := by
  obtain ⟨n, hn⟩ : ∃ n, pre.length = n := ⟨_, rfl⟩
  induction n generalizing pre with
  | zero =>
    obtain rfl := List.length_eq_zero_iff.1 hn
    exact ⟨rfl, fun q => rfl⟩
  | succ n ih =>
    rcases List.eq_nil_or_concat pre with rfl | ⟨pre, d, rfl⟩
    · simp at hn
    rw [List.concat_eq_append] at hk hn ⊢
    obtain ⟨h1, h2⟩ := ih pre (fun x hx => hk x (List.mem_append_left _ hx)) (by simpa using hn)
    rw [run_append]
    refine ⟨by simp [run, lastKind], fun q => ?_⟩
    show upd _ d.path (note _ d.kind) q = _
    have hd := hk d (List.mem_append_right _ (List.mem_singleton.2 rfl))
    unfold upd st
    rw [met_snoc, h2 d.path]
    by_cases hq : q = d.path
    · subst hq
      rw [if_pos rfl, if_pos rfl]
      unfold st note
      cases hm : met pre d.path with
      | nil => simp
      | cons x r =>
        have hx : 1 ≤ x.kind := hk x (List.mem_append_left _ ((List.mem_filter.1 (show x ∈ List.filter _ _ by unfold met at hm; rw [hm]; exact List.mem_cons_self)).1))
        cases r with
        | nil => simp; omega
        | cons y r => simp
    · rw [if_neg hq, if_neg (fun e => hq e.symm), h2 q]
      rfl
def pairB (a b : Int) : Bool := (a == 1 && b == 3) || (a == 2 && b == 4)
/-- May a deed be behind others, by looking back? -/
def stepOk (pre : List D) (d : D) : Bool := okD (lastKind pre) d && (decide ((met pre d.path).length ≤ 1) && (met pre d.path).all fun x => pairB x.kind d.kind)
theorem fits_met {pre : List D} {d : D} (hk : ∀ x ∈ pre, 1 ≤ x.kind) : fits (st pre d.path) d.kind = (decide ((met pre d.path).length ≤ 1) && (met pre d.path).all fun x => pairB x.kind d.kind) := by
  unfold st
  cases hm : met pre d.path with
  | nil => rfl
  | cons x r =>
    have hx : 1 ≤ x.kind := hk x ((List.mem_filter.1 (show x ∈ List.filter _ _ by unfold met at hm; rw [hm]; exact List.mem_cons_self)).1)
    cases r with
    | nil =>
      simp only [fits, pairB, List.length_cons, List.length_nil, List.all_cons, List.all_nil, Bool.and_true]
      rw [decide_eq_false (show ¬ x.kind = 0 by omega)]
      by_cases h1 : x.kind = 1 <;> by_cases h2 : x.kind = 2 <;> by_cases h3 : d.kind = 3 <;> by_cases h4 : d.kind = 4 <;> simp [h1, h2, h3, h4]
    | cons y r => simp [fits]
/-- One deed further. -/
theorem ok_step {pre : List D} {d : D} (h : ok pre = true) : ok (pre ++ [d]) = stepOk pre d := by
  have hk : ∀ x ∈ pre, 1 ≤ x.kind := fun x hx => (ok_all h x hx).1
  obtain ⟨h1, h2⟩ := run_state pre hk
  unfold ok at h ⊢
  rw [chk_append, h, Bool.true_and]
  simp only [chk, Bool.and_true]
  rw [h1, h2, fits_met hk]
  rfl
theorem ok_ahead {a b : List D} (h : ok (a ++ b) = true) : ok a = true := by
  unfold ok at h ⊢
  rw [chk_append] at h
  simp only [Bool.and_eq_true] at h
  exact h.1
/-- A deed that may not be: no plan. -/
theorem ok_bad {ds : List D} {i : Nat} {d : D} (hd : ds[i]? = some d) (h : ok (ds.take i) = true) (hs : stepOk (ds.take i) d = false) : ok ds = false := by
  have e : ds = (ds.take i ++ [d]) ++ ds.drop (i + 1) := by
    have h1 := List.getElem?_eq_some_iff.1 hd
    rw [List.append_assoc]
    have := (List.take_append_drop i ds).symm
    rw [List.drop_eq_getElem_cons h1.1, h1.2] at this
    exact this
  cases hh : ok ds with
  | false => rfl
  | true =>
    rw [e] at hh
    have := ok_ahead hh
    rw [ok_step h, hs] at this
    exact absurd this (by simp)
theorem ok_more {ds : List D} {i : Nat} {d : D} (hd : ds[i]? = some d) (h : ok (ds.take i) = true) (hs : stepOk (ds.take i) d = true) : ok (ds.take (i + 1)) = true := by
  rw [List.take_add_one, hd]
  show ok (ds.take i ++ [d]) = true
  rw [ok_step h, hs]
theorem lastKind_take {ds : List D} {i : Nat} {x : D} (hx : ds[i]? = some x) : lastKind (ds.take (i + 1)) = x.kind := by
  unfold lastKind
  rw [List.take_add_one, hx]
  simp
theorem met_next {ds : List D} {k : Nat} {x : D} (hx : ds[k]? = some x) (q : List UInt8) : met (ds.take (k + 1)) q = if x.path = q then met (ds.take k) q ++ [x] else met (ds.take k) q := by
  rw [List.take_add_one, hx]
  exact met_snoc _ _ _
theorem met_part {ds : List D} {k i : Nat} (h : k ≤ i) (q : List UInt8) : ∃ r, met (ds.take i) q = met (ds.take k) q ++ r := by
  have e : ds.take i = ds.take k ++ (ds.take i).drop k := by
    have := (List.take_append_drop k (ds.take i)).symm
    rw [List.take_take, Nat.min_eq_left h] at this
    exact this
  rw [e]
  unfold met
  rw [List.filter_append]
  exact ⟨_, rfl⟩
theorem met_le (pre : List D) (q : List UInt8) : (met pre q).length ≤ pre.length := List.length_filter_le _ _
theorem step_no {pre : List D} {d : D} (h : okD (lastKind pre) d = false) : stepOk pre d = false := by unfold stepOk; rw [h]; rfl
theorem step_pair {pre : List D} {d x : D} (hx : x ∈ met pre d.path) (h : pairB x.kind d.kind = false) : stepOk pre d = false := by
  unfold stepOk
  have : ((met pre d.path).all fun x => pairB x.kind d.kind) = false := by
    rw [List.all_eq_false]; exact ⟨x, hx, by simp [h]⟩
  rw [this]; simp
theorem step_many {pre : List D} {d : D} (h : ¬ (met pre d.path).length ≤ 1) : stepOk pre d = false := by
  unfold stepOk
  rw [decide_eq_false h]; simp
end Plan
end Go.Proofs.YtnbjdfiembbmmaaDoor
