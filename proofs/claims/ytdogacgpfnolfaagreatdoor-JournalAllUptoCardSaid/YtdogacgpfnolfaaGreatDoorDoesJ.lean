/- The deeds, done one by one, come to the other set: in plain words. No program stands here. -/
import Derived.Test.YtdogacgpfnolfaaGreatDoorDkD
import Derived.Test.YtdogacgpfnolfaaGreatDoorHung
import Derived.Test.YtdogacgpfnolfaaGreatDoorPAgainL
namespace Go.Proofs.YtdogacgpfnolfaaGreatDoor
set_option linter.unusedSimpArgs false
set_option linter.unusedVariables false
namespace Disk
theorem read_load {fs : List Fl} {l : M} (h : read fs = some l) : load fs = some l := by
  unfold read at h
  split at h
  · exact absurd h (by simp)
  · rename_i m hm
    split at h
    · exact absurd h (by simp)
    · cases h; exact hm
theorem ok_root {p : List UInt8} (h : pathOk p = true) : p ≠ [47] := by
  rintro rfl
  revert h
  decide +kernel
theorem before_take : ∀ (q : List UInt8) (j : Nat), j < q.length → bytesBefore (q.take j) q = true
  | [], j, h => by simp at h
  | c :: r, 0, _ => rfl
  | c :: r, j + 1, h => by
    rw [List.take_succ_cons, bytesBefore, before_take r j (by simpa using h)]
    simp
theorem parTo_take (q : List UInt8) : ∀ k, k ≤ q.length → parTo q k = [47] ∨ ∃ j, j < q.length ∧ parTo q k = q.take j
  | 0, _ => Or.inl rfl
  | k + 1, h => by
    unfold parTo
    split
    · exact Or.inr ⟨k, by omega, rfl⟩
    · exact parTo_take q k (by omega)
theorem parent_before {q : List UInt8} (h : parent q ≠ [47]) : bytesBefore (parent q) q = true := by
  rcases parTo_take q q.length (Nat.le_refl _) with h1 | ⟨j, hj, e⟩
  · exact absurd h1 h
  · show bytesBefore (parTo q q.length) q = true
    rw [e]; exact before_take q j hj
/-- One deed on a disk. -/
def doD (l : M) (d : Dd) : Option M :=
  if d.kind = 1 then (if kind l d.path = 1 ∧ (removeC l d.path).1 = 0 then some (removeC l d.path).2 else none)
  else if d.kind = 2 then (if kind l d.path = 2 ∧ (removeC l d.path).1 = 0 then some (removeC l d.path).2 else none)
  else if d.kind = 3 then (if (mkdirC l d.path).1 = 0 then some (mkdirC l d.path).2 else none)
  else if d.kind = 4 then (if (writeC l d.path d.data).1 = 0 then some (writeC l d.path d.data).2 else none) else none
def doAll : M → List Dd → Option M
  | l, [] => some l
  | l, d :: r => (doD l d).bind fun m => doAll m r
theorem doAll_append : ∀ (xs ys : List Dd) (l : M), doAll l (xs ++ ys) = (doAll l xs).bind fun m => doAll m ys
  | [], ys, l => rfl
  | d :: r, ys, l => by
    rw [List.cons_append, doAll, doAll]
    cases h : doD l d with
    | none => rfl
    | some m => exact doAll_append r ys m
def dels (l : M) (ps : List (List UInt8)) : M := ps.foldl SM.del l
def puts (l : M) (xs : List (List UInt8 × T)) : M := xs.foldl (fun l x => SM.put l x.1 x.2) l
theorem look_dels : ∀ (ps : List (List UInt8)) (l : M) (q : List UInt8), SM.look (dels l ps) q = if q ∈ ps then none else SM.look l q
  | [], l, q => by simp [dels]
  | p :: r, l, q => by
    show SM.look (dels (SM.del l p) r) q = _
    rw [look_dels r, SM.look_del]
    by_cases h1 : q ∈ r
    · rw [if_pos h1, if_pos (List.mem_cons_of_mem _ h1)]
    · rw [if_neg h1]
      by_cases h2 : q = p
      · rw [if_pos h2, if_pos (by rw [h2]; exact List.mem_cons_self)]
      · rw [if_neg h2, if_neg (by simp [h1, h2])]
theorem look_puts_other : ∀ (xs : List (List UInt8 × T)) (l : M) (q : List UInt8), (∀ x ∈ xs, x.1 ≠ q) → SM.look (puts l xs) q = SM.look l q
  | [], l, q, _ => rfl
  | x :: r, l, q, h => by
    show SM.look (puts (SM.put l x.1 x.2) r) q = _
    rw [look_puts_other r _ q (fun y hy => h y (List.mem_cons_of_mem _ hy)), SM.look_put, if_neg (fun e => h x List.mem_cons_self e.symm)]
theorem look_puts_at : ∀ (xs : List (List UInt8 × T)) (l : M), SM.Rises xs → ∀ x ∈ xs, SM.look (puts l xs) x.1 = some x.2
  | [], l, _, x, hx => by simp at hx
  | y :: r, l, hr, x, hx => by
    have h1 := List.pairwise_cons.1 hr
    show SM.look (puts (SM.put l y.1 y.2) r) x.1 = _
    rcases List.mem_cons.1 hx with rfl | hx
    · rw [look_puts_other r _ _ (fun z hz e => SM.before_ne (h1.1 z hz) e.symm), SM.look_put, if_pos rfl]
    · exact look_puts_at r _ h1.2 x hx
theorem rises_dels : ∀ (ps : List (List UInt8)) {l : M}, SM.Rises l → SM.Rises (dels l ps)
  | [], l, h => h
  | p :: r, l, h => rises_dels r (SM.rises_del h p)
theorem rises_puts : ∀ (xs : List (List UInt8 × T)) {l : M}, SM.Rises l → SM.Rises (puts l xs)
  | [], l, h => h
  | x :: r, l, h => rises_puts r (SM.rises_put h x.1 x.2)
theorem kind_some {l : M} {p : List UInt8} {t : T} (h : SM.look l p = some t) (hp : pathOk p = true) : kind l p = if t.dir then 2 else 1 := by
  unfold kind
  rw [if_neg (ok_root hp), h]
theorem removeC_yes {l : M} {p : List UInt8} {t : T} (hp : pathOk p = true) (h : SM.look l p = some t) (hno : ∀ y ∈ l, parent y.1 ≠ p) : removeC l p = (0, SM.del l p) := by
  unfold removeC
  rw [hp, if_neg (by simp), if_neg, if_neg]
  · intro hh
    obtain ⟨y, hy, e⟩ := List.any_eq_true.1 hh
    exact hno y hy (beq_iff_eq.1 e)
  · rw [kind_some h hp]; split <;> decide
/-- Taken away: files or directories, from the greatest on; what lies in one goes ahead of it. -/
theorem do_dels (f : List UInt8 × T → Dd) (k : Int) (dir : Bool) (hk : (k = 1 ∧ dir = false) ∨ (k = 2 ∧ dir = true)) (hf : ∀ x, (f x).kind = k ∧ (f x).path = x.1) : ∀ (xs : List (List UInt8 × T)) (l : M), xs.Pairwise (fun x y => bytesBefore y.1 x.1 = true) →
    (∀ x ∈ xs, SM.look l x.1 = some x.2 ∧ x.2.dir = dir ∧ pathOk x.1 = true) → (∀ x ∈ xs, ∀ y ∈ l, parent y.1 = x.1 → (∃ z ∈ xs, z.1 = y.1) ∧ bytesBefore x.1 y.1 = true) →
    doAll l (xs.map f) = some (dels l (xs.map (·.1)))
  | [], l, _, _, _ => rfl
  | x :: r, l, hp, h1, h2 => by
    have hpc := List.pairwise_cons.1 hp
    obtain ⟨a1, a2, a3⟩ := h1 x List.mem_cons_self
    have hno : ∀ y ∈ l, parent y.1 ≠ x.1 := fun y hy e => by
      obtain ⟨⟨z, hz, ez⟩, hb⟩ := h2 x List.mem_cons_self y hy e
      rcases List.mem_cons.1 hz with rfl | hz
      · rw [← ez, WideAt.bytes_irrefl] at hb; exact absurd hb (by simp)
      · have := hpc.1 z hz
        rw [ez] at this
        rw [SM.before_asymm hb] at this
        exact absurd this (by simp)
    have hrm := removeC_yes a3 a1 hno
    have hkd := kind_some a1 a3
    rw [a2] at hkd
    have hd : doD l (f x) = some (SM.del l x.1) := by
      unfold doD
      rw [(hf x).1, (hf x).2, hrm]
      rcases hk with ⟨rfl, rfl⟩ | ⟨rfl, rfl⟩
      · rw [if_pos rfl, if_pos ⟨hkd, rfl⟩]
      · rw [if_neg (by decide), if_pos rfl, if_pos ⟨hkd, rfl⟩]
    rw [List.map_cons, doAll, hd]
    refine do_dels f k dir hk hf r (SM.del l x.1) hpc.2 (fun y hy => ?_) (fun y hy z hz e => ?_)
    · obtain ⟨b1, b2, b3⟩ := h1 y (List.mem_cons_of_mem _ hy)
      refine ⟨?_, b2, b3⟩
      rw [SM.look_del, if_neg (SM.before_ne (hpc.1 y hy))]
      exact b1
    · have hz' := List.mem_filter.1 hz
      obtain ⟨⟨u, hu, eu⟩, hb⟩ := h2 y (List.mem_cons_of_mem _ hy) z hz'.1 e
      refine ⟨⟨u, ?_, eu⟩, hb⟩
      rcases List.mem_cons.1 hu with rfl | hu
      · rw [← eu] at hz'; simp at hz'
      · exact hu
theorem kind_none {l : M} {p : List UInt8} (h : SM.look l p = none) (hp : pathOk p = true) : kind l p = 0 := by unfold kind; rw [if_neg (ok_root hp), h]
theorem home_ok {l : M} {p : List UInt8} (h : kind l (parent p) = 2) : homeE l p = 0 := by unfold homeE; rw [h]; rfl
/-- Directories are made, from the least on. -/
theorem do_mkdirs : ∀ (xs : List (List UInt8 × T)) (l : M), SM.Rises xs → (∀ x ∈ xs, SM.look l x.1 = none ∧ x.2 = ⟨true, []⟩ ∧ pathOk x.1 = true) →
    (∀ x ∈ xs, parent x.1 = [47] ∨ SM.look l (parent x.1) = some ⟨true, []⟩ ∨ ((∃ z ∈ xs, z.1 = parent x.1) ∧ bytesBefore (parent x.1) x.1 = true)) → doAll l (xs.map mkd) = some (puts l xs)
  | [], l, _, _, _ => rfl
  | x :: r, l, hp, h1, h2 => by
    have hpc := List.pairwise_cons.1 hp
    obtain ⟨a1, a2, a3⟩ := h1 x List.mem_cons_self
    have hpar : parent x.1 = [47] ∨ SM.look l (parent x.1) = some ⟨true, []⟩ := by
      rcases h2 x List.mem_cons_self with h | h | ⟨⟨z, hz, ez⟩, hb⟩
      · exact Or.inl h
      · exact Or.inr h
      · exfalso
        rw [← ez] at hb
        rcases List.mem_cons.1 hz with rfl | hz
        · rw [WideAt.bytes_irrefl] at hb; exact absurd hb (by simp)
        · rw [SM.before_asymm (hpc.1 z hz)] at hb; exact absurd hb (by simp)
    have hm : mkdirC l x.1 = (0, SM.put l x.1 ⟨true, []⟩) := by
      unfold mkdirC
      rw [a3, if_neg (by simp), if_neg (by rw [home_ok (kind_dir hpar)]; simp), if_neg (by rw [kind_none a1 a3]; simp)]
    have hd : doD l (mkd x) = some (SM.put l x.1 ⟨true, []⟩) := by
      unfold doD mkd
      dsimp only
      rw [hm, if_neg (by decide), if_neg (by decide), if_pos rfl, if_pos rfl]
    rw [List.map_cons, doAll, hd]
    show doAll (SM.put l x.1 ⟨true, []⟩) (r.map mkd) = some (puts (SM.put l x.1 x.2) r)
    rw [a2]
    refine do_mkdirs r _ hpc.2 (fun y hy => ?_) (fun y hy => ?_)
    · obtain ⟨b1, b2, b3⟩ := h1 y (List.mem_cons_of_mem _ hy)
      refine ⟨?_, b2, b3⟩
      rw [SM.look_put, if_neg (fun e => SM.before_ne (hpc.1 y hy) e.symm)]
      exact b1
    · rw [SM.look_put]
      by_cases he : parent y.1 = x.1
      · rw [if_pos he]; exact Or.inr (Or.inl rfl)
      · rw [if_neg he]
        rcases h2 y (List.mem_cons_of_mem _ hy) with h | h | ⟨⟨z, hz, ez⟩, hb⟩
        · exact Or.inl h
        · exact Or.inr (Or.inl h)
        · refine Or.inr (Or.inr ⟨⟨z, ?_, ez⟩, hb⟩)
          rcases List.mem_cons.1 hz with rfl | hz
          · exact absurd ez.symm he
          · exact hz
/-- Files are written. -/
theorem do_puts : ∀ (xs : List (List UInt8 × T)) (l : M), SM.Rises xs → (∀ x ∈ xs, (∀ t, SM.look l x.1 = some t → t.dir = false) ∧ x.2.dir = false ∧ pathOk x.1 = true) →
    (∀ x ∈ xs, parent x.1 = [47] ∨ SM.look l (parent x.1) = some ⟨true, []⟩) → doAll l (xs.map putd) = some (puts l xs)
  | [], l, _, _, _ => rfl
  | x :: r, l, hp, h1, h2 => by
    have hpc := List.pairwise_cons.1 hp
    obtain ⟨a1, a2, a3⟩ := h1 x List.mem_cons_self
    have hx : (⟨false, x.2.data⟩ : T) = x.2 := by rw [← a2]
    have hw : writeC l x.1 x.2.data = (0, SM.put l x.1 x.2) := by
      unfold writeC
      rw [a3, if_neg (by simp), if_neg (by rw [home_ok (kind_dir (h2 x List.mem_cons_self))]; simp), if_neg, hx]
      intro hk
      rcases kind_two hk with h | ⟨t, ht, hd⟩
      · exact ok_root a3 h
      · rw [a1 t ht] at hd; exact absurd hd (by simp)
    have hd : doD l (putd x) = some (SM.put l x.1 x.2) := by
      unfold doD putd
      dsimp only
      rw [hw, if_neg (by decide), if_neg (by decide), if_neg (by decide), if_pos rfl, if_pos rfl]
    rw [List.map_cons, doAll, hd]
    refine do_puts r _ hpc.2 (fun y hy => ?_) (fun y hy => ?_)
    · obtain ⟨b1, b2, b3⟩ := h1 y (List.mem_cons_of_mem _ hy)
      refine ⟨fun t ht => ?_, b2, b3⟩
      rw [SM.look_put, if_neg (fun e => SM.before_ne (hpc.1 y hy) e.symm)] at ht
      exact b1 t ht
    · rcases h2 y (List.mem_cons_of_mem _ hy) with h | h
      · exact Or.inl h
      · refine Or.inr ?_
        rw [SM.look_put, if_neg]
        · exact h
        · intro e
          rw [e] at h
          have := a1 _ h
          exact absurd this (by simp)
theorem filter_falls {l : M} (h : SM.Rises l) (c : List UInt8 × T → Bool) : ((l.filter c).reverse).Pairwise (fun x y => bytesBefore y.1 x.1 = true) := by
  rw [List.pairwise_reverse]
  exact List.Pairwise.filter _ h
theorem mem_fst {l : M} (h : SM.Rises l) {c : List UInt8 × T → Bool} {q : List UInt8} : q ∈ (l.filter c).map (·.1) ↔ ∃ t, SM.look l q = some t ∧ c (q, t) = true := by
  constructor
  · intro hq
    obtain ⟨x, hx, rfl⟩ := List.mem_map.1 hq
    have := List.mem_filter.1 hx
    exact ⟨x.2, SM.look_mem h this.1, this.2⟩
  · rintro ⟨t, ht, hc⟩
    exact List.mem_map.2 ⟨(q, t), List.mem_filter.2 ⟨SM.look_some ht, hc⟩, rfl⟩
theorem cls_val (b : M) (p : List UInt8) (t : T) : cls b (p, t) = if (∃ y, SM.look b p = some y ∧ y.dir = t.dir) then 0 else if t.dir then 2 else 1 := by
  unfold cls
  cases hl : SM.look b p with
  | none => simp
  | some y =>
    by_cases h : t.dir = y.dir
    · rw [if_pos (⟨y, rfl, h.symm⟩ : ∃ z, some y = some z ∧ z.dir = t.dir)]; dsimp only; rw [if_pos h]
    · rw [if_neg (show ¬ ∃ z, some y = some z ∧ z.dir = t.dir by rintro ⟨z, hz, e⟩; cases hz; exact h e.symm)]; dsimp only; rw [if_neg h]
theorem cls2_val (a : M) (p : List UInt8) (t : T) : cls2 a (p, t) = if SM.look a p = some t then 0 else if t.dir then 3 else 4 := by
  unfold cls2
  cases hl : SM.look a p with
  | none => simp
  | some y =>
    by_cases h : y = t
    · subst h; simp
    · dsimp only; rw [if_neg h, if_neg (show ¬ some y = some t by simpa using h)]
/-- Done one by one the deeds come to the other set. -/
theorem does {a b : M} (ha : Hung a) (hb : Hung b) : doAll a (delta a b) = some b := by
  classical
  obtain ⟨U, hU⟩ : ∃ U, U = a.filter fun x => cls b x == 1 := ⟨_, rfl⟩
  obtain ⟨R, hR⟩ : ∃ R, R = a.filter fun x => cls b x == 2 := ⟨_, rfl⟩
  obtain ⟨K, hK⟩ : ∃ K, K = b.filter fun x => cls2 a x == 3 := ⟨_, rfl⟩
  obtain ⟨P, hP⟩ : ∃ P, P = b.filter fun x => cls2 a x == 4 := ⟨_, rfl⟩
  have hdel : delta a b = U.reverse.map unl ++ (R.reverse.map rmd ++ (K.map mkd ++ P.map putd)) := by
    unfold delta pick
    rw [← hU, ← hR, ← hK, ← hP, List.map_reverse, List.map_reverse]
  have mU : ∀ {q t}, (q, t) ∈ U ↔ SM.look a q = some t ∧ cls b (q, t) = 1 := fun {q t} => by
    rw [hU, List.mem_filter]
    exact ⟨fun h => ⟨SM.look_mem ha.rises h.1, beq_iff_eq.1 h.2⟩, fun h => ⟨SM.look_some h.1, beq_iff_eq.2 h.2⟩⟩
  have mR : ∀ {q t}, (q, t) ∈ R ↔ SM.look a q = some t ∧ cls b (q, t) = 2 := fun {q t} => by
    rw [hR, List.mem_filter]
    exact ⟨fun h => ⟨SM.look_mem ha.rises h.1, beq_iff_eq.1 h.2⟩, fun h => ⟨SM.look_some h.1, beq_iff_eq.2 h.2⟩⟩
  have mK : ∀ {q t}, (q, t) ∈ K ↔ SM.look b q = some t ∧ cls2 a (q, t) = 3 := fun {q t} => by
    rw [hK, List.mem_filter]
    exact ⟨fun h => ⟨SM.look_mem hb.rises h.1, beq_iff_eq.1 h.2⟩, fun h => ⟨SM.look_some h.1, beq_iff_eq.2 h.2⟩⟩
  have mP : ∀ {q t}, (q, t) ∈ P ↔ SM.look b q = some t ∧ cls2 a (q, t) = 4 := fun {q t} => by
    rw [hP, List.mem_filter]
    exact ⟨fun h => ⟨SM.look_mem hb.rises h.1, beq_iff_eq.1 h.2⟩, fun h => ⟨SM.look_some h.1, beq_iff_eq.2 h.2⟩⟩
  have rK : SM.Rises K := by rw [hK]; exact List.Pairwise.filter _ hb.rises
  have rP : SM.Rises P := by rw [hP]; exact List.Pairwise.filter _ hb.rises
  have fU : U.reverse.Pairwise (fun x y => bytesBefore y.1 x.1 = true) := by rw [hU]; exact filter_falls ha.rises _
  have fR : R.reverse.Pairwise (fun x y => bytesBefore y.1 x.1 = true) := by rw [hR]; exact filter_falls ha.rises _
  have dirU : ∀ {q t}, (q, t) ∈ U → t.dir = false := fun {q t} h => by
    have := (mU.1 h).2
    rw [cls_val] at this
    split at this
    · exact absurd this (by decide)
    · cases hd : t.dir with
      | false => rfl
      | true => rw [hd] at this; exact absurd this (by decide)
  have dirR : ∀ {q t}, (q, t) ∈ R → t.dir = true ∧ ¬ ∃ y, SM.look b q = some y ∧ y.dir = true := fun {q t} h => by
    have := (mR.1 h).2
    rw [cls_val] at this
    split at this
    · exact absurd this (by decide)
    · rename_i hno
      cases hd : t.dir with
      | true => rw [hd] at hno; exact ⟨rfl, hno⟩
      | false => rw [hd] at this; exact absurd this (by decide)
  -- a path of a: what becomes of it behind both takings away
  obtain ⟨l1, hl1⟩ : ∃ l, l = dels a (U.reverse.map (·.1)) := ⟨_, rfl⟩
  obtain ⟨l2, hl2⟩ : ∃ l, l = dels l1 (R.reverse.map (·.1)) := ⟨_, rfl⟩
  have inU : ∀ q, q ∈ U.reverse.map (·.1) ↔ ∃ t, (q, t) ∈ U := fun q => by
    simp only [List.map_reverse, List.mem_reverse, List.mem_map]
    exact ⟨fun ⟨x, hx, e⟩ => ⟨x.2, by rw [← e]; exact hx⟩, fun ⟨t, h⟩ => ⟨(q, t), h, rfl⟩⟩
  have inR : ∀ q, q ∈ R.reverse.map (·.1) ↔ ∃ t, (q, t) ∈ R := fun q => by
    simp only [List.map_reverse, List.mem_reverse, List.mem_map]
    exact ⟨fun ⟨x, hx, e⟩ => ⟨x.2, by rw [← e]; exact hx⟩, fun ⟨t, h⟩ => ⟨(q, t), h, rfl⟩⟩
  have look1 : ∀ q, SM.look l1 q = if (∃ t, (q, t) ∈ U) then none else SM.look a q := fun q => by
    rw [hl1, look_dels]
    by_cases h : ∃ t, (q, t) ∈ U
    · rw [if_pos ((inU q).2 h), if_pos h]
    · rw [if_neg (fun hh => h ((inU q).1 hh)), if_neg h]
  have look2 : ∀ q, SM.look l2 q = if (∃ t, (q, t) ∈ R) then none else SM.look l1 q := fun q => by
    rw [hl2, look_dels]
    by_cases h : ∃ t, (q, t) ∈ R
    · rw [if_pos ((inR q).2 h), if_pos h]
    · rw [if_neg (fun hh => h ((inR q).1 hh)), if_neg h]
  -- it stays where b has the same kind
  have stay : ∀ {q t y}, SM.look a q = some t → SM.look b q = some y → y.dir = t.dir → SM.look l2 q = some t := fun {q t y} h1 h2 h3 => by
    have hc : cls b (q, t) = 0 := by rw [cls_val, if_pos ⟨y, h2, h3⟩]
    have n1 : ¬ ∃ t', (q, t') ∈ U := by
      rintro ⟨t', ht⟩
      have := mU.1 ht
      rw [h1] at this
      obtain ⟨e, hc'⟩ := this
      cases e
      rw [hc] at hc'; exact absurd hc' (by decide)
    have n2 : ¬ ∃ t', (q, t') ∈ R := by
      rintro ⟨t', ht⟩
      have := mR.1 ht
      rw [h1] at this
      obtain ⟨e, hc'⟩ := this
      cases e
      rw [hc] at hc'; exact absurd hc' (by decide)
    rw [look2, if_neg n2, look1, if_neg n1, h1]
  -- it goes where b has it not, or of another kind
  have gone : ∀ {q t}, SM.look a q = some t → (¬ ∃ y, SM.look b q = some y ∧ y.dir = t.dir) → SM.look l2 q = none := fun {q t} h1 h2 => by
    have hc : cls b (q, t) = if t.dir then 2 else 1 := by rw [cls_val, if_neg h2]
    cases hd : t.dir with
    | true =>
      rw [hd] at hc
      rw [look2, if_pos ⟨t, mR.2 ⟨h1, hc⟩⟩]
    | false =>
      rw [hd] at hc
      rw [look2]
      split
      · rfl
      · rw [look1, if_pos ⟨t, mU.2 ⟨h1, hc⟩⟩]
  have none2 : ∀ {q}, SM.look a q = none → SM.look l2 q = none := fun {q} h => by
    rw [look2]
    split
    · rfl
    · rw [look1]
      split
      · rfl
      · exact h
  -- the phases
  have p1 : doAll a (U.reverse.map unl) = some l1 := by
    rw [hl1]
    refine do_dels unl 1 false (Or.inl ⟨rfl, rfl⟩) (fun x => ⟨rfl, rfl⟩) _ a fU (fun x hx => ?_) (fun x hx y hy e => ?_)
    · obtain ⟨q, t⟩ := x
      have hx := List.mem_reverse.1 hx
      exact ⟨(mU.1 hx).1, dirU hx, ha.ok _ _ (mU.1 hx).1⟩
    · exfalso
      obtain ⟨q, t⟩ := x
      have hx := List.mem_reverse.1 hx
      have h1 := (mU.1 hx).1
      rcases ha.housed _ _ (SM.look_mem ha.rises hy) with h | h
      · rw [e] at h; exact ok_root (ha.ok _ _ h1) h
      · rw [e, h1] at h
        have := dirU hx
        cases h
        exact absurd this (by simp)
  have p2 : doAll l1 (R.reverse.map rmd) = some l2 := by
    rw [hl2]
    refine do_dels rmd 2 true (Or.inr ⟨rfl, rfl⟩) (fun x => ⟨rfl, rfl⟩) _ l1 fR (fun x hx => ?_) (fun x hx y hy e => ?_)
    · obtain ⟨q, t⟩ := x
      have hx := List.mem_reverse.1 hx
      have h1 := mR.1 hx
      refine ⟨?_, (dirR hx).1, ha.ok _ _ h1.1⟩
      rw [look1, if_neg, h1.1]
      rintro ⟨t', ht⟩
      have h2 := mU.1 ht
      rw [h1.1] at h2
      obtain ⟨e2, h3⟩ := h2
      cases e2
      rw [h1.2] at h3; exact absurd h3 (by decide)
    · obtain ⟨q, t⟩ := x
      obtain ⟨p, s⟩ := y
      have hx := List.mem_reverse.1 hx
      have h1 := mR.1 hx
      have hq : q ≠ [47] := ok_root (ha.ok _ _ h1.1)
      have r1 : SM.Rises l1 := by rw [hl1]; exact rises_dels _ ha.rises
      have hy1 := SM.look_mem r1 hy
      dsimp only at e hy1
      rw [look1] at hy1
      split at hy1
      · exact absurd hy1 (by simp)
      · rename_i hnU
        refine ⟨⟨(p, s), List.mem_reverse.2 (mR.2 ⟨hy1, ?_⟩), rfl⟩, ?_⟩
        · rw [cls_val]
          split
          · rename_i hex
            exfalso
            obtain ⟨y, hy2, _⟩ := hex
            rcases hb.housed _ _ hy2 with h | h
            · rw [e] at h; exact hq h
            · rw [e] at h
              exact (dirR hx).2 ⟨_, h, rfl⟩
          · rename_i hex
            cases hd : s.dir with
            | true => rfl
            | false =>
              exfalso
              refine hnU ⟨s, mU.2 ⟨hy1, ?_⟩⟩
              rw [cls_val, if_neg hex, hd]; rfl
        · have := parent_before (q := p) (by rw [e]; exact hq)
          rw [e] at this
          exact this
  have par : ∀ {q t}, SM.look b q = some t → parent q = [47] ∨ SM.look l2 (parent q) = some ⟨true, []⟩ ∨ ((∃ z ∈ K, z.1 = parent q) ∧ bytesBefore (parent q) q = true) := fun {q t} h => by
    rcases hb.housed _ _ h with h1 | h1
    · exact Or.inl h1
    · by_cases h2 : SM.look a (parent q) = some ⟨true, []⟩
      · exact Or.inr (Or.inl (stay h2 h1 rfl))
      · refine Or.inr (Or.inr ⟨⟨(parent q, ⟨true, []⟩), mK.2 ⟨h1, ?_⟩, rfl⟩, parent_before (ok_root (hb.ok _ _ h1))⟩)
        rw [cls2_val, if_neg h2]; rfl
  have p3 : doAll l2 (K.map mkd) = some (puts l2 K) := by
    refine do_mkdirs K l2 rK (fun x hx => ?_) (fun x hx => ?_)
    · obtain ⟨q, t⟩ := x
      have h1 := mK.1 hx
      have hc := h1.2
      rw [cls2_val] at hc
      split at hc
      · exact absurd hc (by decide)
      · rename_i hna
        have hd : t.dir = true := by
          cases hd : t.dir with
          | true => rfl
          | false => rw [hd] at hc; exact absurd hc (by decide)
        have ht := hb.dirs _ _ h1.1 hd
        refine ⟨?_, ht, hb.ok _ _ h1.1⟩
        cases hla : SM.look a q with
        | none => exact none2 hla
        | some z =>
          refine gone hla ?_
          rintro ⟨y, hy, he⟩
          rw [h1.1] at hy
          cases hy
          rw [hd] at he
          exact hna (by rw [hla, ha.dirs _ _ hla he.symm, ht])
    · obtain ⟨q, t⟩ := x
      exact par (mK.1 hx).1
  obtain ⟨l3, hl3⟩ : ∃ l, l = puts l2 K := ⟨_, rfl⟩
  rw [← hl3] at p3
  have look3 : ∀ {q t}, SM.look b q = some t → t.dir = true → SM.look l3 q = some t := fun {q t} h hd => by
    rw [hl3]
    by_cases h2 : SM.look a q = some t
    · rw [look_puts_other K l2 q]
      · exact stay h2 h rfl
      · rintro ⟨q', t'⟩ hx e
        dsimp only at e
        subst e
        have h3 := mK.1 hx
        rw [h] at h3
        obtain ⟨e, h4⟩ := h3
        cases e
        rw [cls2_val, if_pos h2] at h4
        exact absurd h4 (by decide)
    · exact look_puts_at K l2 rK (q, t) (mK.2 ⟨h, by rw [cls2_val, if_neg h2, hd]; rfl⟩)
  have look3o : ∀ {q}, (∀ t, SM.look b q = some t → t.dir = false) → SM.look l3 q = SM.look l2 q := fun {q} h => by
    rw [hl3, look_puts_other]
    rintro ⟨q', t'⟩ hx e
    dsimp only at e
    subst e
    have h3 := mK.1 hx
    have h4 := h _ h3.1
    have h5 := h3.2
    rw [cls2_val, h4] at h5
    split at h5 <;> exact absurd h5 (by decide)
  have p4 : doAll l3 (P.map putd) = some (puts l3 P) := by
    refine do_puts P l3 rP (fun x hx => ?_) (fun x hx => ?_)
    · obtain ⟨q, t⟩ := x
      have h1 := mP.1 hx
      have hc := h1.2
      rw [cls2_val] at hc
      split at hc
      · exact absurd hc (by decide)
      · have hd : t.dir = false := by
          cases hd : t.dir with
          | false => rfl
          | true => rw [hd] at hc; exact absurd hc (by decide)
        refine ⟨fun s hs => ?_, hd, hb.ok _ _ h1.1⟩
        rw [look3o (fun u hu => by rw [h1.1] at hu; cases hu; exact hd)] at hs
        cases hla : SM.look a q with
        | none => rw [none2 hla] at hs; exact absurd hs (by simp)
        | some z =>
          cases hz : z.dir with
          | true =>
            rw [gone hla (by
              rintro ⟨y, hy, he⟩
              rw [h1.1] at hy
              cases hy
              rw [hd, hz] at he
              exact absurd he (by simp))] at hs
            exact absurd hs (by simp)
          | false =>
            rw [stay hla h1.1 (by rw [hd, hz])] at hs
            cases hs
            exact hz
    · obtain ⟨q, t⟩ := x
      rcases hb.housed _ _ (mP.1 hx).1 with h | h
      · exact Or.inl h
      · exact Or.inr (look3 h rfl)
  have hend : puts l3 P = b := by
    refine SM.ext ?_ hb.rises (fun q => ?_)
    · refine rises_puts _ ?_
      rw [hl3]
      refine rises_puts _ ?_
      rw [hl2]
      refine rises_dels _ ?_
      rw [hl1]
      exact rises_dels _ ha.rises
    · have notP : ∀ {q}, (∀ t, SM.look b q = some t → cls2 a (q, t) ≠ 4) → SM.look (puts l3 P) q = SM.look l3 q := fun {q} h => by
        rw [look_puts_other]
        rintro ⟨q', t'⟩ hx e
        dsimp only at e
        subst e
        exact h _ (mP.1 hx).1 (mP.1 hx).2
      cases hq : SM.look b q with
      | none =>
        rw [notP (fun t ht => by rw [hq] at ht; exact absurd ht (by simp)), look3o (fun t ht => by rw [hq] at ht; exact absurd ht (by simp))]
        cases hla : SM.look a q with
        | none => exact none2 hla
        | some z => exact gone hla (by rintro ⟨y, hy, _⟩; rw [hq] at hy; exact absurd hy (by simp))
      | some t =>
        cases hd : t.dir with
        | true =>
          rw [notP (fun t' ht' => by
            rw [hq] at ht'
            cases ht'
            rw [cls2_val, hd]
            split <;> decide)]
          exact look3 hq hd
        | false =>
          by_cases h2 : SM.look a q = some t
          · rw [notP (fun t' ht' => by
              rw [hq] at ht'
              cases ht'
              rw [cls2_val, if_pos h2]
              decide), look3o (fun t' ht' => by rw [hq] at ht'; cases ht'; exact hd)]
            exact stay h2 hq rfl
          · exact look_puts_at P l3 rP (q, t) (mP.2 ⟨hq, by rw [cls2_val, if_neg h2, hd]; rfl⟩)
  rw [hdel, doAll_append, p1, Option.bind_some, doAll_append, p2, Option.bind_some, doAll_append, p3, Option.bind_some, p4, hend]
end Disk
end Go.Proofs.YtdogacgpfnolfaaGreatDoor
