/- A journal's files laid over others, in plain words. No program stands here. -/
import Derived.Test.YtdogacgpfnolfaaGreatDoorPAgainP
import Derived.Test.YtdogacgpfnolfaaGreatDoorDiskA6
namespace Go.Proofs.YtdogacgpfnolfaaGreatDoor
set_option linter.unusedSimpArgs false
set_option linter.unusedVariables false
namespace Disk
def jA : List UInt8 := [47, 106, 111, 117, 114, 110, 97, 108]
def jT : List UInt8 := [47, 106, 111, 117, 114, 110, 97, 108, 47, 112, 108, 97, 110]
def jN : List UInt8 := [47, 106, 111, 117, 114, 110, 97, 108, 47, 112, 108, 97, 110, 46, 110, 101, 119]
def nT : List UInt8 := [112, 108, 97, 110]
def nN : List UInt8 := [112, 108, 97, 110, 46, 110, 101, 119]
/-- Is a path the journal's? -/
def jp (p : List UInt8) : Bool := decide (p = jA) || (jA ++ [47]).isPrefixOf p
/-- What lies there but the journal; the journal. -/
def strip (m : M) : M := m.filter fun x => !jp x.1
def jpart (m : M) : M := m.filter fun x => jp x.1
theorem look_filter (c : List UInt8 → Bool) : ∀ (m : M) (q : List UInt8), SM.look (m.filter fun x => c x.1) q = if c q then SM.look m q else none
  | [], q => by simp [SM.look_nil]
  | x :: r, q => by
    have ih := look_filter c r q
    rw [List.filter_cons]
    by_cases hc : c x.1 = true
    · rw [if_pos hc, SM.look_cons, SM.look_cons]
      by_cases e : x.1 = q
      · rw [if_pos e, if_pos e, ← e, if_pos hc]
      · rw [if_neg e, if_neg e]; exact ih
    · rw [if_neg hc, SM.look_cons, ih]
      by_cases e : x.1 = q
      · rw [← e, if_neg hc, if_neg hc]
      · rw [if_neg e]
theorem look_strip (m : M) (q : List UInt8) : SM.look (strip m) q = if jp q then none else SM.look m q := by
  unfold strip
  rw [look_filter (fun p => !jp p) m q]
  cases jp q <;> rfl
theorem look_jpart (m : M) (q : List UInt8) : SM.look (jpart m) q = if jp q then SM.look m q else none := look_filter jp m q
theorem rises_strip {m : M} (h : SM.Rises m) : SM.Rises (strip m) := List.Pairwise.filter _ h
theorem rises_jpart {m : M} (h : SM.Rises m) : SM.Rises (jpart m) := List.Pairwise.filter _ h
theorem same_of {m m' : M} (h : SM.Rises m) (h' : SM.Rises m') (hs : strip m = strip m') (hj : jpart m = jpart m') : m = m' :=
  SM.ext h h' fun q => by
    have h1 := congrArg (fun x => SM.look x q) hs
    have h2 := congrArg (fun x => SM.look x q) hj
    simp only [look_strip, look_jpart] at h1 h2
    cases hq : jp q
    · rw [hq] at h1; simpa using h1
    · rw [hq] at h2; simpa using h2
theorem strip_put {m : M} (h : SM.Rises m) {p : List UInt8} (hp : jp p = false) (t : T) : strip (SM.put m p t) = SM.put (strip m) p t :=
  SM.ext (rises_strip (SM.rises_put h _ _)) (SM.rises_put (rises_strip h) _ _) fun q => by
    rw [look_strip, SM.look_put, SM.look_put, look_strip]
    by_cases e : q = p
    · rw [if_pos e, if_pos e, e, hp]; rfl
    · rw [if_neg e, if_neg e]
theorem strip_put_j {m : M} (h : SM.Rises m) {p : List UInt8} (hp : jp p = true) (t : T) : strip (SM.put m p t) = strip m :=
  SM.ext (rises_strip (SM.rises_put h _ _)) (rises_strip h) fun q => by
    rw [look_strip, SM.look_put, look_strip]
    by_cases e : q = p
    · rw [e, hp]; rfl
    · rw [if_neg e]
theorem jpart_put {m : M} (h : SM.Rises m) {p : List UInt8} (hp : jp p = true) (t : T) : jpart (SM.put m p t) = SM.put (jpart m) p t :=
  SM.ext (rises_jpart (SM.rises_put h _ _)) (SM.rises_put (rises_jpart h) _ _) fun q => by
    rw [look_jpart, SM.look_put, SM.look_put, look_jpart]
    by_cases e : q = p
    · rw [if_pos e, if_pos e, e, hp]; rfl
    · rw [if_neg e, if_neg e]
theorem jpart_put_f {m : M} (h : SM.Rises m) {p : List UInt8} (hp : jp p = false) (t : T) : jpart (SM.put m p t) = jpart m :=
  SM.ext (rises_jpart (SM.rises_put h _ _)) (rises_jpart h) fun q => by
    rw [look_jpart, SM.look_put, look_jpart]
    by_cases e : q = p
    · rw [e, hp]; rfl
    · rw [if_neg e]
theorem strip_del {m : M} (h : SM.Rises m) (p : List UInt8) : strip (SM.del m p) = SM.del (strip m) p :=
  SM.ext (rises_strip (SM.rises_del h _)) (SM.rises_del (rises_strip h) _) fun q => by
    rw [look_strip, SM.look_del, SM.look_del, look_strip]
    by_cases e : q = p
    · rw [if_pos e, if_pos e]; split <;> rfl
    · rw [if_neg e, if_neg e]
theorem jpart_del {m : M} (h : SM.Rises m) (p : List UInt8) : jpart (SM.del m p) = SM.del (jpart m) p :=
  SM.ext (rises_jpart (SM.rises_del h _)) (SM.rises_del (rises_jpart h) _) fun q => by
    rw [look_jpart, SM.look_del, SM.look_del, look_jpart]
    by_cases e : q = p
    · rw [if_pos e, if_pos e]; split <;> rfl
    · rw [if_neg e, if_neg e]
theorem del_none {m : M} (h : SM.Rises m) {p : List UInt8} (hl : SM.look m p = none) : SM.del m p = m :=
  SM.ext (SM.rises_del h _) h fun q => by
    rw [SM.look_del]
    by_cases e : q = p
    · rw [if_pos e, e, hl]
    · rw [if_neg e]
theorem strip_del_j {m : M} (h : SM.Rises m) {p : List UInt8} (hp : jp p = true) : strip (SM.del m p) = strip m := by
  rw [strip_del h]
  exact del_none (rises_strip h) (by rw [look_strip, hp]; rfl)
theorem jpart_del_f {m : M} (h : SM.Rises m) {p : List UInt8} (hp : jp p = false) : jpart (SM.del m p) = jpart m := by
  rw [jpart_del h]
  exact del_none (rises_jpart h) (by rw [look_jpart, hp]; rfl)
theorem kind_strip {m : M} {q : List UInt8} (hq : jp q = false) : kind (strip m) q = kind m q := by
  unfold kind
  rw [look_strip, hq]
  rfl
theorem kind_jpart {m : M} {q : List UInt8} (hq : jp q = true) : kind (jpart m) q = kind m q := by
  unfold kind
  rw [look_jpart, hq]
  rfl
theorem jp_root : jp [47] = false := by decide
theorem jp_jA : jp jA = true := by decide
theorem jp_jT : jp jT = true := by decide
theorem jp_jN : jp jN = true := by decide
theorem jp_below {p : List UInt8} (r : List UInt8) (h : jp p = true) : jp (p ++ [47] ++ r) = true := by
  unfold jp at h ⊢
  rw [Bool.or_eq_true] at h ⊢
  refine Or.inr (List.isPrefixOf_iff_prefix.2 ?_)
  rcases h with h | h
  · rw [of_decide_eq_true h]
    exact ⟨r, rfl⟩
  · obtain ⟨t, ht⟩ := List.isPrefixOf_iff_prefix.1 h
    exact ⟨t ++ [47] ++ r, by rw [← ht]; simp only [List.append_assoc]⟩
/-- What is not the journal's has no home in it. -/
theorem parent_jp {p : List UInt8} (hok : pathOk p = true) (hp : jp p = false) : jp (parent p) = false := by
  cases h : jp (parent p) with
  | false => rfl
  | true =>
    have hs := parent_split hok rfl
    have hr : parent p ≠ [47] := fun e => by rw [e, jp_root] at h; exact absurd h (by simp)
    unfold pre at hs
    rw [if_neg hr] at hs
    rw [hs, jp_below _ h] at hp
    exact absurd hp (by simp)
/-- The journal's own hang in it, or at the root. -/
def Jok (J : M) : Prop := ∀ x ∈ J, parent x.1 = [47] ∨ jp (parent x.1) = true
theorem any_child {m : M} (hj : Jok (jpart m)) {p : List UInt8} (hok : pathOk p = true) (hp : jp p = false) : (m.any fun x => parent x.1 == p) = (strip m).any fun x => parent x.1 == p := by
  rw [Bool.eq_iff_iff, List.any_eq_true, List.any_eq_true]
  constructor
  · rintro ⟨x, hx, e⟩
    refine ⟨x, List.mem_filter.2 ⟨hx, ?_⟩, e⟩
    cases hjx : jp x.1 with
    | false => rfl
    | true =>
      have e' := beq_iff_eq.1 e
      rcases hj x (List.mem_filter.2 ⟨hx, hjx⟩) with h | h
      · rw [e'] at h; exact absurd h (not_root hok)
      · rw [e', hp] at h; exact absurd h (by simp)
  · rintro ⟨x, hx, e⟩
    exact ⟨x, (List.mem_filter.1 hx).1, e⟩
theorem home_free {m : M} {p : List UInt8} (hok : pathOk p = true) (hp : jp p = false) : homeE m p = homeE (strip m) p := by
  unfold homeE
  rw [kind_strip (parent_jp hok hp)]
theorem removeC_free {m : M} (hr : SM.Rises m) (hj : Jok (jpart m)) {p : List UInt8} (hok : pathOk p = true) (hp : jp p = false) :
    (removeC m p).1 = (removeC (strip m) p).1 ∧ strip (removeC m p).2 = (removeC (strip m) p).2 ∧ jpart (removeC m p).2 = jpart m ∧ SM.Rises (removeC m p).2 := by
  unfold removeC
  rw [kind_strip hp, any_child hj hok hp]
  split
  · exact ⟨rfl, rfl, rfl, hr⟩
  split
  · exact ⟨rfl, rfl, rfl, hr⟩
  split
  · exact ⟨rfl, rfl, rfl, hr⟩
  · exact ⟨rfl, strip_del hr p, jpart_del_f hr hp, SM.rises_del hr p⟩
theorem mkdirC_free {m : M} (hr : SM.Rises m) {p : List UInt8} (hok : pathOk p = true) (hp : jp p = false) :
    (mkdirC m p).1 = (mkdirC (strip m) p).1 ∧ strip (mkdirC m p).2 = (mkdirC (strip m) p).2 ∧ jpart (mkdirC m p).2 = jpart m ∧ SM.Rises (mkdirC m p).2 := by
  unfold mkdirC
  rw [kind_strip hp, home_free hok hp]
  split
  · exact ⟨rfl, rfl, rfl, hr⟩
  split
  · exact ⟨rfl, rfl, rfl, hr⟩
  split
  · exact ⟨rfl, rfl, rfl, hr⟩
  · exact ⟨rfl, strip_put hr hp _, jpart_put_f hr hp _, SM.rises_put hr _ _⟩
theorem writeC_free {m : M} (hr : SM.Rises m) {p : List UInt8} (hok : pathOk p = true) (hp : jp p = false) (t : List UInt8) :
    (writeC m p t).1 = (writeC (strip m) p t).1 ∧ strip (writeC m p t).2 = (writeC (strip m) p t).2 ∧ jpart (writeC m p t).2 = jpart m ∧ SM.Rises (writeC m p t).2 := by
  unfold writeC
  rw [kind_strip hp, home_free hok hp]
  split
  · exact ⟨rfl, rfl, rfl, hr⟩
  split
  · exact ⟨rfl, rfl, rfl, hr⟩
  split
  · exact ⟨rfl, rfl, rfl, hr⟩
  · exact ⟨rfl, strip_put hr hp _, jpart_put_f hr hp _, SM.rises_put hr _ _⟩
theorem readR_free {m : M} {p : List UInt8} (hp : jp p = false) : readR m p = readR (strip m) p := by
  unfold readR
  rw [kind_strip hp, look_strip, hp]
  rfl
/-- What a deed asks of a disk: none: nothing. -/
def coreJ (l : M) (d : Dd) : Option ((Int × M) × Rw) :=
  if (d.kind = 1 ∧ kind l d.path = 1) ∨ (d.kind = 2 ∧ kind l d.path = 2) then some (removeC l d.path, ⟨4, d.path, []⟩)
  else if d.kind = 3 ∧ kind l d.path = 0 then some (mkdirC l d.path, ⟨1, d.path, []⟩)
  else if d.kind = 4 ∧ readR l d.path ≠ (d.data, 0) then some (writeC l d.path d.data, ⟨2, d.path, []⟩)
  else none
theorem coreJ_free {m : M} (hr : SM.Rises m) (hj : Jok (jpart m)) {d : Dd} (hok : pathOk d.path = true) (hp : jp d.path = false) :
    (coreJ m d = none ∧ coreJ (strip m) d = none) ∨ ∃ c c' r, coreJ m d = some (c, r) ∧ coreJ (strip m) d = some (c', r) ∧ c.1 = c'.1 ∧ strip c.2 = c'.2 ∧ jpart c.2 = jpart m ∧ SM.Rises c.2 := by
  unfold coreJ
  rw [kind_strip hp, ← readR_free hp]
  by_cases h1 : (d.kind = 1 ∧ kind m d.path = 1) ∨ (d.kind = 2 ∧ kind m d.path = 2)
  · rw [if_pos h1, if_pos h1]
    exact Or.inr ⟨_, _, _, rfl, rfl, removeC_free hr hj hok hp⟩
  rw [if_neg h1, if_neg h1]
  by_cases h3 : d.kind = 3 ∧ kind m d.path = 0
  · rw [if_pos h3, if_pos h3]
    exact Or.inr ⟨_, _, _, rfl, rfl, mkdirC_free hr hok hp⟩
  rw [if_neg h3, if_neg h3]
  by_cases h4 : d.kind = 4 ∧ readR m d.path ≠ (d.data, 0)
  · rw [if_pos h4, if_pos h4]
    exact Or.inr ⟨_, _, _, rfl, rfl, writeC_free hr hok hp _⟩
  rw [if_neg h4, if_neg h4]
  exact Or.inl ⟨rfl, rfl⟩
/-- A deed of a journal's plan, again if it was done already. -/
def S.doJ (s : S) (d : Dd) : Int × S := match coreJ s.l d with
  | none => (0, s)
  | some (c, r) => s.ask c r
def S.bind (x : Int × S) (k : S → Int × S) : Int × S := if x.1 = 0 then k x.2 else x
def S.dos : S → List Dd → Int × S
  | s, [] => (0, s)
  | s, d :: r => S.bind (s.doJ d) fun s' => s'.dos r
def S.gone (s : S) : Int × S := if kind s.l jN = 1 then S.bind (s.remove jN) fun s' => s'.remove jA else s.remove jA
def S.endJ (s : S) (ds : List Dd) : Int × S := S.bind (s.dos ds) fun s1 => S.bind (s1.remove jT) fun s2 => s2.gone
/-- What a deed wants to be there. -/
def want (l : M) (d : Dd) : Bool := (decide (d.kind = 1 → kind l d.path = 1) && decide (d.kind = 2 → kind l d.path = 2)) && decide (d.kind = 3 → kind l d.path = 0)
def S.tries : S → List Dd → Bool
  | _, [] => true
  | s, d :: r => want s.l d && (decide ((s.doJ d).1 = 0) && S.tries (s.doJ d).2 r)
/-- It goes, and leaves what it should. -/
def coreOk (l : M) (d : Dd) : Prop := match coreJ l d with
  | none => doesC l d = l
  | some (c, _) => c.1 = 0 ∧ c.2 = doesC l d
theorem read_of {l : M} {p t : List UInt8} (hp : pathOk p = true) (h : readR l p = (t, 0)) : SM.look l p = some ⟨false, t⟩ := by
  unfold readR at h
  rw [if_neg (by rw [hp]; simp)] at h
  by_cases h0 : kind l p = 0
  · rw [if_pos h0] at h; exact absurd (show (12 : Int) = 0 from congrArg (·.2) h) (by decide)
  rw [if_neg h0] at h
  by_cases h2 : kind l p = 2
  · rw [if_pos h2] at h; exact absurd (show (13 : Int) = 0 from congrArg (·.2) h) (by decide)
  rw [if_neg h2] at h
  have hk : kind l p = 1 := by
    unfold kind at h0 h2 ⊢
    by_cases e : p = [47]
    · rw [if_pos e] at h2; exact absurd rfl h2
    · rw [if_neg e] at h0 h2 ⊢
      cases hl : SM.look l p with
      | none => rw [hl] at h0; exact absurd rfl h0
      | some t =>
        rw [hl] at h2
        dsimp only at h2 ⊢
        cases hd : t.dir
        · rfl
        · rw [hd] at h2; exact absurd rfl h2
  obtain ⟨x, hx⟩ := kind_file hp hk
  rw [hx] at h ⊢
  rw [show x = t from congrArg (·.1) h]
theorem of_read {l : M} {p t : List UInt8} (hp : pathOk p = true) (h : SM.look l p = some ⟨false, t⟩) : readR l p = (t, 0) := by
  have hk : kind l p = 1 := by rw [kind_at hp, h]; rfl
  unfold readR
  rw [if_neg (by rw [hp]; simp), if_neg (by rw [hk]; decide), if_neg (by rw [hk]; decide), h]
  rfl
/-- What has been done is not done twice. -/
theorem core_again {l : M} (h : Hung l) {d : Dd} (hp : pathOk d.path = true) (ha : after d l) : coreJ l d = none ∧ doesC l d = l := by
  refine ⟨?_, does_again h hp ha⟩
  obtain ⟨a1, a2, a3, a4⟩ := ha
  unfold coreJ
  rw [if_neg, if_neg, if_neg]
  · rintro ⟨k4, e⟩
    exact e (of_read hp (a4 k4))
  · rintro ⟨k3, e⟩
    rw [kind_at hp, a3 k3] at e
    exact absurd e (by decide)
  · rintro (⟨k1, e⟩ | ⟨k2, e⟩)
    · rw [kind_at hp] at e
      rcases a1 k1 with h | h <;> rw [h] at e <;> exact absurd e (by decide)
    · rw [kind_at hp] at e
      rcases a2 k2 with h | ⟨t, h⟩ <;> rw [h] at e <;> exact absurd e (by simp)
/-- What goes has been done behind it. -/
theorem core_done {l : M} (h : Hung l) {d : Dd} (hp : pathOk d.path = true) (hk : 1 ≤ d.kind ∧ d.kind ≤ 4) (hw : want l d = true) (hc : ∀ c r, coreJ l d = some (c, r) → c.1 = 0) : after d (doesC l d) ∧ coreOk l d := by
  unfold want at hw
  simp only [Bool.and_eq_true, decide_eq_true_eq] at hw
  obtain ⟨⟨w1, w2⟩, w3⟩ := hw
  have hrem : ∀ k, (d.kind = 1 ∧ k = (1 : Int)) ∨ (d.kind = 2 ∧ k = 2) → kind l d.path = k → (removeC l d.path).1 = 0 → (removeC l d.path).2 = SM.del l d.path := fun k hk1 hk2 hz => by
    unfold removeC at hz ⊢
    rw [if_neg (by simp [hp])] at hz ⊢
    have h0 : ¬ kind l d.path = 0 := by rw [hk2]; rcases hk1 with ⟨_, e⟩ | ⟨_, e⟩ <;> rw [e] <;> decide
    rw [if_neg h0] at hz ⊢
    split at hz
    · exact absurd (show (14 : Int) = 0 from hz) (by decide)
    · rename_i hh; rw [if_neg hh]
  by_cases k1 : d.kind = 1
  · have hl := w1 k1
    have e1 : coreJ l d = some (removeC l d.path, ⟨4, d.path, []⟩) := by unfold coreJ; rw [if_pos (Or.inl ⟨k1, hl⟩)]
    have hz := hc _ _ e1
    have e2 : doesC l d = (removeC l d.path).2 := by unfold doesC; rw [if_pos k1, if_pos hl]
    have e3 := hrem 1 (Or.inl ⟨k1, rfl⟩) hl hz
    refine ⟨?_, by unfold coreOk; rw [e1]; exact ⟨hz, e2.symm⟩⟩
    rw [e2, e3]
    exact ⟨fun _ => Or.inl (by rw [SM.look_del, if_pos rfl]), fun k => by omega, fun k => by omega, fun k => by omega⟩
  by_cases k2 : d.kind = 2
  · have hl := w2 k2
    have e1 : coreJ l d = some (removeC l d.path, ⟨4, d.path, []⟩) := by unfold coreJ; rw [if_pos (Or.inr ⟨k2, hl⟩)]
    have hz := hc _ _ e1
    have e2 : doesC l d = (removeC l d.path).2 := by unfold doesC; rw [if_neg k1, if_pos k2, if_pos hl]
    have e3 := hrem 2 (Or.inr ⟨k2, rfl⟩) hl hz
    refine ⟨?_, by unfold coreOk; rw [e1]; exact ⟨hz, e2.symm⟩⟩
    rw [e2, e3]
    exact ⟨fun k => by omega, fun _ => Or.inl (by rw [SM.look_del, if_pos rfl]), fun k => by omega, fun k => by omega⟩
  by_cases k3 : d.kind = 3
  · have hl := w3 k3
    have e1 : coreJ l d = some (mkdirC l d.path, ⟨1, d.path, []⟩) := by unfold coreJ; rw [if_neg (by omega), if_pos ⟨k3, hl⟩]
    have hz := hc _ _ e1
    have e2 : doesC l d = (mkdirC l d.path).2 := by unfold doesC; rw [if_neg k1, if_neg k2, if_pos k3, if_pos hl]
    have e3 : (mkdirC l d.path).2 = SM.put l d.path ⟨true, []⟩ := by
      unfold mkdirC at hz ⊢
      rw [if_neg (by simp [hp])] at hz ⊢
      split at hz
      · rename_i hh; exact absurd hz hh
      · rename_i hh
        rw [if_neg hh]
        rw [if_neg (by rw [hl]; decide)]
    refine ⟨?_, by unfold coreOk; rw [e1]; exact ⟨hz, e2.symm⟩⟩
    rw [e2, e3]
    exact ⟨fun k => by omega, fun k => by omega, fun _ => by rw [SM.look_put, if_pos rfl], fun k => by omega⟩
  · have k4 : d.kind = 4 := by omega
    have e2 : doesC l d = (writeC l d.path d.data).2 := by unfold doesC; rw [if_neg k1, if_neg k2, if_neg k3, if_pos k4]
    by_cases hrd : readR l d.path = (d.data, 0)
    · have hl := read_of hp hrd
      have e1 : coreJ l d = none := by unfold coreJ; rw [if_neg (by omega), if_neg (by omega), if_neg (fun h => h.2 hrd)]
      have ha : after d l := ⟨fun k => by omega, fun k => by omega, fun k => by omega, fun _ => hl⟩
      have e3 := does_again h hp ha
      exact ⟨by rw [e3]; exact ha, by unfold coreOk; rw [e1]; exact e3⟩
    · have e1 : coreJ l d = some (writeC l d.path d.data, ⟨2, d.path, []⟩) := by unfold coreJ; rw [if_neg (by omega), if_neg (by omega), if_pos ⟨k4, hrd⟩]
      have hz := hc _ _ e1
      have e3 : (writeC l d.path d.data).2 = SM.put l d.path ⟨false, d.data⟩ := by
        unfold writeC at hz ⊢
        rw [if_neg (by simp [hp])] at hz ⊢
        split at hz
        · rename_i hh; exact absurd hz hh
        · rename_i hh
          rw [if_neg hh]
          split at hz
          · exact absurd (show (13 : Int) = 0 from hz) (by decide)
          · rename_i h2; rw [if_neg h2]
      refine ⟨?_, by unfold coreOk; rw [e1]; exact ⟨hz, e2.symm⟩⟩
      rw [e2, e3]
      exact ⟨fun k => by omega, fun k => by omega, fun k => by omega, fun _ => by rw [SM.look_put, if_pos rfl]⟩
end Disk
end Go.Proofs.YtdogacgpfnolfaaGreatDoor

namespace Go.Proofs.YtdogacgpfnolfaaGreatDoor
set_option linter.unusedSimpArgs false
set_option linter.unusedVariables false
namespace Disk
/-- What went on: all of it, or as far as the power went. -/
def Went (s : S) (x : Int × S) (g b : S → Prop) : Prop := (s.left = -1 → x.2.left = -1) ∧ ((x.1 = 0 ∧ g x.2) ∨ (x.1 = 15 ∧ x.2.left = 0 ∧ b x.2))
theorem went_bind {s : S} {x : Int × S} {k : S → Int × S} {g b g' b' : S → Prop} (h : Went s x g b) (hk : ∀ s', g s' → Went s' (k s') g' b') (hb : ∀ s', b s' → b' s') : Went s (S.bind x k) g' b' := by
  obtain ⟨h1, ⟨e, hg⟩ | ⟨e, hl, hbx⟩⟩ := h
  · obtain ⟨k1, k2⟩ := hk _ hg
    unfold S.bind
    rw [if_pos e]
    exact ⟨fun hs => k1 (h1 hs), k2⟩
  · unfold S.bind
    rw [if_neg (by rw [e]; decide)]
    exact ⟨h1, Or.inr ⟨e, hl, hb _ hbx⟩⟩
theorem went_ask {s : S} {c : Int × M} {r : Rw} {g b : S → Prop} (hc : c.1 = 0) (hg : g (s.did c.2 r)) (hb : b s) : Went s (s.ask c r) g b := by
  unfold S.ask
  by_cases h0 : s.left = 0
  · rw [if_pos h0]
    exact ⟨fun h => h, Or.inr ⟨rfl, h0, hb⟩⟩
  · rw [if_neg h0, if_pos hc]
    exact ⟨fun h => by show off s.left = -1; rw [h]; rfl, Or.inl ⟨rfl, hg⟩⟩
theorem went_same {s : S} {g b : S → Prop} (h : g s) : Went s (0, s) g b := ⟨fun h => h, Or.inl ⟨rfl, h⟩⟩
theorem went_mono {s : S} {x : Int × S} {g b g' b' : S → Prop} (h : Went s x g b) (hg : ∀ s', g s' → g' s') (hb : ∀ s', b s' → b' s') : Went s x g' b' := by
  obtain ⟨h1, ⟨e, h2⟩ | ⟨e, hl, h2⟩⟩ := h
  · exact ⟨h1, Or.inl ⟨e, hg _ h2⟩⟩
  · exact ⟨h1, Or.inr ⟨e, hl, hb _ h2⟩⟩
/-- A plan that can be done on files that have nothing of the journal. -/
structure Good (l0 : M) (ds : List Dd) : Prop where
  hung : Hung l0
  pair : paired ds
  kinds : ∀ d ∈ ds, 1 ≤ d.kind ∧ d.kind ≤ 4
  free : ∀ d ∈ ds, jp d.path = false
  jfree : jpart l0 = []
  goes : ∀ (i : Nat) (d : Dd), ds[i]? = some d → want (runC l0 (ds.take i)) d = true ∧ ∀ c r, coreJ (runC l0 (ds.take i)) d = some (c, r) → c.1 = 0
theorem Good.done {l0 : M} {ds : List Dd} (h : Good l0 ds) {i : Nat} {d : Dd} (hd : ds[i]? = some d) : after d (runC l0 (ds.take (i + 1))) ∧ coreOk (runC l0 (ds.take i)) d := by
  have hm := List.mem_of_getElem? hd
  obtain ⟨h1, h2⟩ := h.goes i d hd
  have := core_done (hung_run h.hung _) (h.pair.1 d hm) (h.kinds d hm) h1 h2
  rw [runC_next hd]
  exact this
theorem Good.stay {l0 : M} {ds : List Dd} (h : Good l0 ds) : ∀ (n i : Nat) (d : Dd), ds[i]? = some d → after d (runC l0 (ds.take (i + 1 + n))) := fun n => by
  induction n with
  | zero => intro i d hd; rw [Nat.add_zero]; exact (h.done hd).1
  | succ n ih =>
    intro i d hd
    have h1 := ih i d hd
    cases hx : ds[i + 1 + n]? with
    | none =>
      have hlen : ds.length ≤ i + 1 + n := List.getElem?_eq_none_iff.1 hx
      rw [List.take_of_length_le (by omega)] at h1 ⊢
      exact h1
    | some x =>
      rw [show i + 1 + (n + 1) = i + 1 + n + 1 from rfl, runC_next hx]
      refine after_next h1 fun e => ⟨h.pair.2 i (i + 1 + n) d x (by omega) hd hx e, ?_⟩
      have := (h.done hx).1
      rwa [runC_next hx] at this
theorem Good.again {l0 : M} {ds : List Dd} (h : Good l0 ds) {i f : Nat} {d : Dd} (hd : ds[i]? = some d) (hi : i < f) : coreJ (runC l0 (ds.take f)) d = none := by
  have h1 := h.stay (f - (i + 1)) i d hd
  rw [show i + 1 + (f - (i + 1)) = f by omega] at h1
  exact (core_again (hung_run h.hung _) (h.pair.1 d (List.mem_of_getElem? hd)) h1).1
/-- The files as they are behind f deeds; the journal: J. -/
structure At (l0 : M) (ds : List Dd) (J : M) (f : Nat) (m : M) : Prop where
  rises : SM.Rises m
  files : strip m = runC l0 (ds.take f)
  own : jpart m = J
theorem At.full {l0 : M} {ds : List Dd} {J : M} {f : Nat} {m : M} (h : At l0 ds J f m) (hf : ds.length ≤ f) : At l0 ds J ds.length m :=
  ⟨h.rises, by rw [h.files, List.take_of_length_le hf, List.take_length], h.own⟩
theorem At.doJ {l0 : M} {ds : List Dd} {J : M} (hg : Good l0 ds) (hJ : Jok J) {s : S} {f i : Nat} {d : Dd} (h : At l0 ds J f s.l) (hd : ds[i]? = some d) (hif : i ≤ f) (n : Nat) (hn : n ≤ s.raws.length) :
    Went s (s.doJ d) (fun s' => At l0 ds J (max f (i + 1)) s'.l ∧ n ≤ s'.raws.length) (fun s' => At l0 ds J f s'.l ∧ n ≤ s'.raws.length) := by
  have hm := List.mem_of_getElem? hd
  have hc := coreJ_free h.rises (by rw [h.own]; exact hJ) (hg.pair.1 d hm) (hg.free d hm)
  rw [h.files] at hc
  by_cases hlt : i < f
  · have hnone := hg.again hd hlt
    rcases hc with ⟨e, _⟩ | ⟨c, c', r, _, e, _⟩
    · unfold S.doJ
      rw [e]
      refine went_same ⟨?_, hn⟩
      rw [Nat.max_eq_left (by omega)]
      exact h
    · rw [hnone] at e; exact absurd e (by simp)
  · obtain rfl : i = f := by omega
    have hok := (hg.done hd).2
    unfold coreOk at hok
    rw [Nat.max_eq_right (by omega)]
    rcases hc with ⟨e, e2⟩ | ⟨c, c', r, e, e2, e3, e4, e5, e6⟩
    · rw [e2] at hok
      unfold S.doJ
      rw [e]
      refine went_same ⟨⟨h.rises, ?_, h.own⟩, hn⟩
      rw [h.files, runC_next hd]
      exact hok.symm
    · rw [e2] at hok
      obtain ⟨o1, o2⟩ := hok
      unfold S.doJ
      rw [e]
      refine went_ask (by rw [e3]; exact o1) ⟨⟨e6, ?_, e5.trans h.own⟩, ?_⟩ ⟨h, hn⟩
      · show strip c.2 = _
        rw [e4, o2, runC_next hd]
      · show n ≤ (s.raws ++ [r]).length
        rw [List.length_append]
        omega
theorem At.dos {l0 : M} {ds : List Dd} {J : M} (hg : Good l0 ds) (hJ : Jok J) (n : Nat) : ∀ (k i f : Nat) (s : S), ds.length - i = k → i ≤ f → At l0 ds J f s.l → n ≤ s.raws.length →
    Went s (s.dos (ds.drop i)) (fun s' => At l0 ds J ds.length s'.l ∧ n ≤ s'.raws.length) (fun s' => (∃ f', At l0 ds J f' s'.l) ∧ n ≤ s'.raws.length) := fun k => by
  induction k with
  | zero =>
    intro i f s hk hif h hn
    rw [List.drop_of_length_le (by omega)]
    exact went_same ⟨h.full (by omega), hn⟩
  | succ k ih =>
    intro i f s hk hif h hn
    have hi : i < ds.length := by omega
    rw [List.drop_eq_getElem_cons hi]
    show Went s (S.bind (s.doJ _) fun s' => s'.dos _) _ _
    refine went_bind (h.doJ hg hJ (List.getElem?_eq_getElem hi) hif n hn) (fun s' hs' => ?_) (fun s' hs' => ⟨⟨f, hs'.1⟩, hs'.2⟩)
    exact ih (i + 1) (max f (i + 1)) s' (by omega) (by omega) hs'.1 hs'.2
def J1 : M := [(jA, ⟨true, []⟩)]
def J2 (X : List UInt8) : M := [(jA, ⟨true, []⟩), (jN, ⟨false, X⟩)]
def J3 (X : List UInt8) : M := [(jA, ⟨true, []⟩), (jT, ⟨false, X⟩)]
theorem par_A : parent jA = [47] := by decide
theorem par_T : parent jT = jA := by decide
theorem par_N : parent jN = jA := by decide
theorem ok_A : pathOk jA = true := by decide
theorem ok_T : pathOk jT = true := by decide
theorem ok_N : pathOk jN = true := by decide
theorem jok_1 : Jok J1 := fun x hx => by
  rw [List.mem_singleton.1 hx]
  exact Or.inl par_A
theorem jok_2 (X : List UInt8) : Jok (J2 X) := fun x hx => by
  rcases List.mem_cons.1 hx with h | h
  · rw [h]; exact Or.inl par_A
  · rw [List.mem_singleton.1 h]; exact Or.inr (by show jp (parent jN) = true; rw [par_N]; exact jp_jA)
theorem jok_3 (X : List UInt8) : Jok (J3 X) := fun x hx => by
  rcases List.mem_cons.1 hx with h | h
  · rw [h]; exact Or.inl par_A
  · rw [List.mem_singleton.1 h]; exact Or.inr (by show jp (parent jT) = true; rw [par_T]; exact jp_jA)
theorem kind_root (m : M) : kind m [47] = 2 := by unfold kind; rw [if_pos rfl]
/-- What is below the journal's paths. -/
theorem child_own {m : M} (hs : ∀ x ∈ strip m, pathOk x.1 = true) {p : List UInt8} (hp : jp p = true) : (m.any fun x => parent x.1 == p) = (jpart m).any fun x => parent x.1 == p := by
  rw [Bool.eq_iff_iff, List.any_eq_true, List.any_eq_true]
  constructor
  · rintro ⟨x, hx, e⟩
    refine ⟨x, List.mem_filter.2 ⟨hx, ?_⟩, e⟩
    cases hj : jp x.1 with
    | true => rfl
    | false =>
      have h1 := parent_jp (hs x (List.mem_filter.2 ⟨hx, by rw [hj]; rfl⟩)) hj
      rw [beq_iff_eq.1 e, hp] at h1
      exact absurd h1 (by simp)
  · rintro ⟨x, hx, e⟩
    exact ⟨x, (List.mem_filter.1 hx).1, e⟩
theorem At.oks {l0 : M} {ds : List Dd} {J : M} {f : Nat} {m : M} (hg : Good l0 ds) (h : At l0 ds J f m) : ∀ x ∈ strip m, pathOk x.1 = true := fun x hx => by
  have hh := hung_run hg.hung (ds.take f)
  rw [← h.files] at hh
  exact hh.ok x.1 x.2 (SM.look_mem hh.rises hx)
theorem At.put {l0 : M} {ds : List Dd} {J : M} {f : Nat} {m : M} (h : At l0 ds J f m) {p : List UInt8} (hp : jp p = true) (t : T) : At l0 ds (SM.put J p t) f (SM.put m p t) :=
  ⟨SM.rises_put h.rises _ _, by rw [strip_put_j h.rises hp]; exact h.files, by rw [jpart_put h.rises hp, h.own]⟩
theorem At.del {l0 : M} {ds : List Dd} {J : M} {f : Nat} {m : M} (h : At l0 ds J f m) {p : List UInt8} (hp : jp p = true) : At l0 ds (SM.del J p) f (SM.del m p) :=
  ⟨SM.rises_del h.rises _, by rw [strip_del_j h.rises hp]; exact h.files, by rw [jpart_del h.rises, h.own]⟩
theorem At.kind {l0 : M} {ds : List Dd} {J : M} {f : Nat} {m : M} (h : At l0 ds J f m) {p : List UInt8} (hp : jp p = true) : kind m p = Disk.kind J p := by rw [← kind_jpart hp, h.own]
theorem At.look {l0 : M} {ds : List Dd} {J : M} {f : Nat} {m : M} (h : At l0 ds J f m) {p : List UInt8} (hp : jp p = true) : SM.look m p = SM.look J p := by rw [← h.own, look_jpart, hp]; rfl
theorem At.mk1 {l0 : M} {ds : List Dd} {f : Nat} {m : M} (h : At l0 ds [] f m) : (mkdirC m jA).1 = 0 ∧ At l0 ds J1 f (mkdirC m jA).2 := by
  have e : mkdirC m jA = (0, SM.put m jA ⟨true, []⟩) := by
    unfold mkdirC homeE
    rw [ok_A, par_A, kind_root, h.kind jp_jA]
    rfl
  rw [e]
  exact ⟨rfl, h.put jp_jA _⟩
theorem At.mk2 {l0 : M} {ds : List Dd} {f : Nat} {m : M} (h : At l0 ds J1 f m) (X : List UInt8) : (writeC m jN X).1 = 0 ∧ At l0 ds (J2 X) f (writeC m jN X).2 := by
  have e : writeC m jN X = (0, SM.put m jN ⟨false, X⟩) := by
    unfold writeC homeE
    rw [ok_N, par_N, h.kind jp_jA, h.kind jp_jN]
    rfl
  rw [e]
  exact ⟨rfl, h.put jp_jN _⟩
theorem At.mk3 {l0 : M} {ds : List Dd} {f : Nat} {m : M} {X : List UInt8} (h : At l0 ds (J2 X) f m) : (renameC m jN jT).1 = 0 ∧ At l0 ds (J3 X) f (renameC m jN jT).2 := by
  have e : renameC m jN jT = (0, SM.put (SM.del m jN) jT ⟨false, X⟩) := by
    unfold renameC homeE
    rw [ok_N, ok_T, par_T, h.kind jp_jA, h.kind jp_jN, h.kind jp_jT, h.look jp_jN]
    rfl
  rw [e]
  exact ⟨rfl, (h.del jp_jN).put jp_jT _⟩
theorem At.rmT {l0 : M} {ds : List Dd} (hg : Good l0 ds) {f : Nat} {m : M} {X : List UInt8} (h : At l0 ds (J3 X) f m) : (removeC m jT).1 = 0 ∧ At l0 ds J1 f (removeC m jT).2 := by
  have e : removeC m jT = (0, SM.del m jT) := by
    unfold removeC
    rw [ok_T, h.kind jp_jT, child_own (h.oks hg) jp_jT, h.own]
    rfl
  rw [e]
  exact ⟨rfl, h.del jp_jT⟩
theorem At.rmN {l0 : M} {ds : List Dd} (hg : Good l0 ds) {f : Nat} {m : M} {X : List UInt8} (h : At l0 ds (J2 X) f m) : (removeC m jN).1 = 0 ∧ At l0 ds J1 f (removeC m jN).2 := by
  have e : removeC m jN = (0, SM.del m jN) := by
    unfold removeC
    rw [ok_N, h.kind jp_jN, child_own (h.oks hg) jp_jN, h.own]
    rfl
  rw [e]
  exact ⟨rfl, h.del jp_jN⟩
theorem At.rmA {l0 : M} {ds : List Dd} (hg : Good l0 ds) {f : Nat} {m : M} (h : At l0 ds J1 f m) : (removeC m jA).1 = 0 ∧ At l0 ds [] f (removeC m jA).2 := by
  have e : removeC m jA = (0, SM.del m jA) := by
    unfold removeC
    rw [ok_A, h.kind jp_jA, child_own (h.oks hg) jp_jA, h.own]
    rfl
  rw [e]
  exact ⟨rfl, h.del jp_jA⟩
theorem did_raws (s : S) (l : M) (r : Rw) : (s.did l r).raws.length = s.raws.length + 1 := by simp [S.did]
/-- The files ahead of the plan, the journal not yet whole. -/
def Old (l0 : M) (ds : List Dd) (X : List UInt8) (m : M) : Prop := At l0 ds [] 0 m ∨ At l0 ds J1 0 m ∨ At l0 ds (J2 X) 0 m
/-- The journal is whole, or has been. -/
def New (l0 : M) (ds : List Dd) (X : List UInt8) (m : M) : Prop := (∃ f, At l0 ds (J3 X) f m) ∨ At l0 ds J1 ds.length m ∨ At l0 ds [] ds.length m
/-- The journal goes, from where no plan stands. -/
theorem gone_1 {l0 : M} {ds : List Dd} (hg : Good l0 ds) {f : Nat} {s : S} (h : At l0 ds J1 f s.l) (n : Nat) (hn : n ≤ s.raws.length) :
    Went s s.gone (fun s' => At l0 ds [] f s'.l ∧ n ≤ s'.raws.length) (fun s' => At l0 ds J1 f s'.l ∧ n ≤ s'.raws.length) := by
  unfold S.gone
  rw [if_neg (by rw [h.kind jp_jN]; decide)]
  obtain ⟨h1, h2⟩ := h.rmA hg
  exact went_ask h1 ⟨h2, by rw [did_raws]; omega⟩ ⟨h, hn⟩
theorem gone_2 {l0 : M} {ds : List Dd} (hg : Good l0 ds) {X : List UInt8} {s : S} (h : At l0 ds (J2 X) 0 s.l) : Went s s.gone (fun s' => At l0 ds [] 0 s'.l) (fun s' => Old l0 ds X s'.l) := by
  unfold S.gone
  rw [if_pos (by rw [h.kind jp_jN]; rfl)]
  obtain ⟨h1, h2⟩ := h.rmN hg
  refine went_bind (g := fun s' => At l0 ds J1 0 s'.l) (b := fun s' => At l0 ds (J2 X) 0 s'.l) (went_ask h1 h2 h) (fun s' hs => ?_) (fun s' hs => Or.inr (Or.inr hs))
  obtain ⟨k1, k2⟩ := hs.rmA hg
  exact went_ask k1 k2 (Or.inr (Or.inl hs))
theorem end_3 {l0 : M} {ds : List Dd} (hg : Good l0 ds) {X : List UInt8} {f : Nat} {s : S} (h : At l0 ds (J3 X) f s.l) (n : Nat) (hn : n ≤ s.raws.length) :
    Went s (s.endJ ds) (fun s' => At l0 ds [] ds.length s'.l ∧ n ≤ s'.raws.length) (fun s' => New l0 ds X s'.l ∧ n ≤ s'.raws.length) := by
  unfold S.endJ
  have hd := At.dos hg (jok_3 X) n (ds.length - 0) 0 f s rfl (Nat.zero_le _) h hn
  rw [List.drop_zero] at hd
  refine went_bind hd (fun s1 h1 => ?_) (fun s1 h1 => ⟨Or.inl h1.1, h1.2⟩)
  obtain ⟨k1, k2⟩ := h1.1.rmT hg
  refine went_bind (g := fun s' => At l0 ds J1 ds.length s'.l ∧ n ≤ s'.raws.length) (b := fun s' => At l0 ds (J3 X) ds.length s'.l ∧ n ≤ s'.raws.length) (went_ask k1 ⟨k2, by rw [did_raws]; have := h1.2; omega⟩ h1) (fun s2 h2 => ?_) (fun s2 h2 => ⟨Or.inl ⟨_, h2.1⟩, h2.2⟩)
  exact went_mono (gone_1 hg h2.1 n h2.2) (fun s' h => h) (fun s' h => ⟨Or.inr (Or.inl h.1), h.2⟩)
/-- Deeds are done, all or none. -/
def S.commit (ok : Bool) (X : List UInt8) (s : S) (ds : List Dd) : Int × S :=
  if s.left = 0 then (15, s) else if kind s.l jA ≠ 0 then (11, s) else if !ok then (44, s) else if ds = [] then (0, s)
  else S.bind (s.mkdir jA) fun s1 => S.bind (s1.write jN X) fun s2 => S.bind (s2.rename jN jT) fun s3 => s3.endJ ds
def namesOk (m : M) : Bool := (names m jA).all fun n => (decide (n = nT) || decide (n = nN)) && decide (kind m (jA ++ [47] ++ n) = 1)
/-- What was under way is ended or taken back. -/
def S.recover (parse : List UInt8 → Int × List Dd) (s : S) : Int × S :=
  if s.left = 0 then (15, s) else if kind s.l jA = 0 then (0, s) else if kind s.l jA = 1 then (44, s) else if !namesOk s.l then (44, s)
  else if kind s.l jT = 0 then s.gone else if (parse (readR s.l jT).1).1 ≠ 0 then (44, s) else s.endJ (parse (readR s.l jT).1).2
theorem At.start {l0 : M} {ds : List Dd} (hg : Good l0 ds) : At l0 ds [] 0 l0 := ⟨hg.hung.rises, by
  have h := hg.jfree
  unfold jpart at h
  unfold strip
  rw [List.filter_eq_nil_iff] at h
  show _ = l0
  rw [List.filter_eq_self]
  intro x hx
  have := h x hx
  simpa using this, hg.jfree⟩
theorem At.none {l0 : M} {ds : List Dd} {f : Nat} {m : M} (h : At l0 ds [] f m) : m = runC l0 (ds.take f) := by
  rw [← h.files]
  have h := h.own
  unfold jpart at h
  rw [List.filter_eq_nil_iff] at h
  unfold strip
  refine (List.filter_eq_self.2 fun x hx => ?_).symm
  have := h x hx
  simpa using this
theorem commit_all {l0 : M} {ds : List Dd} (hg : Good l0 ds) (X : List UInt8) {s : S} (hl : s.l = l0) (hr : s.raws = []) :
    ((s.commit true X ds).1 = 0 ∨ (s.commit true X ds).1 = 15) ∧ (((s.commit true X ds).2.raws.length < 3 ∧ Old l0 ds X (s.commit true X ds).2.l) ∨ (3 ≤ (s.commit true X ds).2.raws.length ∧ New l0 ds X (s.commit true X ds).2.l)) ∧
      ((s.commit true X ds).1 = 0 → ds ≠ [] → 3 ≤ (s.commit true X ds).2.raws.length) := by
  have h0 := At.start hg
  rw [← hl] at h0
  have hrl : s.raws.length = 0 := by rw [hr]; rfl
  unfold S.commit
  by_cases hd : s.left = 0
  · rw [if_pos hd]
    exact ⟨Or.inr rfl, Or.inl ⟨by show s.raws.length < 3; omega, Or.inl (by rw [hl] at h0 ⊢; exact h0)⟩, fun h => absurd (show (15 : Int) = 0 from h) (by decide)⟩
  rw [if_neg hd, if_neg (by rw [h0.kind jp_jA]; decide), if_neg (by decide)]
  by_cases hds : ds = []
  · rw [if_pos hds]
    exact ⟨Or.inl rfl, Or.inl ⟨by show s.raws.length < 3; omega, Or.inl (by rw [hl] at h0 ⊢; exact h0)⟩, fun _ h => absurd hds h⟩
  rw [if_neg hds]
  rw [hl] at h0
  have key : Went s (S.bind (s.mkdir jA) fun s1 => S.bind (s1.write jN X) fun s2 => S.bind (s2.rename jN jT) fun s3 => s3.endJ ds)
      (fun s' => New l0 ds X s'.l ∧ 3 ≤ s'.raws.length) (fun s' => (s'.raws.length < 3 ∧ Old l0 ds X s'.l) ∨ (3 ≤ s'.raws.length ∧ New l0 ds X s'.l)) := by
    rw [← hl] at h0
    obtain ⟨a1, a2⟩ := h0.mk1
    rw [hl] at h0
    rw [hl] at a2
    refine went_bind (g := fun s' => At l0 ds J1 0 s'.l ∧ s'.raws.length = 1) (b := fun s' => At l0 ds [] 0 s'.l ∧ s'.raws.length = 0) (went_ask a1 ⟨by rw [hl]; exact a2, by rw [did_raws, hrl]⟩ ⟨by rw [hl]; exact h0, hrl⟩) (fun s1 h1 => ?_) (fun s1 h1 => Or.inl ⟨by omega, Or.inl h1.1⟩)
    obtain ⟨b1, b2⟩ := h1.1.mk2 X
    refine went_bind (g := fun s' => At l0 ds (J2 X) 0 s'.l ∧ s'.raws.length = 2) (b := fun s' => At l0 ds J1 0 s'.l ∧ s'.raws.length = 1) (went_ask b1 ⟨b2, by rw [did_raws, h1.2]⟩ h1) (fun s2 h2 => ?_) (fun s2 h2 => Or.inl ⟨by omega, Or.inr (Or.inl h2.1)⟩)
    obtain ⟨c1, c2⟩ := h2.1.mk3
    refine went_bind (g := fun s' => At l0 ds (J3 X) 0 s'.l ∧ s'.raws.length = 3) (b := fun s' => At l0 ds (J2 X) 0 s'.l ∧ s'.raws.length = 2) (went_ask c1 ⟨c2, by rw [did_raws, h2.2]⟩ h2) (fun s3 h3 => ?_) (fun s3 h3 => Or.inl ⟨by omega, Or.inr (Or.inr h3.1)⟩)
    exact went_mono (end_3 hg h3.1 3 (by omega)) (fun s' h => ⟨Or.inr (Or.inr h.1), h.2⟩) (fun s' h => Or.inr ⟨h.2, h.1⟩)
  obtain ⟨_, ⟨e, k⟩ | ⟨e, _, k⟩⟩ := key
  · exact ⟨Or.inl e, Or.inr ⟨k.2, k.1⟩, fun _ _ => k.2⟩
  · exact ⟨Or.inr e, k, fun h => by rw [e] at h; exact absurd h (by decide)⟩
theorem names_own {m : M} (hs : ∀ x ∈ strip m, pathOk x.1 = true) : names m jA = names (jpart m) jA := by
  unfold names jpart
  rw [List.filter_filter]
  congr 1
  refine List.filter_congr fun x hx => ?_
  cases hj : jp x.1 with
  | true => simp
  | false =>
    have h1 := parent_jp (hs x (List.mem_filter.2 ⟨hx, by rw [hj]; rfl⟩)) hj
    have : parent x.1 ≠ jA := fun e => by rw [e, jp_jA] at h1; exact absurd h1 (by simp)
    simp [this]
theorem went_down {s : S} {g b : S → Prop} (h : s.left = 0) (hb : b s) : Went s (15, s) g b := ⟨fun h => h, Or.inr ⟨rfl, h, hb⟩⟩
theorem namesOk_1 {l0 : M} {ds : List Dd} (hg : Good l0 ds) {f : Nat} {m : M} (h : At l0 ds J1 f m) : namesOk m = true := by
  unfold namesOk
  rw [names_own (h.oks hg), h.own]
  rfl
theorem namesOk_2 {l0 : M} {ds : List Dd} (hg : Good l0 ds) {X : List UInt8} {f : Nat} {m : M} (h : At l0 ds (J2 X) f m) : namesOk m = true := by
  have e : names (J2 X) jA = [nN] := by rfl
  unfold namesOk
  rw [names_own (h.oks hg), h.own, e]
  have hk := h.kind jp_jN
  show ((decide (nN = nT) || decide (nN = nN)) && decide (Disk.kind m jN = 1) && true) = true
  rw [hk]
  rfl
theorem namesOk_3 {l0 : M} {ds : List Dd} (hg : Good l0 ds) {X : List UInt8} {f : Nat} {m : M} (h : At l0 ds (J3 X) f m) : namesOk m = true := by
  have e : names (J3 X) jA = [nT] := by rfl
  unfold namesOk
  rw [names_own (h.oks hg), h.own, e]
  have hk := h.kind jp_jT
  show ((decide (nT = nT) || decide (nT = nN)) && decide (Disk.kind m jT = 1) && true) = true
  rw [hk]
  rfl
theorem recover_old {l0 : M} {ds : List Dd} (hg : Good l0 ds) {X : List UInt8} (parse : List UInt8 → Int × List Dd) {s : S} (h : Old l0 ds X s.l) :
    Went s (s.recover parse) (fun s' => At l0 ds [] 0 s'.l) (fun s' => Old l0 ds X s'.l) := by
  unfold S.recover
  by_cases hd : s.left = 0
  · rw [if_pos hd]; exact went_down hd h
  rw [if_neg hd]
  rcases h with h | h | h
  · rw [if_pos (by rw [h.kind jp_jA]; rfl)]
    exact went_same h
  · rw [if_neg (by rw [h.kind jp_jA]; decide), if_neg (by rw [h.kind jp_jA]; decide), namesOk_1 hg h, if_neg (by decide), if_pos (by rw [h.kind jp_jT]; rfl)]
    exact went_mono (gone_1 hg h 0 (Nat.zero_le _)) (fun s' h => h.1) (fun s' h => Or.inr (Or.inl h.1))
  · rw [if_neg (by rw [h.kind jp_jA, show Disk.kind (J2 X) jA = 2 from rfl]; decide), if_neg (by rw [h.kind jp_jA, show Disk.kind (J2 X) jA = 2 from rfl]; decide), namesOk_2 hg h, if_neg (by decide), if_pos (by rw [h.kind jp_jT]; rfl)]
    exact gone_2 hg h
theorem recover_new {l0 : M} {ds : List Dd} (hg : Good l0 ds) {X : List UInt8} {parse : List UInt8 → Int × List Dd} (hp : parse X = (0, ds)) {s : S} (h : New l0 ds X s.l) :
    Went s (s.recover parse) (fun s' => At l0 ds [] ds.length s'.l) (fun s' => New l0 ds X s'.l) := by
  unfold S.recover
  by_cases hd : s.left = 0
  · rw [if_pos hd]; exact went_down hd h
  rw [if_neg hd]
  rcases h with ⟨f, h⟩ | h | h
  · have hr : readR s.l jT = (X, 0) := of_read ok_T (h.look jp_jT)
    rw [if_neg (by rw [h.kind jp_jA, show Disk.kind (J3 X) jA = 2 from rfl]; decide), if_neg (by rw [h.kind jp_jA, show Disk.kind (J3 X) jA = 2 from rfl]; decide), namesOk_3 hg h, if_neg (by decide), if_neg (by rw [h.kind jp_jT, show Disk.kind (J3 X) jT = 1 from rfl]; decide), hr, hp, if_neg (show ¬ (0 : Int) ≠ 0 by decide)]
    exact went_mono (end_3 hg h 0 (Nat.zero_le _)) (fun s' h => h.1) (fun s' h => h.1)
  · rw [if_neg (by rw [h.kind jp_jA]; decide), if_neg (by rw [h.kind jp_jA]; decide), namesOk_1 hg h, if_neg (by decide), if_pos (by rw [h.kind jp_jT]; rfl)]
    exact went_mono (gone_1 hg h 0 (Nat.zero_le _)) (fun s' h => h.1) (fun s' h => Or.inr (Or.inl h.1))
  · rw [if_pos (by rw [h.kind jp_jA]; rfl)]
    exact went_same h
/-- What is tried goes. -/
theorem doJ_goes {s : S} (hl : s.left = -1) {d : Dd} (h : (s.doJ d).1 = 0) : ∀ c r, coreJ s.l d = some (c, r) → c.1 = 0 := fun c r e => by
  unfold S.doJ at h
  rw [e] at h
  dsimp only at h
  unfold S.ask at h
  rw [if_neg (by omega)] at h
  by_cases hc : c.1 = 0
  · exact hc
  · rw [if_neg hc] at h; exact h
theorem doJ_next {s : S} (hl : s.left = -1) {d : Dd} (h : coreOk s.l d) : (s.doJ d).1 = 0 ∧ (s.doJ d).2.l = doesC s.l d ∧ (s.doJ d).2.left = -1 := by
  unfold coreOk at h
  unfold S.doJ
  cases hc : coreJ s.l d with
  | none =>
    rw [hc] at h
    exact ⟨rfl, h.symm, hl⟩
  | some x =>
    obtain ⟨c, r⟩ := x
    rw [hc] at h
    dsimp only
    unfold S.ask
    rw [if_neg (by omega), if_pos h.1]
    exact ⟨rfl, h.2, by show off s.left = -1; rw [hl]; rfl⟩
theorem tries_goes {l0 : M} {ds : List Dd} (hh : Hung l0) (hp : paired ds) (hk : ∀ d ∈ ds, 1 ≤ d.kind ∧ d.kind ≤ 4) : ∀ (k j : Nat) (s : S), ds.length - j = k → s.left = -1 → s.l = runC l0 (ds.take j) → s.tries (ds.drop j) = true →
    ∀ (i : Nat) (d : Dd), j ≤ i → ds[i]? = some d → want (runC l0 (ds.take i)) d = true ∧ ∀ c r, coreJ (runC l0 (ds.take i)) d = some (c, r) → c.1 = 0 := fun k => by
  induction k with
  | zero =>
    intro j s hk' _ _ _ i d hji hd
    have := (List.getElem?_eq_some_iff.1 hd).1
    omega
  | succ k ih =>
    intro j s hk' hl hs ht i d hji hd
    have hj : j < ds.length := by omega
    rw [List.drop_eq_getElem_cons hj] at ht
    obtain ⟨x, hx⟩ : ∃ x, x = ds[j] := ⟨_, rfl⟩
    have hxj : ds[j]? = some x := by rw [hx]; exact List.getElem?_eq_getElem hj
    rw [← hx] at ht
    unfold S.tries at ht
    simp only [Bool.and_eq_true, decide_eq_true_eq] at ht
    obtain ⟨t1, t2, t3⟩ := ht
    have hm := List.mem_of_getElem? hxj
    have hgo := doJ_goes hl t2
    by_cases e : j = i
    · subst e
      rw [hxj] at hd
      obtain rfl := Option.some.inj hd
      rw [← hs]
      exact ⟨t1, hgo⟩
    · have hd2 := core_done (hs ▸ hung_run hh _) (hp.1 x hm) (hk x hm) t1 hgo
      obtain ⟨_, n2, n3⟩ := doJ_next hl hd2.2
      exact ih (j + 1) _ (by omega) n3 (by rw [n2, runC_next hxj, hs]) t3 i d (by omega) hd
theorem good_of {l0 : M} {ds : List Dd} (hh : Hung l0) (hp : paired ds) (hk : ∀ d ∈ ds, 1 ≤ d.kind ∧ d.kind ≤ 4) (hf : ∀ d ∈ ds, jp d.path = false) (hj : jpart l0 = []) (ht : S.tries ⟨l0, [], -1⟩ ds = true) : Good l0 ds :=
  ⟨hh, hp, hk, hf, hj, fun i d hd => tries_goes hh hp hk (ds.length - 0) 0 ⟨l0, [], -1⟩ rfl rfl rfl (by rw [List.drop_zero]; exact ht) i d (Nat.zero_le _) hd⟩
end Disk
end Go.Proofs.YtdogacgpfnolfaaGreatDoor

namespace Go.Proofs.YtdogacgpfnolfaaGreatDoor
set_option linter.unusedSimpArgs false
set_option linter.unusedVariables false
namespace Disk
/-- All raw writes are at such paths. -/
def Pth (P : List UInt8 → Prop) (s : S) : Prop := ∀ r ∈ s.raws, P r.path
theorem ask_cases (s : S) (c : Int × M) (r : Rw) : s.ask c r = (15, s) ∨ (c.1 = 0 ∧ s.ask c r = (0, s.did c.2 r)) ∨ (c.1 ≠ 0 ∧ s.ask c r = (c.1, s)) := by
  unfold S.ask
  by_cases h0 : s.left = 0
  · rw [if_pos h0]; exact Or.inl rfl
  · rw [if_neg h0]
    by_cases hc : c.1 = 0
    · rw [if_pos hc]; exact Or.inr (Or.inl ⟨hc, rfl⟩)
    · rw [if_neg hc]; exact Or.inr (Or.inr ⟨hc, rfl⟩)
theorem pth_ask {P : List UInt8 → Prop} {s : S} {c : Int × M} {r : Rw} (h : Pth P s) (hp : P r.path) : Pth P (s.ask c r).2 := by
  rcases ask_cases s c r with e | ⟨_, e⟩ | ⟨_, e⟩ <;> rw [e]
  · exact h
  · intro x hx
    rcases List.mem_append.1 hx with hx | hx
    · exact h x hx
    · rw [List.mem_singleton.1 hx]; exact hp
  · exact h
theorem core_path {l : M} {d : Dd} {c : Int × M} {r : Rw} (h : coreJ l d = some (c, r)) : r.path = d.path := by
  unfold coreJ at h
  split at h
  · cases h; rfl
  split at h
  · cases h; rfl
  split at h
  · cases h; rfl
  · exact absurd h (by simp)
theorem pth_doJ {P : List UInt8 → Prop} {s : S} {d : Dd} (h : Pth P s) (hp : P d.path) : Pth P (s.doJ d).2 := by
  unfold S.doJ
  cases hc : coreJ s.l d with
  | none => exact h
  | some x =>
    obtain ⟨c, r⟩ := x
    exact pth_ask h (by rw [core_path hc]; exact hp)
theorem bind_all {x : Int × S} {k : S → Int × S} {Q : S → Prop} (h : Q x.2) (hk : ∀ s, Q s → Q (k s).2) : Q (S.bind x k).2 := by
  unfold S.bind
  split
  · exact hk _ h
  · exact h
theorem bind_yes {x : Int × S} {k : S → Int × S} (h : x.1 = 0) : S.bind x k = k x.2 := if_pos h
theorem bind_no {x : Int × S} {k : S → Int × S} (h : ¬ x.1 = 0) : S.bind x k = x := if_neg h
theorem pth_dos {P : List UInt8 → Prop} : ∀ (ds : List Dd) (s : S), Pth P s → (∀ d ∈ ds, P d.path) → Pth P (s.dos ds).2
  | [], s, h, _ => h
  | d :: r, s, h, hp => bind_all (Q := Pth P) (pth_doJ h (hp d List.mem_cons_self)) fun s' h' => pth_dos r s' h' fun x hx => hp x (List.mem_cons_of_mem _ hx)
theorem pth_gone {P : List UInt8 → Prop} {s : S} (h : Pth P s) (hN : P jN) (hA : P jA) : Pth P s.gone.2 := by
  unfold S.gone
  split
  · exact bind_all (Q := Pth P) (pth_ask h hN) fun s' h' => pth_ask h' hA
  · exact pth_ask h hA
theorem pth_endJ {P : List UInt8 → Prop} {s : S} {ds : List Dd} (h : Pth P s) (hp : ∀ d ∈ ds, P d.path) (hT : P jT) (hN : P jN) (hA : P jA) : Pth P (s.endJ ds).2 :=
  bind_all (Q := Pth P) (pth_dos ds s h hp) fun s1 h1 => bind_all (Q := Pth P) (pth_ask h1 hT) fun s2 h2 => pth_gone h2 hN hA
/-- The plan that stands, if one does. -/
def LT (X : List UInt8) (m : M) : Prop := SM.look m jT = none ∨ SM.look m jT = some ⟨false, X⟩
theorem core_other {l : M} {d : Dd} {c : Int × M} {r : Rw} (h : coreJ l d = some (c, r)) {q : List UInt8} (hq : q ≠ d.path) : SM.look c.2 q = SM.look l q := by
  have hput : ∀ t, SM.look (SM.put l d.path t) q = SM.look l q := fun t => by rw [SM.look_put, if_neg hq]
  have hdel : SM.look (SM.del l d.path) q = SM.look l q := by rw [SM.look_del, if_neg hq]
  unfold coreJ at h
  split at h
  · cases h
    unfold removeC
    repeat' split
    all_goals first | rfl | exact hdel
  split at h
  · cases h
    unfold mkdirC
    repeat' split
    all_goals first | rfl | exact hput _
  split at h
  · cases h
    unfold writeC
    repeat' split
    all_goals first | rfl | exact hput _
  · exact absurd h (by simp)
theorem look_ask {s : S} {c : Int × M} {r : Rw} {q : List UInt8} (hc : SM.look c.2 q = SM.look s.l q) : SM.look (s.ask c r).2.l q = SM.look s.l q := by
  rcases ask_cases s c r with e | ⟨_, e⟩ | ⟨_, e⟩ <;> rw [e]
  exact hc
theorem look_doJ {s : S} {d : Dd} {q : List UInt8} (hq : q ≠ d.path) : SM.look (s.doJ d).2.l q = SM.look s.l q := by
  unfold S.doJ
  cases hc : coreJ s.l d with
  | none => rfl
  | some x =>
    obtain ⟨c, r⟩ := x
    exact look_ask (core_other hc hq)
theorem look_dos {q : List UInt8} : ∀ (ds : List Dd) (s : S), (∀ d ∈ ds, q ≠ d.path) → SM.look (s.dos ds).2.l q = SM.look s.l q
  | [], s, _ => rfl
  | d :: r, s, h => by
    show SM.look (S.bind (s.doJ d) fun s' => s'.dos r).2.l q = _
    refine bind_all (Q := fun s' => SM.look s'.l q = SM.look s.l q) (look_doJ (h d List.mem_cons_self)) fun s' hs => ?_
    rw [look_dos r s' fun x hx => h x (List.mem_cons_of_mem _ hx)]
    exact hs
theorem look_remove_other (l : M) {p q : List UInt8} (h : q ≠ p) : SM.look (removeC l p).2 q = SM.look l q := by
  unfold removeC
  repeat' split
  all_goals first | rfl | rw [SM.look_del, if_neg h]
theorem rm_other {s : S} {p q : List UInt8} (h : q ≠ p) : SM.look (s.remove p).2.l q = SM.look s.l q := look_ask (look_remove_other s.l h)
theorem rm_lt {X : List UInt8} {s : S} (h : LT X s.l) (p : List UInt8) : LT X (s.remove p).2.l := by
  by_cases e : jT = p
  · subst e
    have hh : SM.look (removeC s.l jT).2 jT = SM.look s.l jT ∨ SM.look (removeC s.l jT).2 jT = none := by
      unfold removeC
      repeat' split
      all_goals first | exact Or.inl rfl | exact Or.inr (by rw [SM.look_del, if_pos rfl])
    rcases ask_cases s (removeC s.l jT) ⟨4, jT, []⟩ with e | ⟨_, e⟩ | ⟨_, e⟩ <;> (unfold S.remove; rw [e])
    · exact h
    · rcases hh with hh | hh
      · unfold LT at h ⊢
        show SM.look (removeC s.l jT).2 jT = none ∨ SM.look (removeC s.l jT).2 jT = _
        rw [hh]; exact h
      · exact Or.inl hh
    · exact h
  · unfold LT at h ⊢
    rw [rm_other e]
    exact h
theorem lt_gone {X : List UInt8} {s : S} (h : LT X s.l) : LT X s.gone.2.l := by
  unfold S.gone
  split
  · exact bind_all (Q := fun s' => LT X s'.l) (rm_lt h _) fun s' h' => rm_lt h' _
  · exact rm_lt h _
theorem free_ne {q : List UInt8} (hq : jp q = true) {ds : List Dd} (hf : ∀ d ∈ ds, jp d.path = false) : ∀ d ∈ ds, q ≠ d.path := fun d hd e => by
  have := hf d hd
  rw [← e, hq] at this
  exact absurd this (by simp)
theorem lt_endJ {X : List UInt8} {s : S} {ds : List Dd} (hf : ∀ d ∈ ds, jp d.path = false) (h : LT X s.l) : LT X (s.endJ ds).2.l := by
  refine bind_all (Q := fun s' => LT X s'.l) ?_ fun s1 h1 => bind_all (Q := fun s' => LT X s'.l) (rm_lt h1 _) fun s2 h2 => lt_gone h2
  unfold LT at h ⊢
  rw [look_dos ds s (free_ne jp_jT hf)]
  exact h
/-- Behind a commit: nothing was done, or the plan that stands is its own. -/
theorem commit_quiet {P : List UInt8 → Prop} {ok : Bool} {X : List UInt8} {s : S} {ds : List Dd} (hh : Hung s.l) (hr : s.raws = []) (hf : ok = true → ∀ d ∈ ds, jp d.path = false) (hp : ∀ d ∈ ds, P d.path) (hT : P jT) (hN : P jN) (hA : P jA) :
    ((s.commit ok X ds).2 = s) ∨ (ds ≠ [] ∧ ok = true ∧ Pth P (s.commit ok X ds).2 ∧ LT X (s.commit ok X ds).2.l) := by
  unfold S.commit
  by_cases h0 : s.left = 0
  · rw [if_pos h0]; exact Or.inl rfl
  rw [if_neg h0]
  by_cases hk : kind s.l jA ≠ 0
  · rw [if_pos hk]; exact Or.inl rfl
  rw [if_neg hk]
  cases ok with
  | false => rw [if_pos (by decide)]; exact Or.inl rfl
  | true =>
  rw [if_neg (by decide)]
  by_cases hd : ds = []
  · rw [if_pos hd]; exact Or.inl rfl
  rw [if_neg hd]
  have hf := hf rfl
  have hk : kind s.l jA = 0 := Decidable.byContradiction fun h => hk h
  have hA0 : SM.look s.l jA = none := by
    rw [kind_at ok_A] at hk
    cases hl : SM.look s.l jA with
    | none => rfl
    | some t => rw [hl] at hk; dsimp only at hk; split at hk <;> exact absurd hk (by decide)
  have hT0 : SM.look s.l jT = none := by
    cases hl : SM.look s.l jT with
    | none => rfl
    | some t =>
      rcases hh.housed jT t hl with h | h
      · rw [par_T] at h; exact absurd h (by decide)
      · rw [par_T, hA0] at h; exact absurd h (by simp)
  have hP0 : Pth P s := fun r hr' => by rw [hr] at hr'; exact absurd hr' (by simp)
  refine Or.inr ⟨hd, rfl, ?_, ?_⟩
  · exact bind_all (Q := Pth P) (pth_ask hP0 hA) fun s1 h1 => bind_all (Q := Pth P) (pth_ask h1 hN) fun s2 h2 => bind_all (Q := Pth P) (pth_ask h2 hN) fun s3 h3 => pth_endJ h3 hp hT hN hA
  · have m1 : SM.look (s.mkdir jA).2.l jT = none := by
      rw [← hT0]
      refine look_ask ?_
      unfold mkdirC
      repeat' split
      all_goals first | rfl | rw [SM.look_put, if_neg (by decide)]
    by_cases e1 : (s.mkdir jA).1 = 0
    · rw [bind_yes e1]
      obtain ⟨s1, hs1⟩ : ∃ x, x = (s.mkdir jA).2 := ⟨_, rfl⟩
      rw [← hs1] at m1 ⊢
      have m2 : SM.look (s1.write jN X).2.l jT = none ∧ ((s1.write jN X).1 = 0 → SM.look (s1.write jN X).2.l jN = some ⟨false, X⟩) := by
        constructor
        · rw [← m1]
          refine look_ask ?_
          unfold writeC
          repeat' split
          all_goals first | rfl | rw [SM.look_put, if_neg (by decide)]
        · intro e
          rcases ask_cases s1 (writeC s1.l jN X) ⟨2, jN, []⟩ with h | ⟨hc, h⟩ | ⟨hc, h⟩
          · unfold S.write at e; rw [h] at e; exact absurd (show (15 : Int) = 0 from e) (by decide)
          · unfold S.write
            rw [h]
            show SM.look (writeC s1.l jN X).2 jN = _
            unfold writeC at hc ⊢
            rw [ok_N] at hc ⊢
            rw [if_neg (by decide)] at hc ⊢
            split at hc
            · rename_i hh; exact absurd hc hh
            · rename_i hh
              rw [if_neg hh]
              split at hc
              · exact absurd (show (13 : Int) = 0 from hc) (by decide)
              · rename_i h2
                rw [if_neg h2]
                show SM.look (SM.put s1.l jN ⟨false, X⟩) jN = _
                rw [SM.look_put, if_pos rfl]
          · unfold S.write at e; rw [h] at e; exact absurd e hc
      by_cases e2 : (s1.write jN X).1 = 0
      · rw [bind_yes e2]
        have m3 := m2.2 e2
        obtain ⟨s2, hs2⟩ : ∃ x, x = (s1.write jN X).2 := ⟨_, rfl⟩
        rw [← hs2] at m2 m3 ⊢
        have m4 : LT X (s2.rename jN jT).2.l := by
          have hh : SM.look (renameC s2.l jN jT).2 jT = none ∨ SM.look (renameC s2.l jN jT).2 jT = some ⟨false, X⟩ := by
            unfold renameC
            repeat' split
            all_goals first | exact Or.inl m2.1 | exact Or.inr (by rw [SM.look_put, if_pos rfl, m3]; rfl)
          rcases ask_cases s2 (renameC s2.l jN jT) ⟨3, jN, jT⟩ with h | ⟨_, h⟩ | ⟨_, h⟩ <;> (unfold S.rename; rw [h])
          · exact Or.inl m2.1
          · exact hh
          · exact Or.inl m2.1
        by_cases e3 : (s2.rename jN jT).1 = 0
        · rw [bind_yes e3]; exact lt_endJ hf m4
        · rw [bind_no e3]; exact m4
      · rw [bind_no e2]; exact Or.inl m2.1
    · rw [bind_no e1]; exact Or.inl m1
/-- What a recovery writes behind it. -/
theorem recover_quiet {P : List UInt8 → Prop} {parse : List UInt8 → Int × List Dd} {X : List UInt8} {s : S} {ds : List Dd} (hX : parse X = (0, ds)) (h : Pth P s) (hl : LT X s.l) (hp : ∀ d ∈ ds, P d.path) (hT : P jT) (hN : P jN) (hA : P jA) : Pth P (s.recover parse).2 := by
  unfold S.recover
  split
  · exact h
  split
  · exact h
  split
  · exact h
  split
  · exact h
  split
  · exact pth_gone h hN hA
  · rename_i hk
    rcases hl with hl | hl
    · rw [kind_at ok_T, hl] at hk; exact absurd rfl hk
    · rw [of_read ok_T hl, hX, if_neg (show ¬ (0 : Int) ≠ 0 by decide)]
      exact pth_endJ h hp hT hN hA
theorem recover_none {parse : List UInt8 → Int × List Dd} {s : S} (hl : s.left ≠ 0) (h : kind s.l jA = 0) : s.recover parse = (0, s) := by
  unfold S.recover
  rw [if_neg hl, if_pos h]
/-- What leaves the power on. -/
theorem up_ask {s : S} {c : Int × M} {r : Rw} (h : s.left = -1) : (s.ask c r).2.left = -1 := by
  rcases ask_cases s c r with e | ⟨_, e⟩ | ⟨_, e⟩ <;> rw [e]
  · exact h
  · show off s.left = -1
    rw [h]; rfl
  · exact h
theorem up_doJ {s : S} {d : Dd} (h : s.left = -1) : (s.doJ d).2.left = -1 := by
  unfold S.doJ
  cases coreJ s.l d with
  | none => exact h
  | some x => exact up_ask h
theorem up_dos : ∀ (ds : List Dd) (s : S), s.left = -1 → (s.dos ds).2.left = -1
  | [], s, h => h
  | d :: r, s, h => bind_all (Q := fun s' => s'.left = -1) (up_doJ h) fun s' h' => up_dos r s' h'
theorem up_gone {s : S} (h : s.left = -1) : s.gone.2.left = -1 := by
  unfold S.gone
  split
  · exact bind_all (Q := fun s' => s'.left = -1) (up_ask h) fun s' h' => up_ask h'
  · exact up_ask h
theorem up_endJ {s : S} {ds : List Dd} (h : s.left = -1) : (s.endJ ds).2.left = -1 :=
  bind_all (Q := fun s' => s'.left = -1) (up_dos ds s h) fun s1 h1 => bind_all (Q := fun s' => s'.left = -1) (up_ask h1) fun s2 h2 => up_gone h2
theorem up_recover {parse : List UInt8 → Int × List Dd} {s : S} (h : s.left = -1) : (s.recover parse).2.left = -1 := by
  unfold S.recover
  repeat' split
  all_goals first | exact h | exact up_gone h | exact up_endJ h
/-- What leaves a disk whole. -/
theorem hung_ask {s : S} {c : Int × M} {r : Rw} (h : Hung s.l) (hc : Hung c.2) : Hung (s.ask c r).2.l := by
  rcases ask_cases s c r with e | ⟨_, e⟩ | ⟨_, e⟩ <;> rw [e]
  · exact h
  · exact hc
  · exact h
theorem hung_doJ {s : S} {d : Dd} (h : Hung s.l) : Hung (s.doJ d).2.l := by
  unfold S.doJ
  cases hc : coreJ s.l d with
  | none => exact h
  | some x =>
    obtain ⟨c, r⟩ := x
    refine hung_ask h ?_
    unfold coreJ at hc
    split at hc
    · cases hc; exact hung_removeC h _
    split at hc
    · cases hc; exact hung_mkdirC h _
    split at hc
    · cases hc; exact hung_writeC h _ _
    · exact absurd hc (by simp)
theorem hung_dos : ∀ (ds : List Dd) (s : S), Hung s.l → Hung (s.dos ds).2.l
  | [], s, h => h
  | d :: r, s, h => bind_all (Q := fun s' => Hung s'.l) (hung_doJ h) fun s' h' => hung_dos r s' h'
theorem hung_gone {s : S} (h : Hung s.l) : Hung s.gone.2.l := by
  unfold S.gone
  split
  · exact bind_all (Q := fun s' => Hung s'.l) (hung_ask h (hung_removeC h _)) fun s' h' => hung_ask h' (hung_removeC h' _)
  · exact hung_ask h (hung_removeC h _)
theorem hung_endJ {s : S} {ds : List Dd} (h : Hung s.l) : Hung (s.endJ ds).2.l :=
  bind_all (Q := fun s' => Hung s'.l) (hung_dos ds s h) fun s1 h1 => bind_all (Q := fun s' => Hung s'.l) (hung_ask h1 (hung_removeC h1 _)) fun s2 h2 => hung_gone h2
theorem hung_recover {parse : List UInt8 → Int × List Dd} {s : S} (h : Hung s.l) : Hung (s.recover parse).2.l := by
  unfold S.recover
  repeat' split
  all_goals first | exact h | exact hung_gone h | exact hung_endJ h
theorem hung_commit {ok : Bool} {X : List UInt8} {s : S} {ds : List Dd} (h : Hung s.l) : Hung (s.commit ok X ds).2.l := by
  unfold S.commit
  split
  · exact h
  split
  · exact h
  split
  · exact h
  split
  · exact h
  exact bind_all (Q := fun s' => Hung s'.l) (hung_ask h (hung_mkdirC h _)) fun s1 h1 => bind_all (Q := fun s' => Hung s'.l) (hung_ask h1 (hung_writeC h1 _ _)) fun s2 h2 =>
    bind_all (Q := fun s' => Hung s'.l) (hung_ask h2 (hung_renameC h2 _ _)) fun s3 h3 => hung_endJ h3
/-- A removal that was answered OK. -/
theorem rm_ok {s : S} {p : List UInt8} (h : (s.remove p).1 = 0) : SM.look (s.remove p).2.l p = none := by
  rcases ask_cases s (removeC s.l p) ⟨4, p, []⟩ with e | ⟨hc, e⟩ | ⟨hc, e⟩
  · unfold S.remove at h; rw [e] at h; exact absurd (show (15 : Int) = 0 from h) (by decide)
  · unfold S.remove
    rw [e]
    show SM.look (removeC s.l p).2 p = none
    unfold removeC at hc ⊢
    split at hc
    · exact absurd (show (10 : Int) = 0 from hc) (by decide)
    · rename_i h1
      rw [if_neg h1]
      split at hc
      · exact absurd (show (12 : Int) = 0 from hc) (by decide)
      · rename_i h2
        rw [if_neg h2]
        split at hc
        · exact absurd (show (14 : Int) = 0 from hc) (by decide)
        · rename_i h3
          rw [if_neg h3]
          show SM.look (SM.del s.l p) p = none
          rw [SM.look_del, if_pos rfl]
  · unfold S.remove at h; rw [e] at h; exact absurd h hc
theorem rm_no {s : S} {p : List UInt8} (h : (s.remove p).1 ≠ 0) : (s.remove p).2 = s := by
  rcases ask_cases s (removeC s.l p) ⟨4, p, []⟩ with e | ⟨hc, e⟩ | ⟨hc, e⟩
  · unfold S.remove; rw [e]
  · unfold S.remove at h; rw [e] at h; exact absurd rfl h
  · unfold S.remove; rw [e]
theorem kindA_of {m m' : M} (h : SM.look m' jA = SM.look m jA) : kind m' jA = kind m jA := by
  rw [kind_at ok_A, kind_at ok_A, h]
theorem kindA_none {m : M} (h : SM.look m jA = none) : kind m jA = 0 := by rw [kind_at ok_A, h]
/-- It goes, or stands. -/
def Ends (m : M) (x : Int × S) : Prop := (x.1 = 0 → kind x.2.l jA = 0) ∧ (x.1 ≠ 0 → kind x.2.l jA = kind m jA)
theorem ends_rmA (s : S) : Ends s.l (s.remove jA) := ⟨fun h => kindA_none (rm_ok h), fun h => by rw [rm_no h]⟩
theorem ends_bind {m : M} {x : Int × S} {k : S → Int × S} (h : kind x.2.l jA = kind m jA) (hk : Ends x.2.l (k x.2)) : Ends m (S.bind x k) := by
  unfold S.bind
  split
  · exact ⟨hk.1, fun e => (hk.2 e).trans h⟩
  · rename_i e
    exact ⟨fun e' => absurd e' e, fun _ => h⟩
theorem ends_gone (s : S) : Ends s.l s.gone := by
  unfold S.gone
  split
  · exact ends_bind (kindA_of (rm_other (by decide))) (ends_rmA _)
  · exact ends_rmA s
theorem ends_endJ {s : S} {ds : List Dd} (hf : ∀ d ∈ ds, jp d.path = false) : Ends s.l (s.endJ ds) :=
  ends_bind (kindA_of (look_dos ds s (free_ne jp_jA hf))) (ends_bind (kindA_of (rm_other (by decide))) (ends_gone _))
/-- Behind a recovery the journal is gone, or was not touched. -/
theorem ends_recover {parse : List UInt8 → Int × List Dd} (hf : ∀ T ds, parse T = (0, ds) → ∀ d ∈ ds, jp d.path = false) {s : S} (hl : s.left ≠ 0) : Ends s.l (s.recover parse) := by
  unfold S.recover
  rw [if_neg hl]
  split
  · rename_i h; exact ⟨fun _ => h, fun _ => rfl⟩
  split
  · exact ⟨fun e => absurd (show (44 : Int) = 0 from e) (by decide), fun _ => rfl⟩
  split
  · exact ⟨fun e => absurd (show (44 : Int) = 0 from e) (by decide), fun _ => rfl⟩
  split
  · exact ends_gone s
  split
  · exact ⟨fun e => absurd (show (44 : Int) = 0 from e) (by decide), fun _ => rfl⟩
  · rename_i e
    refine ends_endJ (hf (readR s.l jT).1 _ ?_)
    have e : (parse (readR s.l jT).1).1 = 0 := Decidable.byContradiction fun h => e h
    rw [← e]
/-- A recovery that fails has something that stands. -/
theorem recover_fails {parse : List UInt8 → Int × List Dd} (hf : ∀ T ds, parse T = (0, ds) → ∀ d ∈ ds, jp d.path = false) {s : S} (hl : s.left ≠ 0) (h : (s.recover parse).1 ≠ 0) : kind (s.recover parse).2.l jA ≠ 0 := by
  rw [(ends_recover hf hl).2 h]
  intro e
  rw [recover_none hl e] at h
  exact h rfl
end Disk
end Go.Proofs.YtdogacgpfnolfaaGreatDoor
