/- Plain words: a text as lines of words: no program stands here. -/
import Derived.Test.YtjiifieafnjpgaaDoorCuts
namespace Go.Proofs.YtjiifieafnjpgaaDoor
namespace Scan
open Cut
def letter (c : UInt8) : Bool := decide (33 ≤ c.toNat) && decide (c.toNat ≤ 126)
theorem letter_iff {c : UInt8} : letter c = true ↔ 33 ≤ c.toNat ∧ c.toNat ≤ 126 := by simp [letter]
/-- Is a text a word? -/
def isW (p : List UInt8) : Bool := !p.isEmpty && p.all letter
def lineOk (p : List UInt8) : Bool := (cuts 32 p).all isW
/-- The lines' words; or the number of the first line that is none. -/
def scanL (k : Nat) : List (List UInt8) → Nat ⊕ List (List (List UInt8))
  | [] => .inr []
  | [p] => if p.isEmpty then .inr [] else .inl k
  | p :: q :: r => if lineOk p = true then
      (match scanL (k + 1) (q :: r) with
      | .inr ls => .inr (cuts 32 p :: ls)
      | .inl n => .inl n) else .inl k
/-- What Lines makes of a text. -/
def spec (l : List UInt8) : Nat ⊕ List (List (List UInt8)) := scanL 1 (cuts 10 l)
def unline (ws : List (List UInt8)) : List UInt8 := glue 32 ws ++ [10]
def unlines (done : List (List (List UInt8))) : List UInt8 := (done.map unline).flatten
def flat (ws : List (List UInt8)) : List UInt8 := (ws.map (· ++ [32])).flatten
def GoodL (done : List (List (List UInt8))) : Prop := ∀ ws ∈ done, ws ≠ [] ∧ ∀ p ∈ ws, isW p = true
theorem isW_ne {p : List UInt8} (h : isW p = true) : p ≠ [] := by rintro rfl; simp [isW] at h
theorem isW_all {p : List UInt8} (h : isW p = true) : ∀ c ∈ p, letter c = true := by
  simp only [isW, Bool.and_eq_true, List.all_eq_true] at h
  exact h.2
theorem isW_of {p : List UInt8} (h : p ≠ []) (ha : ∀ c ∈ p, letter c = true) : isW p = true := by
  simp only [isW, Bool.and_eq_true, List.all_eq_true]
  exact ⟨by simpa using h, ha⟩
theorem free_of {p : List UInt8} {d : UInt8} (hd : letter d = false) (ha : ∀ c ∈ p, letter c = true) : d ∉ p := fun h => by
  have := ha d h
  rw [hd] at this
  exact absurd this (by simp)
theorem l32 : letter 32 = false := by decide
theorem l10 : letter 10 = false := by decide
theorem glue_snoc (d : UInt8) (ws : List (List UInt8)) (p : List UInt8) : glue d (ws ++ [p]) = (ws.map (· ++ [d])).flatten ++ p := by
  induction ws with
  | nil => simp [glue]
  | cons w ws ih =>
    cases ws with
    | nil => simp [glue]
    | cons x r =>
      show w ++ d :: glue d ((x :: r) ++ [p]) = _
      rw [ih]
      simp
theorem flat_snoc (ws : List (List UInt8)) (p : List UInt8) : flat (ws ++ [p]) = flat ws ++ p ++ [32] := by simp [flat]
theorem unlines_snoc (done : List (List (List UInt8))) (ws : List (List UInt8)) (p : List UInt8) : unlines (done ++ [ws ++ [p]]) = unlines done ++ (flat ws ++ p ++ [10]) := by
  simp only [unlines, List.map_append, List.flatten_append, List.map_cons, List.map_nil, List.flatten_cons, List.flatten_nil, List.append_nil, unline]
  rw [glue_snoc]
  rfl
theorem mem_flat {ws : List (List UInt8)} (h : ∀ w ∈ ws, isW w = true) : (10 : UInt8) ∉ flat ws := by
  intro k
  simp only [flat, List.mem_flatten, List.mem_map] at k
  obtain ⟨l, ⟨w, hw, rfl⟩, hk⟩ := k
  rcases List.mem_append.1 hk with hk | hk
  · exact free_of l10 (isW_all (h w hw)) hk
  · simp at hk
theorem mem_glue {ws : List (List UInt8)} (h : ∀ w ∈ ws, isW w = true) : (10 : UInt8) ∉ glue 32 ws := by
  rcases List.eq_nil_or_concat ws with rfl | ⟨r, p, rfl⟩
  · simp [glue]
  · simp only [List.concat_eq_append] at h ⊢
    rw [glue_snoc]
    intro k
    rcases List.mem_append.1 k with k | k
    · exact mem_flat (fun w hw => h w (List.mem_append_left _ hw)) k
    · exact free_of l10 (isW_all (h p (List.mem_append_right _ (List.mem_singleton.2 rfl)))) k
theorem cuts_unlines {done : List (List (List UInt8))} (h : GoodL done) (rest : List UInt8) : cuts 10 (unlines done ++ rest) = done.map (glue 32) ++ cuts 10 rest := by
  induction done with
  | nil => rfl
  | cons ws done ih =>
    have hw := h ws List.mem_cons_self
    have e : unlines (ws :: done) ++ rest = glue 32 ws ++ 10 :: (unlines done ++ rest) := by simp [unlines, unline]
    rw [e, cuts_append (mem_glue hw.2), ih fun x hx => h x (List.mem_cons_of_mem _ hx)]
    rfl
theorem line_good {ws : List (List UInt8)} (hne : ws ≠ []) (h : ∀ w ∈ ws, isW w = true) : cuts 32 (glue 32 ws) = ws ∧ lineOk (glue 32 ws) = true := by
  have e := cuts_glue hne fun p hp => free_of l32 (isW_all (h p hp))
  refine ⟨e, ?_⟩
  unfold lineOk
  rw [e, List.all_eq_true]
  exact h
theorem scanL_good {done : List (List (List UInt8))} (h : GoodL done) : ∀ (k : Nat) (X : List (List UInt8)), X ≠ [] → scanL k (done.map (glue 32) ++ X) = match scanL (k + done.length) X with
    | .inr ls => .inr (done ++ ls)
    | .inl n => .inl n := by
  induction done with
  | nil =>
    intro k X hX
    simp only [List.map_nil, List.nil_append, List.length_nil, Nat.add_zero]
    cases scanL k X <;> rfl
  | cons ws done ih =>
    intro k X hX
    have hw := h ws List.mem_cons_self
    obtain ⟨e1, e2⟩ := line_good hw.1 hw.2
    have ih' := ih (fun x hx => h x (List.mem_cons_of_mem _ hx)) (k + 1) X hX
    obtain ⟨q, r, hq⟩ : ∃ q r, done.map (glue 32) ++ X = q :: r := by
      cases hd : done.map (glue 32) ++ X with
      | nil => exact absurd (List.append_eq_nil_iff.1 hd).2 hX
      | cons q r => exact ⟨q, r, rfl⟩
    simp only [List.map_cons, List.cons_append, hq]
    rw [hq] at ih'
    simp only [scanL, e2, if_true, ih', e1, List.length_cons]
    rw [show k + 1 + done.length = k + (done.length + 1) by omega]
    cases scanL (k + (done.length + 1)) X <;> rfl
theorem spec_done {done : List (List (List UInt8))} (h : GoodL done) : spec (unlines done) = .inr done := by
  have e := cuts_unlines h []
  rw [List.append_nil] at e
  unfold spec
  rw [e, scanL_good h 1 _ (cuts_ne _ _)]
  simp [cuts, scanL]
theorem spec_bad {done : List (List (List UInt8))} (h : GoodL done) {rest : List UInt8} (hne : rest ≠ []) (hb : ∀ p q r, cuts 10 rest = p :: q :: r → lineOk p = false) : spec (unlines done ++ rest) = .inl (done.length + 1) := by
  unfold spec
  rw [cuts_unlines h, scanL_good h 1 _ (cuts_ne _ _)]
  have e : scanL (1 + done.length) (cuts 10 rest) = .inl (1 + done.length) := by
    rcases hc : cuts 10 rest with _ | ⟨p, _ | ⟨q, r⟩⟩
    · exact absurd hc (cuts_ne _ _)
    · have hp : p = rest := by
        have := glue_cuts 10 rest
        rw [hc] at this
        exact this
      subst hp
      simp [scanL, hne]
    · have := hb p q r hc
      simp [scanL, this]
  rw [e]
  simp only [Sum.inl.injEq]
  omega
theorem cuts_pre {d : UInt8} {u X p : List UInt8} {r : List (List UInt8)} (hu : d ∉ u) (e : cuts d X = p :: r) : cuts d (u ++ X) = (u ++ p) :: r := by
  induction u with
  | nil => exact e
  | cons c u ih =>
    have hc : c ≠ d := fun k => hu (by rw [k]; exact List.mem_cons_self)
    exact cuts_miss hc (ih fun k => hu (List.mem_cons_of_mem _ k))
theorem cuts_flat {ws : List (List UInt8)} (h : ∀ w ∈ ws, isW w = true) (X : List UInt8) : cuts 32 (flat ws ++ X) = ws ++ cuts 32 X := by
  induction ws with
  | nil => rfl
  | cons w ws ih =>
    have e : flat (w :: ws) ++ X = w ++ 32 :: (flat ws ++ X) := by simp [flat]
    rw [e, cuts_append (free_of l32 (isW_all (h w List.mem_cons_self))), ih fun x hx => h x (List.mem_cons_of_mem _ hx)]
    rfl
theorem isW_bad {p : List UInt8} {c : UInt8} (hc : letter c = false) (h : c ∈ p) : isW p = false := by
  cases e : isW p
  · rfl
  · have := isW_all e c h
    rw [hc] at this
    exact absurd this (by simp)
/-- A line in which a letter stands that may not stand there. -/
theorem bad_line {ws : List (List UInt8)} {p t : List UInt8} {c : UInt8} (hw : ∀ w ∈ ws, isW w = true) (hp : ∀ x ∈ p, letter x = true) (hc : letter c = false) (hx : p = [] ∨ (c ≠ 32 ∧ c ≠ 10)) :
    ∀ P q r, cuts 10 (flat ws ++ (p ++ c :: t)) = P :: q :: r → lineOk P = false := by
  intro P q r hP
  obtain ⟨P1, r1, e1⟩ := cuts_exists 10 (c :: t)
  have e2 := cuts_pre (u := p) (free_of l10 hp) e1
  have e3 := cuts_pre (u := flat ws) (mem_flat hw) e2
  rw [e3] at hP
  obtain ⟨rfl, _⟩ := List.cons.inj hP
  have hh : ∃ h y, cuts 32 (p ++ P1) = h :: y ∧ isW h = false := by
    by_cases h10 : c = 10
    · have hpn : p = [] := hx.elim id fun k => absurd h10 k.2
      subst hpn
      rw [h10, cuts_hit] at e1
      obtain ⟨rfl, _⟩ := List.cons.inj e1
      exact ⟨[], [], rfl, rfl⟩
    · obtain ⟨P2, r2, e4⟩ := cuts_exists 10 t
      rw [cuts_miss h10 e4] at e1
      obtain ⟨rfl, _⟩ := List.cons.inj e1
      by_cases h32 : c = 32
      · have hpn : p = [] := hx.elim id fun k => absurd h32 k.1
        subst hpn
        rw [h32]
        exact ⟨[], _, cuts_hit 32 P2, rfl⟩
      · obtain ⟨z, r3, e5⟩ := cuts_exists 32 P2
        have e6 := cuts_pre (u := p) (free_of l32 hp) (cuts_miss h32 e5)
        exact ⟨_, _, e6, isW_bad hc (List.mem_append_right _ List.mem_cons_self)⟩
  obtain ⟨h, y, e7, e8⟩ := hh
  unfold lineOk
  rw [cuts_flat hw, e7]
  simp [e8]
/-- Where a run of Lines stands: the lines done, the words of this line, the letters of this word. -/
structure St (T : List UInt8) (k : Nat) (done : List (List (List UInt8))) (ws : List (List UInt8)) (p : List UInt8) : Prop where
  eq : T.take k = unlines done ++ (flat ws ++ p)
  le : k ≤ T.length
  good : GoodL done
  gw : ∀ w ∈ ws, isW w = true
  gp : ∀ c ∈ p, letter c = true
theorem St.start (T : List UInt8) : St T 0 [] [] [] := ⟨by simp [unlines, flat], Nat.zero_le _, fun ws h => by simp at h, fun w h => by simp at h, fun c h => by simp at h⟩
theorem St.plen {T k done ws p} (h : St T k done ws p) : p.length ≤ k := by
  have := congrArg List.length h.eq
  simp only [List.length_take, List.length_append] at this
  omega
theorem St.word {T k done ws p} (h : St T k done ws p) : (T.drop (k - p.length)).take p.length = p := by
  have hl := h.plen
  have e : T.take k = (unlines done ++ flat ws) ++ p := by rw [h.eq]; simp
  have h1 : (T.take k).drop (k - p.length) = p := by
    rw [e]
    have : k - p.length = (unlines done ++ flat ws).length := by
      have := congrArg List.length e
      have hle := h.le
      simp only [List.length_take, List.length_append] at this ⊢
      omega
    rw [this, List.drop_left]
  rw [List.drop_take] at h1
  rw [show k - (k - p.length) = p.length by omega] at h1
  exact h1
theorem St.done {T k done} (h : St T k done [] []) (hk : k = T.length) : spec T = .inr done := by
  have := h.eq
  rw [hk, List.take_length] at this
  simp only [flat, List.map_nil, List.flatten_nil, List.append_nil] at this
  rw [this]
  exact spec_done h.good
theorem St.take_succ {T : List UInt8} {k : Nat} {c : UInt8} (hc : T[k]? = some c) : T.take (k + 1) = T.take k ++ [c] := by
  rw [List.take_add_one, hc]; rfl
theorem St.more {T k done ws p c} (h : St T k done ws p) (hc : T[k]? = some c) (hl : letter c = true) : St T (k + 1) done ws (p ++ [c]) := by
  have hk := (List.getElem?_eq_some_iff.1 hc).1
  exact ⟨by rw [St.take_succ hc, h.eq]; simp, hk, h.good, h.gw, fun x hx => (List.mem_append.1 hx).elim (h.gp x) fun k => by rw [List.mem_singleton.1 k]; exact hl⟩
theorem St.space {T k done ws p} (h : St T k done ws p) (hc : T[k]? = some 32) (hp : p ≠ []) : St T (k + 1) done (ws ++ [p]) [] := by
  have hk := (List.getElem?_eq_some_iff.1 hc).1
  refine ⟨by rw [St.take_succ hc, h.eq, flat_snoc]; simp, hk, h.good, fun x hx => (List.mem_append.1 hx).elim (h.gw x) fun k => by rw [List.mem_singleton.1 k]; exact isW_of hp h.gp, fun c h => by simp at h⟩
theorem St.newline {T k done ws p} (h : St T k done ws p) (hc : T[k]? = some 10) (hp : p ≠ []) : St T (k + 1) (done ++ [ws ++ [p]]) [] [] := by
  have hk := (List.getElem?_eq_some_iff.1 hc).1
  refine ⟨by rw [St.take_succ hc, h.eq, unlines_snoc]; simp [flat], hk, ?_, fun x hx => by simp at hx, fun c h => by simp at h⟩
  intro x hx
  rcases List.mem_append.1 hx with hx | hx
  · exact h.good x hx
  · rw [List.mem_singleton.1 hx]
    exact ⟨by simp, fun y hy => (List.mem_append.1 hy).elim (h.gw y) fun k => by rw [List.mem_singleton.1 k]; exact isW_of hp h.gp⟩
theorem St.endBad {T k done ws p} (h : St T k done ws p) (hk : k = T.length) (hs : (unlines done).length < T.length) : spec T = .inl (done.length + 1) := by
  have e := h.eq
  rw [hk, List.take_length] at e
  rw [e]
  refine spec_bad h.good (fun k => ?_) fun P q r hP => ?_
  · rw [k] at e
    rw [e] at hs
    simp at hs
  · rw [cuts_one] at hP
    · simp at hP
    · intro m
      rcases List.mem_append.1 m with m | m
      · exact mem_flat h.gw m
      · exact free_of l10 h.gp m
theorem St.bad {T k done ws p c} (h : St T k done ws p) (hc : T[k]? = some c) (hl : letter c = false) (hx : p = [] ∨ (c ≠ 32 ∧ c ≠ 10)) : spec T = .inl (done.length + 1) := by
  have hk := (List.getElem?_eq_some_iff.1 hc)
  have e : T = unlines done ++ (flat ws ++ (p ++ c :: T.drop (k + 1))) := by
    have e1 : T = T.take k ++ T.drop k := (List.take_append_drop k T).symm
    rw [h.eq, List.drop_eq_getElem_cons hk.1, hk.2] at e1
    simpa using e1
  rw [e]
  exact spec_bad h.good (by simp) (bad_line h.gw h.gp hl hx)
end Scan
end Go.Proofs.YtjiifieafnjpgaaDoor
