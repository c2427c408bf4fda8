/- A plan's text is read as it was written, and written as it was read: plain words. -/
import Derived.Test.YtnbjdfiembbmmaaDoorPlanParseP
import Derived.Test.YtnbjdfiembbmmaaDoorScanPlain
namespace Go.Proofs.YtnbjdfiembbmmaaDoor
set_option linter.unusedSimpArgs false
set_option linter.unusedVariables false
namespace Plan
/-- A deed's words. -/
def wordsOf (d : D) : List (List UInt8) := if d.kind = 4 then [word d.kind, d.path, hexOf d.data] else [word d.kind, d.path]
theorem unline_words (d : D) : Scan.unline (wordsOf d) = line d := by
  unfold wordsOf line Scan.unline
  split <;> simp [Cut.glue]
theorem text_lines (ds : List D) : text ds = Scan.unlines ([planW] :: ds.map wordsOf) := by
  have : Scan.unlines (ds.map wordsOf) = lines ds := by
    induction ds with
    | nil => rfl
    | cons d r ih =>
      show Scan.unline (wordsOf d) ++ Scan.unlines (r.map wordsOf) = line d ++ lines r
      rw [unline_words, ih]
  show _ = Scan.unline [planW] ++ Scan.unlines (ds.map wordsOf)
  rw [this]
  rfl
theorem letter_P {c : UInt8} (h : letterP c = true ∨ c = 47) : Scan.letter c = true := by
  have h1 := u8_all (p := fun c => !(letterP c || c == 47) || Scan.letter c) (by decide +kernel) c
  rcases h with h | h
  · simp [h] at h1; exact h1
  · subst h; decide
theorem glue_letters {f : UInt8 → Bool} (h47 : f 47 = true) : ∀ (ps : List (List UInt8)), (∀ p ∈ ps, p.all f = true) → (Cut.glue 47 ps).all f = true
  | [], _ => rfl
  | [p], h => h p List.mem_cons_self
  | p :: q :: r, h => by
    show (p ++ 47 :: Cut.glue 47 (q :: r)).all f = true
    rw [List.all_append, List.all_cons, h p List.mem_cons_self, h47, glue_letters h47 (q :: r) fun x hx => h x (List.mem_cons_of_mem _ hx)]
    rfl
/-- A path is a word. -/
theorem path_word {p : List UInt8} (h : pathOk p = true) : Scan.isW p = true := by
  cases p with
  | nil => exact absurd h (by simp [pathOk])
  | cons c r =>
    simp only [pathOk, Bool.and_eq_true, decide_eq_true_eq, List.all_eq_true] at h
    obtain ⟨rfl, _, h2⟩ := h
    have hr : r.all Scan.letter = true := by
      rw [← Cut.glue_cuts 47 r]
      refine glue_letters (by decide) _ fun q hq => ?_
      have := h2 q hq
      simp only [partOk, Bool.and_eq_true, List.all_eq_true] at this
      exact List.all_eq_true.2 fun x hx => letter_P (Or.inl (this.2.2.2.2 x hx))
    unfold Scan.isW
    rw [List.all_cons, hr]
    rfl
theorem dig_letter (n : Nat) (h : n < 16) : Scan.letter (dig n) = true := by
  have : ∀ n : Fin 16, Scan.letter (dig n.val) = true := by decide
  exact this ⟨n, h⟩
theorem hexs_letters (l : List UInt8) : (hexs l).all Scan.letter = true := by
  induction l with
  | nil => rfl
  | cons c l ih =>
    have h := c.toNat_lt
    show (dig (c.toNat / 16) :: dig (c.toNat % 16) :: hexs l).all Scan.letter = true
    rw [List.all_cons, List.all_cons, dig_letter _ (by omega), dig_letter _ (by omega), ih]
    rfl
theorem hexOf_word (l : List UInt8) : Scan.isW (hexOf l) = true := by
  unfold hexOf
  split
  · decide
  · unfold Scan.isW
    rw [hexs_letters]
    cases l with
    | nil => contradiction
    | cons c l => rfl
theorem kind_word {k : Int} (h1 : 1 ≤ k) (h4 : k ≤ 4) : kindOf (word k) = k ∧ Scan.isW (word k) = true := by
  have hk14 : k = 1 ∨ k = 2 ∨ k = 3 ∨ k = 4 := by omega
  rcases hk14 with rfl | rfl | rfl | rfl <;> decide
theorem words_good {ds : List D} (h : ∀ d ∈ ds, 1 ≤ d.kind ∧ d.kind ≤ 4 ∧ (d.kind = 4 ∨ d.data = []) ∧ pathOk d.path = true ∧ free d.path = true) : Scan.GoodL (ds.map wordsOf) := by
  intro ws hws
  obtain ⟨d, hd, rfl⟩ := List.mem_map.1 hws
  obtain ⟨h1, h2, _, h3, _⟩ := h d hd
  have hw := (kind_word h1 h2).2
  have hp := path_word h3
  have hx := hexOf_word d.data
  unfold wordsOf
  split
  · exact ⟨by simp, fun p hp' => by
      simp at hp'
      rcases hp' with rfl | rfl | rfl
      · exact hw
      · exact hp
      · exact hx⟩
  · exact ⟨by simp, fun p hp' => by
      simp at hp'
      rcases hp' with rfl | rfl
      · exact hw
      · exact hp⟩
theorem lines_good {ds : List D} (h : ∀ d ∈ ds, 1 ≤ d.kind ∧ d.kind ≤ 4 ∧ (d.kind = 4 ∨ d.data = []) ∧ pathOk d.path = true ∧ free d.path = true) : Scan.GoodL ([planW] :: ds.map wordsOf) := by
  intro ws hws
  rcases List.mem_cons.1 hws with rfl | hws
  · exact ⟨by simp, fun p hp => by simp at hp; subst hp; decide⟩
  · exact words_good h ws hws
theorem parse_words {d : D} (h1 : 1 ≤ d.kind) (h2 : d.kind ≤ 4) (h3 : d.kind = 4 ∨ d.data = []) : parseLine (wordsOf d) = some d := by
  obtain ⟨k, p, x⟩ := d
  have hw := (kind_word h1 h2).1
  unfold wordsOf
  by_cases hk : k = 4
  · subst hk
    simp only [if_true]
    show (if kindOf (word 4) = 4 then (dataOf (hexOf x)).map (fun y => (⟨4, p, y⟩ : D)) else none) = _
    rw [show kindOf (word 4) = 4 from hw, if_pos rfl, data_hex]
    rfl
  · rw [if_neg hk]
    have hx : x = [] := h3.resolve_left hk
    subst hx
    show (if kindOf (word k) = 4 then none else some (⟨kindOf (word k), p, []⟩ : D)) = _
    rw [show kindOf (word k) = k from hw, if_neg hk]
theorem parseAll_words : ∀ {ds : List D}, (∀ d ∈ ds, 1 ≤ d.kind ∧ d.kind ≤ 4 ∧ (d.kind = 4 ∨ d.data = []) ∧ pathOk d.path = true ∧ free d.path = true) → parseAll (ds.map wordsOf) = some ds
  | [], _ => rfl
  | d :: r, h => by
    obtain ⟨h1, h2, h3, _⟩ := h d List.mem_cons_self
    have ih := parseAll_words fun x hx => h x (List.mem_cons_of_mem _ hx)
    simp only [List.map_cons, parseAll, parse_words h1 h2 h3, ih]
/-- What is written is read. -/
theorem parse_text {ds : List D} (h : ok ds = true) : parse (text ds) = (0, ds) := by
  have hall := ok_all h
  unfold parse
  rw [text_lines, show Scan.spec (Scan.unlines ([planW] :: ds.map wordsOf)) = .inr ([planW] :: ds.map wordsOf) by
    have := Scan.spec_append (lines_good hall) []
    rw [List.append_nil] at this
    rw [this]
    show Sum.inr _ = _
    rw [List.append_nil]]
  simp only [if_true, parseAll_words hall, h]
theorem val_inj {c : UInt8} {x : Nat} (h : val c = some x) : c = dig x := by
  have h1 := u8_all (p := fun c => match val c with | some x => c == dig x | none => true) (by decide +kernel) c
  simp only [h] at h1
  exact beq_iff_eq.1 h1
theorem hexs_unhex : ∀ (l y : List UInt8), unhex l = some y → hexs y = l
  | [], y, h => by simp [unhex] at h; subst h; rfl
  | [_], y, h => by simp [unhex] at h
  | a :: b :: r, y, h => by
    simp only [unhex] at h
    cases hv : val a with
    | none => rw [hv] at h; exact absurd h (by simp)
    | some u =>
      cases hw : val b with
      | none => rw [hv, hw] at h; exact absurd h (by simp)
      | some v =>
        rw [hv, hw] at h
        cases hr : unhex r with
        | none => rw [hr] at h; exact absurd h (by simp)
        | some z =>
          rw [hr] at h
          simp only [Option.map_some, Option.some.injEq] at h
          subst h
          have ih := hexs_unhex r z hr
          have hu := val_lt hv
          have hv' := val_lt hw
          have e : (UInt8.ofNat (16 * u + v)).toNat = 16 * u + v := Num.ofNat_toNat (by omega)
          show dig ((UInt8.ofNat (16 * u + v)).toNat / 16) :: dig ((UInt8.ofNat (16 * u + v)).toNat % 16) :: hexs z = _
          rw [e, ih, show (16 * u + v) / 16 = u by omega, show (16 * u + v) % 16 = v by omega, ← val_inj hv, ← val_inj hw]
theorem hex_data {l y : List UInt8} (hl : l ≠ []) (h : dataOf l = some y) : hexOf y = l := by
  unfold dataOf at h
  split at h
  · simp at h; subst h; rename_i e; rw [e]; rfl
  · have e := hexs_unhex _ _ h
    unfold hexOf
    split
    · rename_i hy; subst hy; exact absurd e.symm hl
    · exact e
theorem word_kind {w : List UInt8} {k : Int} (hk : kindOf w = k) (h1 : 1 ≤ k) : word k = w := by
  unfold kindOf at hk
  split at hk
  · omega
  split at hk
  · subst hk; rename_i e; rw [e]; rfl
  split at hk
  · subst hk; rename_i e; rw [e]; rfl
  split at hk
  · subst hk; rename_i e; rw [e]; rfl
  split at hk
  · subst hk; rename_i e; rw [e]; rfl
  · omega
theorem words_parse {l : List (List UInt8)} {d : D} (h : parseLine l = some d) (hg : ∀ p ∈ l, Scan.isW p = true) (h1 : 1 ≤ d.kind) : wordsOf d = l := by
  match l, h, hg with
  | [], h, _ => simp [parseLine] at h
  | [_], h, _ => simp [parseLine] at h
  | [w, p], h, _ =>
    simp only [parseLine] at h
    split at h
    · exact absurd h (by simp)
    · rename_i hk
      simp only [Option.some.injEq] at h
      subst h
      unfold wordsOf
      rw [if_neg hk]
      show [word (kindOf w), p] = _
      rw [word_kind rfl h1]
  | [w, p, x], h, hg =>
    simp only [parseLine] at h
    split at h
    · rename_i hk
      cases hx : dataOf x with
      | none => rw [hx] at h; exact absurd h (by simp)
      | some y =>
        rw [hx] at h
        simp at h
        subst h
        unfold wordsOf
        show [word 4, p, hexOf y] = _
        rw [hex_data (Scan.isW_ne (hg x (by simp))) hx, word_kind hk (by omega)]
    · exact absurd h (by simp)
  | a :: b :: c :: d :: r, h, _ => simp [parseLine] at h
theorem words_all_parse : ∀ {r : List (List (List UInt8))} {ds : List D}, parseAll r = some ds → Scan.GoodL r → (∀ d ∈ ds, 1 ≤ d.kind) → ds.map wordsOf = r
  | [], ds, h, _, _ => by simp [parseAll] at h; subst h; rfl
  | l :: r, ds, h, hg, hd => by
    simp only [parseAll] at h
    cases hl : parseLine l with
    | none => rw [hl] at h; exact absurd h (by simp)
    | some d =>
      cases hr : parseAll r with
      | none => rw [hl, hr] at h; exact absurd h (by simp)
      | some x =>
        rw [hl, hr] at h
        simp at h
        subst h
        rw [List.map_cons, words_parse hl (hg l List.mem_cons_self).2 (hd d List.mem_cons_self), words_all_parse hr (fun y hy => hg y (List.mem_cons_of_mem _ hy)) fun y hy => hd y (List.mem_cons_of_mem _ hy)]
/-- What is read is written. -/
theorem text_parse {T : List UInt8} {ds : List D} (h : parse T = (0, ds)) : text ds = T ∧ ok ds = true := by
  unfold parse at h
  cases hs : Scan.spec T with
  | inl n => rw [hs] at h; simp at h
  | inr ls =>
    rw [hs] at h
    cases ls with
    | nil => simp at h
    | cons x r =>
      simp only at h
      split at h
      · rename_i hx
        subst hx
        cases hp : parseAll r with
        | none => rw [hp] at h; simp at h
        | some y =>
          rw [hp] at h
          simp only at h
          split at h
          · rename_i hok
            simp at h
            subst h
            obtain ⟨h1, h2⟩ := Scan.spec_form hs
            refine ⟨?_, hok⟩
            rw [text_lines, words_all_parse hp (fun z hz => h2 z (List.mem_cons_of_mem _ hz)) fun d hd => (ok_all hok d hd).1]
            exact h1.symm
          · simp at h
      · simp at h
theorem parse_code (T : List UInt8) : (parse T).1 = 0 ∨ ((parse T).1 ≠ 0 ∧ (parse T).2 = []) := by
  unfold parse
  split
  · exact Or.inr ⟨by simp, rfl⟩
  · exact Or.inr ⟨by simp, rfl⟩
  · split
    · split
      · split
        · exact Or.inl rfl
        · exact Or.inr ⟨by simp, rfl⟩
      · exact Or.inr ⟨by simp, rfl⟩
    · exact Or.inr ⟨by simp, rfl⟩
end Plan
end Go.Proofs.YtnbjdfiembbmmaaDoor
