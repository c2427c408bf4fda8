/- Plain words: a text cut at each sign d, and glued again: no program stands here. -/
import Derived.Lib.Split
import Derived.Lib.SplitLaws
namespace Go.Proofs.YtjiifieafnjpgaaDoor
namespace Cut
/-- What stands ahead of the first sign d, between two, and behind the last. -/
def cuts (d : UInt8) : List UInt8 → List (List UInt8)
  | [] => [[]]
  | c :: l => if c = d then [] :: cuts d l else
    match cuts d l with
    | [] => [[c]]
    | p :: r => (c :: p) :: r
/-- The pieces with the sign d between each two. -/
def glue (d : UInt8) : List (List UInt8) → List UInt8
  | [] => []
  | [p] => p
  | p :: q :: r => p ++ d :: glue d (q :: r)
theorem cuts_nil (d : UInt8) : cuts d [] = [[]] := rfl
theorem cuts_hit (d : UInt8) (l : List UInt8) : cuts d (d :: l) = [] :: cuts d l := by simp [cuts]
theorem cuts_ne (d : UInt8) (l : List UInt8) : cuts d l ≠ [] := by
  cases l with
  | nil => simp [cuts]
  | cons c l =>
    unfold cuts
    split
    · simp
    · split <;> simp
theorem cuts_miss {d c : UInt8} {l p : List UInt8} {r : List (List UInt8)} (h : c ≠ d) (e : cuts d l = p :: r) : cuts d (c :: l) = (c :: p) :: r := by
  rw [cuts, if_neg h, e]
theorem cuts_exists (d : UInt8) (l : List UInt8) : ∃ p r, cuts d l = p :: r := by
  cases h : cuts d l with
  | nil => exact absurd h (cuts_ne d l)
  | cons p r => exact ⟨p, r, rfl⟩
theorem glue_cons (d c : UInt8) (p : List UInt8) (r : List (List UInt8)) : glue d ((c :: p) :: r) = c :: glue d (p :: r) := by
  cases r <;> simp [glue]
theorem glue_cuts (d : UInt8) (l : List UInt8) : glue d (cuts d l) = l := by
  induction l with
  | nil => rfl
  | cons c l ih =>
    obtain ⟨p, r, e⟩ := cuts_exists d l
    by_cases h : c = d
    · subst h
      rw [cuts_hit, e]
      show [] ++ c :: glue c (p :: r) = c :: l
      rw [← e, ih]; rfl
    · rw [cuts_miss h e, glue_cons, ← e, ih]
theorem cuts_free (d : UInt8) (l : List UInt8) : ∀ p ∈ cuts d l, d ∉ p := by
  induction l with
  | nil => intro p hp; simp [cuts] at hp; subst hp; simp
  | cons c l ih =>
    obtain ⟨q, r, e⟩ := cuts_exists d l
    intro p hp
    by_cases h : c = d
    · subst h
      rw [cuts_hit] at hp
      rcases List.mem_cons.1 hp with rfl | hp
      · simp
      · exact ih p hp
    · rw [cuts_miss h e] at hp
      rcases List.mem_cons.1 hp with rfl | hp
      · intro k
        rcases List.mem_cons.1 k with k | k
        · exact h k.symm
        · exact ih q (by rw [e]; exact List.mem_cons_self) k
      · exact ih p (by rw [e]; exact List.mem_cons_of_mem _ hp)
theorem cuts_one {d : UInt8} {p : List UInt8} (h : d ∉ p) : cuts d p = [p] := by
  induction p with
  | nil => rfl
  | cons c p ih =>
    have h1 : c ≠ d := fun e => h (by rw [e]; exact List.mem_cons_self)
    exact cuts_miss h1 (ih fun k => h (List.mem_cons_of_mem _ k))
theorem cuts_append {d : UInt8} {p l : List UInt8} (h : d ∉ p) : cuts d (p ++ d :: l) = p :: cuts d l := by
  induction p with
  | nil => exact cuts_hit d l
  | cons c p ih =>
    have h1 : c ≠ d := fun e => h (by rw [e]; exact List.mem_cons_self)
    exact cuts_miss h1 (ih fun k => h (List.mem_cons_of_mem _ k))
theorem cuts_glue {d : UInt8} : ∀ {ps : List (List UInt8)}, ps ≠ [] → (∀ p ∈ ps, d ∉ p) → cuts d (glue d ps) = ps
  | [], h, _ => absurd rfl h
  | [p], _, h => cuts_one (h p List.mem_cons_self)
  | p :: q :: r, _, h => by
    show cuts d (p ++ d :: glue d (q :: r)) = _
    rw [cuts_append (h p List.mem_cons_self), cuts_glue (by simp) fun x hx => h x (List.mem_cons_of_mem _ hx)]
theorem cuts_length (d : UInt8) (l : List UInt8) : (cuts d l).length = l.count d + 1 := by
  induction l with
  | nil => rfl
  | cons c l ih =>
    obtain ⟨q, r, e⟩ := cuts_exists d l
    by_cases h : c = d
    · subst h
      rw [cuts_hit, List.length_cons, ih, List.count_cons_self]
    · rw [cuts_miss h e, List.count_cons_of_ne h, ← ih, e]; simp
theorem cuts_le (d : UInt8) (l : List UInt8) : ∀ p ∈ cuts d l, p.length ≤ l.length := by
  induction l with
  | nil => intro p hp; simp [cuts] at hp; subst hp; simp
  | cons c l ih =>
    obtain ⟨q, r, e⟩ := cuts_exists d l
    intro p hp
    by_cases h : c = d
    · subst h
      rw [cuts_hit] at hp
      rcases List.mem_cons.1 hp with rfl | hp
      · simp
      · have := ih p hp; simp; omega
    · rw [cuts_miss h e] at hp
      rcases List.mem_cons.1 hp with rfl | hp
      · have := ih q (by rw [e]; exact List.mem_cons_self); simpa using this
      · have := ih p (by rw [e]; exact List.mem_cons_of_mem _ hp); simp; omega
theorem index_of (d : UInt8) : ∀ (l : List UInt8), (Go.Lib.index l [d] = -1 ∧ l.count d = 0) ∨ ∃ i : Nat, Go.Lib.index l [d] = i ∧ 0 < l.count d
  | [] => Or.inl ⟨rfl, rfl⟩
  | c :: l => by
    by_cases h : c = d
    · subst h
      exact Or.inr ⟨0, by simp [Go.Lib.index, List.isPrefixOf], by rw [List.count_cons_self]; exact Nat.succ_pos _⟩
    · have e : Go.Lib.index (c :: l) [d] = if Go.Lib.index l [d] == -1 then -1 else Go.Lib.index l [d] + 1 := by
        have : (d == c) = false := by simpa using fun k => h k.symm
        simp [Go.Lib.index, List.isPrefixOf, this]
      rcases index_of d l with ⟨h1, h2⟩ | ⟨i, h1, h2⟩
      · exact Or.inl ⟨by rw [e, h1]; rfl, by rw [List.count_cons_of_ne h, h2]⟩
      · refine Or.inr ⟨i + 1, ?_, by rw [List.count_cons_of_ne h]; exact h2⟩
        rw [e, h1, if_neg (by simp)]; omega
theorem splitK_cuts (d : UInt8) : ∀ (l : List UInt8), Go.Lib.splitK [d] 0 (l.count d) l = cuts d l
  | [] => rfl
  | c :: l => by
    have ih := splitK_cuts d l
    by_cases h : c = d
    · subst h
      rw [List.count_cons_self, cuts_hit, ← ih]
      have e : Go.Lib.index (c :: l) [c] = 0 := by simp [Go.Lib.index, List.isPrefixOf]
      simp [Go.Lib.splitK, e]
    · have e : Go.Lib.index (c :: l) [d] = if Go.Lib.index l [d] == -1 then -1 else Go.Lib.index l [d] + 1 := by
        have : (d == c) = false := by simpa using fun k => h k.symm
        simp [Go.Lib.index, List.isPrefixOf, this]
      rw [List.count_cons_of_ne h]
      rcases index_of d l with ⟨h1, h2⟩ | ⟨i, h1, h2⟩
      · rw [h2] at ih ⊢
        rw [cuts_miss h (p := l) (r := []) (by rw [← ih]; rfl)]
        rfl
      · obtain ⟨k, hk⟩ : ∃ k, l.count d = k + 1 := ⟨l.count d - 1, by omega⟩
        rw [hk] at ih ⊢
        have e2 : Go.Lib.index (c :: l) [d] = (i + 1 : Nat) := by
          rw [e, h1, if_neg (by simp)]; omega
        have n1 : ((i : Int) == -1) = false := by rw [beq_eq_false_iff_ne]; omega
        have n2 : (((i + 1 : Nat) : Int) == -1) = false := by rw [beq_eq_false_iff_ne]; omega
        simp only [Go.Lib.splitK, h1, n1] at ih
        simp only [Go.Lib.splitK, e2, n2]
        simp only [Bool.false_eq_true, if_false, Int.toNat_natCast, List.length_singleton, Nat.add_zero] at ih ⊢
        rw [cuts_miss h ih.symm]
        simp
/-- strings.Split at a sign: the pieces' bytes are the cuts. -/
theorem splitB_cuts (d : UInt8) (s : ByteArray) : (Go.Lib.splitB ⟨#[d]⟩ 0 (Go.Lib.countB s ⟨#[d]⟩) s).map (·.data.toList) = cuts d s.data.toList := by
  rw [Go.Lib.splitB_data, ← splitK_cuts]
  show Go.Lib.splitK [d] 0 (Go.Lib.count s.data.toList [d]) s.data.toList = _
  rw [Go.Lib.count_one]
theorem countB_one (d : UInt8) (s : ByteArray) : Go.Lib.countB s ⟨#[d]⟩ = s.data.toList.count d := Go.Lib.count_one d _
end Cut
end Go.Proofs.YtjiifieafnjpgaaDoor
