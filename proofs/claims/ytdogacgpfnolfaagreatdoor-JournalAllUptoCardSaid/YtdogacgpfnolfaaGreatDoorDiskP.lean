/- Paths and disks, in plain words. No program stands here. -/
import Derived.Test.YtdogacgpfnolfaaGreatDoorSMap
import Derived.Test.YtdogacgpfnolfaaGreatDoorCuts
import Derived.Lib.LastIndexByte
namespace Go.Proofs.YtdogacgpfnolfaaGreatDoor
set_option linter.unusedSimpArgs false
set_option linter.unusedVariables false
namespace Disk
def letterP (c : UInt8) : Bool := (decide (97 ≤ c.toNat) && decide (c.toNat ≤ 122)) || ((decide (48 ≤ c.toNat) && decide (c.toNat ≤ 57)) || (decide (c.toNat = 46) || decide (c.toNat = 45)))
/-- May a part of a path be? -/
def partOk (p : List UInt8) : Bool := !p.isEmpty && (decide (p.length ≤ 24) && (decide (p ≠ [46]) && (decide (p ≠ [46, 46]) && p.all letterP)))
/-- May a path be? -/
def pathOk : List UInt8 → Bool
  | [] => false
  | c :: r => decide (c = 47) && (decide ((c :: r).length ≤ 4096) && (Cut.cuts 47 r).all partOk)
/-- A path without its last part. -/
def parTo (p : List UInt8) : Nat → List UInt8
  | 0 => [47]
  | k + 1 => if 0 < k ∧ p[k]? = some 47 then p.take k else parTo p k
def parent (p : List UInt8) : List UInt8 := parTo p p.length
/-- A file, or a directory. -/
structure T where
  dir : Bool
  data : List UInt8
  deriving DecidableEq
/-- A file with its path. -/
structure Fl where
  path : List UInt8
  dir : Bool
  data : List UInt8
  deriving DecidableEq
def Fl.t (f : Fl) : T := ⟨f.dir, f.data⟩
/-- What lies on a disk. -/
abbrev M := List (List UInt8 × T)
def kind (l : M) (p : List UInt8) : Int := if p = [47] then 2 else match SM.look l p with | none => 0 | some t => if t.dir then 2 else 1
def bad (l : M) (f : Fl) : Bool := (SM.look l f.path).isSome || (!pathOk f.path || (f.dir && !f.data.isEmpty))
def fill : M → List Fl → Option M
  | l, [] => some l
  | l, f :: r => if bad l f then none else fill (SM.put l f.path f.t) r
def housed (l : M) : Bool := l.all fun x => kind l (parent x.1) == 2
/-- A list of files as a disk. -/
def load (fs : List Fl) : Option M := match fill [] fs with
  | none => none
  | some l => if housed l then some l else none
theorem fill_append : ∀ (a b : List Fl) (l : M), fill l (a ++ b) = (fill l a).bind fun x => fill x b
  | [], b, l => rfl
  | f :: r, b, l => by
    rw [List.cons_append, fill, fill]
    split
    · rfl
    · exact fill_append r b _
theorem fill_next {fs : List Fl} {k : Nat} {f : Fl} {l : M} (h : fill [] (fs.take k) = some l) (hf : fs[k]? = some f) (hb : bad l f = false) : fill [] (fs.take (k + 1)) = some (SM.put l f.path f.t) := by
  rw [List.take_add_one, hf, fill_append, h]
  show fill l [f] = _
  rw [fill, hb]
  rfl
theorem fill_stop {fs : List Fl} {k : Nat} {f : Fl} {l : M} (h : fill [] (fs.take k) = some l) (hf : fs[k]? = some f) (hb : bad l f = true) : fill [] fs = none := by
  have hh := List.getElem?_eq_some_iff.1 hf
  have e : fs = fs.take k ++ (f :: fs.drop (k + 1)) := by
    have e1 : fs = fs.take k ++ fs.drop k := (List.take_append_drop k fs).symm
    rw [List.drop_eq_getElem_cons hh.1, hh.2] at e1
    exact e1
  rw [e, fill_append, h]
  show fill l (f :: _) = _
  rw [fill, hb]
  rfl
theorem fill_rises : ∀ {fs : List Fl} {l m : M}, SM.Rises l → fill l fs = some m → SM.Rises m
  | [], l, m, hl, h => by rw [fill] at h; cases h; exact hl
  | f :: r, l, m, hl, h => by
    rw [fill] at h
    split at h
    · exact absurd h (by simp)
    · exact fill_rises (SM.rises_put hl _ _) h
theorem load_rises {fs : List Fl} {m : M} (h : load fs = some m) : SM.Rises m := by
  unfold load at h
  cases hf : fill [] fs with
  | none => rw [hf] at h; exact absurd h (by simp)
  | some l =>
    rw [hf] at h
    simp only at h
    split at h
    · cases h; exact fill_rises SM.rises_nil hf
    · exact absurd h (by simp)
theorem fill_length : ∀ {fs : List Fl} {l m : M}, fill l fs = some m → m.length ≤ l.length + fs.length
  | [], l, m, h => by rw [fill] at h; cases h; simp
  | f :: r, l, m, h => by
    rw [fill] at h
    split at h
    · exact absurd h (by simp)
    · have h1 := fill_length h
      have h2 := SM.length_put_le l f.path f.t
      simp only [List.length_cons]
      omega
/-- What fills a disk: of each file what it says, and all its paths may be. -/
theorem fill_look : ∀ {fs : List Fl} {l m : M}, fill l fs = some m → (∀ p t, SM.look m p = some t → SM.look l p = some t ∨ ∃ f ∈ fs, f.path = p ∧ f.t = t) ∧ (∀ p t, SM.look l p = some t → SM.look m p = some t) ∧ (∀ f ∈ fs, SM.look m f.path = some f.t)
  | [], l, m, h => by
    rw [fill] at h; cases h
    exact ⟨fun p t h => Or.inl h, fun p t h => h, fun f hf => by simp at hf⟩
  | f :: r, l, m, h => by
    rw [fill] at h
    split at h
    · exact absurd h (by simp)
    · rename_i hb
      have hb' : SM.look l f.path = none := by
        have : bad l f = false := by simpa using hb
        unfold bad at this
        simp only [Bool.or_eq_false_iff] at this
        cases hh : SM.look l f.path with
        | none => rfl
        | some t => rw [hh] at this; exact absurd this.1 (by simp)
      obtain ⟨h1, h2, h3⟩ := fill_look h
      refine ⟨fun p t hp => ?_, fun p t hp => ?_, fun g hg => ?_⟩
      · rcases h1 p t hp with hh | ⟨g, hg, e1, e2⟩
        · rw [SM.look_put] at hh
          by_cases hpf : p = f.path
          · rw [if_pos hpf] at hh
            exact Or.inr ⟨f, List.mem_cons_self, hpf.symm, Option.some.inj hh⟩
          · rw [if_neg hpf] at hh; exact Or.inl hh
        · exact Or.inr ⟨g, List.mem_cons_of_mem _ hg, e1, e2⟩
      · refine h2 p t ?_
        rw [SM.look_put, if_neg]
        · exact hp
        · intro e; rw [e, hb'] at hp; exact absurd hp (by simp)
      · rcases List.mem_cons.1 hg with rfl | hg
        · exact h2 _ _ (by rw [SM.look_put, if_pos rfl])
        · exact h3 g hg
theorem fill_ok : ∀ {fs : List Fl} {l m : M}, fill l fs = some m → ∀ f ∈ fs, pathOk f.path = true ∧ (f.dir = true → f.data = [])
  | [], l, m, h, f, hf => by simp at hf
  | f :: r, l, m, h, g, hg => by
    rw [fill] at h
    split at h
    · exact absurd h (by simp)
    · rename_i hb
      rcases List.mem_cons.1 hg with rfl | hg
      · have : bad l g = false := by simpa using hb
        unfold bad at this
        simp only [Bool.or_eq_false_iff, Bool.not_eq_false', Bool.and_eq_false_iff] at this
        refine ⟨this.2.1, fun hd => ?_⟩
        rcases this.2.2 with hh | hh
        · rw [hd] at hh; exact absurd hh (by simp)
        · cases he : g.data with
          | nil => rfl
          | cons a b => rw [he] at hh; simp at hh
      · exact fill_ok h g hg
/-- What goes before: the last slash. -/
theorem parTo_eq (s : ByteArray) : ∀ k, k ≤ s.size → (if Go.Lib.lastIdx s 47 k ≤ 0 then [47] else s.data.toList.take (Go.Lib.lastIdx s 47 k).toNat) = parTo s.data.toList k
  | 0, _ => by simp [Go.Lib.lastIdx, parTo]
  | k + 1, h => by
    have ih := parTo_eq s k (by omega)
    have hk : s.data.toList[k]? = some (s.data[k]!) := by
      have hks : k < s.data.size := by have : s.size = s.data.size := rfl; omega
      rw [Array.getElem!_eq_getD, Array.getD, dif_pos hks]
      simp [hks]
    unfold parTo
    rw [hk]
    unfold Go.Lib.lastIdx
    by_cases h47 : ((s.data[k]!).toNat : Int) = 47
    · have e47 : s.data[k]! = 47 := UInt8.toNat_inj.1 (by show (s.data[k]!).toNat = 47; omega)
      rw [if_pos h47]
      by_cases h0 : k = 0
      · subst h0
        rw [if_pos (by omega), if_neg (by simp)]
        rfl
      · rw [if_neg (by omega), if_pos ⟨by omega, by rw [e47]⟩]
        simp
    · rw [if_neg h47, ih, if_neg]
      rintro ⟨_, e⟩
      have := Option.some.inj e
      exact h47 (by rw [this]; rfl)
end Disk
def readT : List Value → Option (DataW Unit × List MemPlace)
  | [.bool d, .string s] => some (.agg [.lit (.bool d), .lit (.string s.data.toList)], [])
  | _ => none
def readF : List Value → Option (DataW Unit × List MemPlace)
  | [.string p, .bool d, .string s] => some (.agg [.lit (.string p.data.toList), .lit (.bool d), .lit (.string s.data.toList)], [])
  | _ => none
def readAgg (f : List Value → Option (DataW Unit × List MemPlace)) : Value → Option (DataW Unit × List MemPlace)
  | .agg cs => f cs.toList
  | _ => none
theorem readAgg_inv {f : List Value → Option (DataW Unit × List MemPlace)} {v : Value} {y : DataW Unit × List MemPlace} (h : readAgg f v = some y) : ∃ l, v = .agg ⟨l⟩ ∧ f l = some y := by
  cases v with
  | agg cs => exact ⟨cs.toList, rfl, h⟩
  | _ => exact absurd h (by simp [readAgg])
theorem readT_inv {l : List Value} {y : DataW Unit × List MemPlace} (h : readT l = some y) : ∃ (d : Bool) (s : ByteArray), l = [.bool d, .string s] ∧ y = (.agg [.lit (.bool d), .lit (.string s.data.toList)], []) := by
  unfold readT at h
  split at h
  · rename_i d s
    exact ⟨d, s, rfl, (Option.some.inj h).symm⟩
  · exact absurd h (by simp)
theorem readF_inv {l : List Value} {y : DataW Unit × List MemPlace} (h : readF l = some y) : ∃ (p : ByteArray) (d : Bool) (s : ByteArray), l = [.string p, .bool d, .string s] ∧ y = (.agg [.lit (.string p.data.toList), .lit (.bool d), .lit (.string s.data.toList)], []) := by
  unfold readF at h
  split at h
  · rename_i p d s
    exact ⟨p, d, s, rfl, (Option.some.inj h).symm⟩
  · exact absurd h (by simp)
/-- The things' places in a map. -/
def elT : El Disk.T where
  val t := .agg #[.bool t.dir, .string (bs t.data)]
  dat t := .agg [.lit (.bool t.dir), .lit (.string t.data)]
  R := readAgg readT
  read t := rfl
  inv v x ps h := by
    obtain ⟨l, rfl, hl⟩ := readAgg_inv h
    obtain ⟨d, s, rfl, hy⟩ := readT_inv hl
    have h : (DataW.agg [.lit (.bool x.dir), .lit (.string x.data)], ps) = ((.agg [.lit (.bool d), .lit (.string s.data.toList)], []) : DataW Unit × List MemPlace) := hy
    simp only [Prod.mk.injEq, DataW.agg.injEq, List.cons.injEq, DataW.lit.injEq, Lit.bool.injEq, Lit.string.injEq, and_true] at h
    obtain ⟨⟨h1, h2⟩, _⟩ := h
    show Value.agg #[.bool d, .string s] = .agg #[.bool x.dir, .string (bs x.data)]
    rw [h1, h2]
    rfl
  all v y h := by
    obtain ⟨l, rfl, hl⟩ := readAgg_inv h
    obtain ⟨d, s, rfl, hy⟩ := readT_inv hl
    exact ⟨⟨d, s.data.toList⟩, rfl⟩
/-- The files' places in a map. -/
def elF : El Disk.Fl where
  val t := .agg #[.string (bs t.path), .bool t.dir, .string (bs t.data)]
  dat t := .agg [.lit (.string t.path), .lit (.bool t.dir), .lit (.string t.data)]
  R := readAgg readF
  read t := rfl
  inv v x ps h := by
    obtain ⟨l, rfl, hl⟩ := readAgg_inv h
    obtain ⟨p, d, s, rfl, hy⟩ := readF_inv hl
    have h : (DataW.agg [.lit (.string x.path), .lit (.bool x.dir), .lit (.string x.data)], ps) = ((.agg [.lit (.string p.data.toList), .lit (.bool d), .lit (.string s.data.toList)], []) : DataW Unit × List MemPlace) := hy
    simp only [Prod.mk.injEq, DataW.agg.injEq, List.cons.injEq, DataW.lit.injEq, Lit.bool.injEq, Lit.string.injEq, and_true] at h
    obtain ⟨⟨h0, h1, h2⟩, _⟩ := h
    show Value.agg #[.string p, .bool d, .string s] = .agg #[.string (bs x.path), .bool x.dir, .string (bs x.data)]
    rw [h0, h1, h2]
    rfl
  all v y h := by
    obtain ⟨l, rfl, hl⟩ := readAgg_inv h
    obtain ⟨p, d, s, rfl, hy⟩ := readF_inv hl
    exact ⟨⟨p.data.toList, d, s.data.toList⟩, rfl⟩
end Go.Proofs.YtdogacgpfnolfaaGreatDoor
