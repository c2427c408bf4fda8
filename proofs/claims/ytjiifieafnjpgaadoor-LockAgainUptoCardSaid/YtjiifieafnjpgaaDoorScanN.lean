/- Numbers and names: the program's and the document's. -/
import Derived.Test.YtjiifieafnjpgaaDoorChecked
import Derived.Test.YtjiifieafnjpgaaDoorEnv
import Derived.Test.YtjiifieafnjpgaaDoorScA
import Derived.Shelf.Strings.SlTrimAscii
import Derived.Handy
import Derived.WalkMore
import Derived.WalkLawsBesides
import Derived.WalkSpells
import Derived.Outline
import Derived.Lib.Hide
namespace Go.Proofs.YtjiifieafnjpgaaDoor
open Go.RowKit
set_option linter.unusedSimpArgs false
set_option linter.unusedVariables false
namespace Scan
def small (c : UInt8) : Bool := decide (97 ≤ c.toNat) && decide (c.toNat ≤ 122)
def other (c : UInt8) : Bool := (decide (48 ≤ c.toNat) && decide (c.toNat ≤ 57)) || decide (c.toNat = 45)
/-- May a name be? -/
def nameOk : List UInt8 → Bool
  | [] => false
  | c :: l => small c && l.all (fun x => small x || other x) && decide ((c :: l).length ≤ 16)
end Scan
theorem sv_eq_empty' (x : List UInt8) : ((bs x).toList == ([] : List UInt8)) = x.isEmpty := by
  rw [bs_toList]; cases x <;> rfl
theorem u8_all {p : UInt8 → Bool} (h : (List.range 256).all (fun n => p (UInt8.ofNat n)) = true) (c : UInt8) : p c = true := by
  have := List.all_eq_true.1 h c.toNat (List.mem_range.2 c.toNat_lt)
  simpa using this
def az : ByteArray := ⟨#[97, 98, 99, 100, 101, 102, 103, 104, 105, 106, 107, 108, 109, 110, 111, 112, 113, 114, 115, 116, 117, 118, 119, 120, 121, 122]⟩
def az09 : ByteArray := ⟨#[97, 98, 99, 100, 101, 102, 103, 104, 105, 106, 107, 108, 109, 110, 111, 112, 113, 114, 115, 116, 117, 118, 119, 120, 121, 122, 48, 49, 50, 51, 52, 53, 54, 55, 56, 57, 45]⟩
theorem az_contains (c : UInt8) : az.data.toList.contains c = Scan.small c := by
  have := u8_all (p := fun c => az.data.toList.contains c == Scan.small c) (by decide +kernel) c
  simpa using this
theorem az09_contains (c : UInt8) : az09.data.toList.contains c = (Scan.small c || Scan.other c) := by
  have := u8_all (p := fun c => az09.data.toList.contains c == (Scan.small c || Scan.other c)) (by decide +kernel) c
  simpa using this
theorem dropWhile_all {p q : UInt8 → Bool} (h : ∀ c, p c = true → q c = true) (l : List UInt8) : (l.dropWhile p).all q = l.all q := by
  induction l with
  | nil => rfl
  | cons c l ih =>
    rw [List.dropWhile_cons]
    cases hp : p c
    · simp
    · simp [ih, h c hp]
theorem dropWhile_nil {p : UInt8 → Bool} {l : List UInt8} : l.dropWhile p = [] ↔ l.all p = true := by
  induction l with
  | nil => simp
  | cons c l ih =>
    rw [List.dropWhile_cons]
    cases hp : p c
    · simp [hp]
    · simp [hp, ih]
theorem trimS_nil (l cs : List UInt8) : (Go.Lib.trimS l cs).isEmpty = l.all (fun c => cs.contains c) := by
  have h : Go.Lib.trimS l cs = [] ↔ l.all (fun c => cs.contains c) = true := by
    unfold Go.Lib.trimS Go.Lib.trimLeftS Go.Lib.trimRightS
    rw [dropWhile_nil, List.all_reverse, dropWhile_all (fun c h => h), List.all_reverse]
  cases ht : l.all (fun c => cs.contains c)
  · cases he : Go.Lib.trimS l cs with
    | nil => exact absurd (h.1 he) (by rw [ht]; exact Bool.false_ne_true)
    | cons c r => rfl
  · rw [h.2 ht]; rfl
namespace Scan
/-- The letters of a name, by their places. -/
def okAt (k : Nat) (c : UInt8) : Bool := small c || (decide (k ≠ 0) && other c)
theorem nameOk_full {l : List UInt8} (hp : l ≠ []) {k : Nat} (h : ∀ (i : Nat) c, i < k → l[i]? = some c → okAt i c = true) (hk : l.length ≤ k) : nameOk l = decide (l.length ≤ 16) := by
  cases l with
  | nil => exact absurd rfl hp
  | cons c r =>
    have h0 : small c = true := by have := h 0 c (by simp at hk; omega) rfl; simpa [okAt] using this
    have h1 : r.all (fun x => small x || other x) = true := by
      rw [List.all_eq_true]
      intro x hx
      obtain ⟨i, hi, rfl⟩ := List.mem_iff_getElem.1 hx
      have := h (i + 1) r[i] (by simp at hk; omega) (by simp [hi])
      simp only [okAt, Bool.or_eq_true, Bool.and_eq_true] at this ⊢
      rcases this with h | h
      · exact Or.inl h
      · exact Or.inr h.2
    simp only [nameOk, h0, h1, Bool.true_and]
theorem nameOk_no {l : List UInt8} {i : Nat} {c : UInt8} (hc : l[i]? = some c) (h : okAt i c = false) : nameOk l = false := by
  cases l with
  | nil => simp at hc
  | cons x r =>
    cases i with
    | zero =>
      simp at hc; subst hc
      have : small x = false := by simpa [okAt] using h
      simp [nameOk, this]
    | succ i =>
      have hx : (small c || other c) = false := by simpa [okAt] using h
      have hm : r.all (fun x => small x || other x) = false := by
        rw [List.all_eq_false]
        exact ⟨c, List.mem_of_getElem? (by simpa using hc), by simp [hx]⟩
      simp [nameOk, hm]
/-- The program's way of asking. -/
theorem nameOk_trim (l : List UInt8) : nameOk l = (!l.isEmpty && (decide (l.length ≤ 16) && (decide (l.dropWhile small ≠ l) && (l.dropWhile small).all (fun c => small c || other c)))) := by
  cases l with
  | nil => rfl
  | cons c r =>
    have e := dropWhile_all (p := small) (q := fun c => small c || other c) (fun c h => by simp [h]) (c :: r)
    rw [e]
    simp only [nameOk, List.isEmpty_cons, Bool.not_false, Bool.true_and]
    cases hs : small c
    · rw [List.dropWhile_cons, hs]
      simp
    · have hne : (c :: r).dropWhile small ≠ c :: r := by
        rw [List.dropWhile_cons, hs]
        intro h
        have h1 := congrArg List.length h
        have h2 : (r.dropWhile small).length ≤ r.length := (List.dropWhile_sublist _).length_le
        simp at h1
        omega
      simp only [hne, ne_eq, not_false_eq_true, decide_true, Bool.true_and, List.all_cons, hs, Bool.true_or]
      cases decide ((c :: r).length ≤ 16) <;> cases r.all (fun x => small x || other x) <;> rfl
end Scan
theorem tl_az (s : ByteArray) : Go.Lib.trimLeftS s.data.toList az.data.toList = s.data.toList.dropWhile Scan.small := by
  unfold Go.Lib.trimLeftS
  congr 1
  funext c
  exact az_contains c
theorem str_beq (a b : ByteArray) : (a.toList == b.toList) = decide (a.data.toList = b.data.toList) := by
  rw [ByteArray.toList_eq, ByteArray.toList_eq]
  by_cases h : a.data.toList = b.data.toList
  · rw [h, decide_eq_true rfl]; exact beq_self_eq_true _
  · rw [beq_eq_false_iff_ne.2 h, decide_eq_false h]
theorem info116 : (Tryd.prog.info? (Tryd.lays161_ren.t 116)).map (fun i => (i.zero, i.size)) = some (some (.agg (Array.replicate 256 (.bool false))), 256) := by kernel_rfl
theorem TrimAz (s : ByteArray) (w : World) : Calls Tryd.prog 32 #[.string s, .string az] w fun e w' => e = .returned (.string (bs (s.data.toList.dropWhile Scan.small))) ∧ Below w.heap.size w w' :=
  (Any.strings_TrimLeft_laid Tryd.lays161 info116 s az w (by decide) (ascii_of_all (by decide))).mono fun e w' ⟨he, hb⟩ => ⟨by rw [he, tl_az]; rfl, hb⟩
theorem info116' : (Tryd.prog.info? (Tryd.lays160_ren.t 116)).map (fun i => (i.zero, i.size)) = some (some (.agg (Array.replicate 256 (.bool false))), 256) := by kernel_rfl
theorem TrimAz09 (s : ByteArray) (hs : s.size ≤ 9223372036854775807) (w : World) : Calls Tryd.prog 33 #[.string s, .string az09] w fun e w' => ∃ r, e = .returned (.string r) ∧ (r.toList == ([] : List UInt8)) = s.data.toList.all (fun c => Scan.small c || Scan.other c) ∧ Below w.heap.size w w' :=
  (Any.strings_Trim_laid Tryd.lays160 info116' s az09 w hs (by decide) (ascii_of_all (by decide))).mono fun e w' ⟨he, hb⟩ => ⟨_, he, by
    have e1 : (⟨(Go.Lib.trimS s.data.toList az09.data.toList).toArray⟩ : ByteArray) = bs (Go.Lib.trimS s.data.toList az09.data.toList) := rfl
    rw [e1, sv_eq_empty', trimS_nil]
    congr 1
    funext c
    exact az09_contains c, hb⟩
end Go.Proofs.YtjiifieafnjpgaaDoor
