/- The names in a directory, in plain words. No program stands here. -/
import Derived.Test.YtdogacgpfnolfaaGreatDoorDiskM
import Derived.Test.YtdogacgpfnolfaaGreatDoorDkG
import Derived.Lib.LastIndexByte
namespace Go.Proofs.YtdogacgpfnolfaaGreatDoor
set_option linter.unusedSimpArgs false
set_option linter.unusedVariables false
theorem before_lt : ∀ (a b : List UInt8), bytesBefore a b = true ↔ a < b
  | [], [] => by simp [bytesBefore]
  | [], b :: s => by simp [bytesBefore]
  | a :: r, [] => by simp [bytesBefore]
  | a :: r, b :: s => by
    have ih := before_lt r s
    rw [List.cons_lt_cons_iff, ← ih, bytesBefore]
    simp only [Bool.or_eq_true, Bool.and_eq_true, decide_eq_true_eq, beq_iff_eq]
theorem le_before (a b : List UInt8) : decide (a ≤ b) = !bytesBefore b a := by
  rw [Bool.eq_iff_iff]
  simp only [decide_eq_true_eq, Bool.not_eq_true', ← Bool.not_eq_true]
  rw [before_lt]
  exact Iff.rfl
theorem le_trans' (a b c : List UInt8) (h1 : (!bytesBefore b a) = true) (h2 : (!bytesBefore c b) = true) : (!bytesBefore c a) = true := by
  cases h : bytesBefore c a with
  | false => rfl
  | true =>
    exfalso
    simp only [Bool.not_eq_true'] at h1 h2
    by_cases e : b = c
    · rw [e, h] at h1; exact absurd h1 (by simp)
    · rcases WideAt.bytes_total b c e with hh | hh
      · have := WideShapes.bytes_trans _ _ _ hh h
        rw [this] at h1; exact absurd h1 (by simp)
      · rw [hh] at h2; exact absurd h2 (by simp)
theorem le_total' (a b : List UInt8) : ((!bytesBefore b a) || (!bytesBefore a b)) = true := by
  cases h : bytesBefore b a with
  | false => rfl
  | true => rw [SM.before_asymm h]; rfl
/-- The library's sort of what rises. -/
theorem sort_names {X S : List (List UInt8)} (hp : X.Perm S) (hS : S.Pairwise fun x y => bytesBefore x y = true) : (X.mergeSort fun x y => decide (x ≤ y)) = S := by
  have e : (fun x y : List UInt8 => decide (x ≤ y)) = fun x y => !bytesBefore y x := by funext x y; exact le_before x y
  rw [e]
  have h1 : (X.mergeSort fun x y => !bytesBefore y x).Pairwise fun x y => (!bytesBefore y x) = true := List.pairwise_mergeSort (fun a b c h1 h2 => le_trans' a b c h1 h2) (fun a b => le_total' a b) X
  have h2 : S.Pairwise fun x y => (!bytesBefore y x) = true := hS.imp fun {x y} h => by rw [SM.before_asymm h]; rfl
  refine List.Perm.eq_of_pairwise ?_ h1 h2 ((List.mergeSort_perm X _).trans hp)
  intro a b _ _ h3 h4
  refine Decidable.byContradiction fun hne => ?_
  simp only [Bool.not_eq_true'] at h3 h4
  rcases WideAt.bytes_total a b hne with hh | hh
  · rw [hh] at h4; exact absurd h4 (by simp)
  · rw [hh] at h3; exact absurd h3 (by simp)
theorem before_prefix : ∀ (m a b : List UInt8), bytesBefore (m ++ a) (m ++ b) = bytesBefore a b
  | [], a, b => rfl
  | x :: m, a, b => by
    rw [List.cons_append, List.cons_append, bytesBefore, before_prefix m a b]
    simp
namespace Disk
def pre (p : List UInt8) : List UInt8 := if p = [47] then [47] else p ++ [47]
def nm (p s : List UInt8) : List UInt8 := s.drop (pre p).length
/-- The names in a directory. -/
def names (l : M) (p : List UInt8) : List (List UInt8) := (l.filter fun x => parent x.1 == p).map fun x => nm p x.1
def listR (l : M) (p : List UInt8) : List (List UInt8) × Int := if p ≠ [47] ∧ pathOk p = false then ([], 10) else if kind l p = 0 then ([], 12) else if kind l p = 1 then ([], 13) else (names l p, 0)
theorem parTo_split : ∀ (s : List UInt8) (k : Nat), k ≤ s.length → parTo s k = [47] ∨ ∃ j, 0 < j ∧ j < s.length ∧ s[j]? = some 47 ∧ parTo s k = s.take j
  | s, 0, _ => Or.inl rfl
  | s, k + 1, h => by
    unfold parTo
    split
    · rename_i hc
      exact Or.inr ⟨k, hc.1, by omega, hc.2, rfl⟩
    · exact parTo_split s k (by omega)
theorem ok_head {s : List UInt8} (h : pathOk s = true) : ∃ r, s = 47 :: r ∧ ∀ r', r ≠ 47 :: r' := by
  cases s with
  | nil => simp [pathOk] at h
  | cons c r =>
    unfold pathOk at h
    simp only [Bool.and_eq_true, decide_eq_true_eq] at h
    refine ⟨r, by rw [h.1], fun r' e => ?_⟩
    have h2 := h.2.2
    rw [e] at h2
    have : Cut.cuts 47 (47 :: r') = [] :: Cut.cuts 47 r' := by simp [Cut.cuts]
    rw [this] at h2
    simp [partOk] at h2
theorem parent_split {s p : List UInt8} (h : pathOk s = true) (hp : parent s = p) : s = pre p ++ nm p s := by
  obtain ⟨r, rfl, hr⟩ := ok_head h
  have key : ∃ n, (47 :: r) = pre p ++ n := by
    by_cases hroot : p = [47]
    · refine ⟨r, ?_⟩
      unfold pre
      rw [if_pos hroot]
      rfl
    · rcases parTo_split (47 :: r) (47 :: r).length (Nat.le_refl _) with h1 | ⟨j, h0, hj, hc, e⟩
      · exact absurd (hp.symm.trans h1) hroot
      · refine ⟨(47 :: r).drop (j + 1), ?_⟩
        have e2 : p = (47 :: r).take j := hp.symm.trans e
        unfold pre
        rw [if_neg hroot, e2, List.append_assoc]
        have h3 : (47 :: r).drop j = 47 :: (47 :: r).drop (j + 1) := by
          rw [List.drop_eq_getElem_cons hj]
          congr 1
          have := List.getElem?_eq_getElem hj
          rw [hc] at this
          exact (Option.some.inj this).symm
        show (47 :: r) = (47 :: r).take j ++ ([47] ++ (47 :: r).drop (j + 1))
        rw [List.singleton_append, ← h3, List.take_append_drop]
  obtain ⟨n, hn⟩ := key
  unfold nm
  rw [hn, List.drop_left]
theorem names_rise {l : M} (hr : SM.Rises l) (hok : ∀ x ∈ l, pathOk x.1 = true) (p : List UInt8) : (names l p).Pairwise fun x y => bytesBefore x y = true := by
  unfold names
  rw [List.pairwise_map]
  have h1 : (l.filter fun x => parent x.1 == p).Pairwise fun x y => bytesBefore x.1 y.1 = true := List.Pairwise.filter _ hr
  refine List.Pairwise.imp_of_mem ?_ h1
  intro x y hx hy hb
  have hx' := List.mem_filter.1 hx
  have hy' := List.mem_filter.1 hy
  have e1 := parent_split (hok x hx'.1) (beq_iff_eq.1 hx'.2)
  have e2 := parent_split (hok y hy'.1) (beq_iff_eq.1 hy'.2)
  rw [e1, e2, before_prefix] at hb
  exact hb
/-- Where the name begins. -/
theorem last_pre (s : ByteArray) {p : List UInt8} (h : pathOk s.data.toList = true) (hp : parent s.data.toList = p) : Go.Lib.lastIndexByte s 47 + 1 = ((pre p).length : Int) := by
  have hd : parent s.data.toList = if Go.Lib.lastIndexByte s 47 ≤ 0 then [47] else s.data.toList.take (Go.Lib.lastIndexByte s 47).toNat := by
    unfold Disk.parent
    have hl : s.data.toList.length = s.size := by simp
    rw [hl]
    exact (Disk.parTo_eq s s.size (Nat.le_refl _)).symm
  have hl : s.data.toList.length = s.size := by simp
  obtain ⟨r, hs, hr⟩ := ok_head h
  have hspec : (Go.Lib.lastIndexByte s 47 = -1 ∧ ∀ j (hj : j < s.size), ((s.data[j]!).toNat : Int) ≠ 47) ∨ ∃ i : Nat, i < s.size ∧ Go.Lib.lastIndexByte s 47 = i := by
    rcases Go.Lib.lastIdx_spec s 47 s.size with ⟨h1, h2⟩ | ⟨i, h1, h2, _⟩
    · exact Or.inl ⟨h1, fun j hj => h2 j hj⟩
    · exact Or.inr ⟨i, h1, h2⟩
  have hs0 : 0 < s.size := by rw [← hl, hs]; simp
  rcases hspec with ⟨_, h2⟩ | ⟨i, hi, h2⟩
  · exfalso
    refine h2 0 hs0 ?_
    have h0 : s.data.toList[0]? = some 47 := by rw [hs]; rfl
    have hks : 0 < s.data.size := hs0
    have e : s.data[0]! = 47 := by
      rw [Array.getElem!_eq_getD, Array.getD, dif_pos hks]
      have : s.data.toList[0]? = some (s.data[0]) := by simp [hks]
      rw [h0] at this
      exact (Option.some.inj this).symm
    rw [e]; rfl
  · rw [h2] at hd ⊢
    rcases Nat.eq_zero_or_pos i with h0 | h0
    · subst h0
      rw [if_pos (by omega)] at hd
      have : p = [47] := by rw [← hp, hd]
      unfold pre
      rw [if_pos this]
      rfl
    · rw [if_neg (by omega)] at hd
      have hpi : p = s.data.toList.take i := by rw [← hp, hd]; rfl
      have hpl : p.length = i := by rw [hpi, List.length_take]; omega
      have hne : p ≠ [47] := by
        intro e
        have h1 : i = 1 := by rw [← hpl, e]; rfl
        subst h1
        -- the last slash is at 1: then the second byte is a slash
        rcases Go.Lib.lastIdx_spec s 47 s.size with ⟨h3, _⟩ | ⟨i', h3, h4, h5⟩
        · have : Go.Lib.lastIndexByte s 47 = -1 := h3
          omega
        · have e1 : (i' : Int) = 1 := h4.symm.trans h2
          have e2 : i' = 1 := by omega
          subst e2
          have h6 := h5.1
          cases r with
          | nil => rw [hs] at hl; simp at hl; omega
          | cons c r' =>
            refine hr r' ?_
            have h7 : s.data.toList[1]? = some c := by rw [hs]; rfl
            have hks : 1 < s.data.size := by have : s.size = s.data.size := rfl; omega
            have h8 : s.data.toList[1]? = some (s.data[1]) := by simp [hks]
            have h9 : s.data[1]! = s.data[1] := by rw [Array.getElem!_eq_getD, Array.getD, dif_pos hks]; rfl
            have h10 : c = s.data[1]! := by rw [h9]; rw [h7] at h8; exact Option.some.inj h8
            have h11 : c = 47 := by rw [h10]; exact UInt8.toNat_inj.1 (by show (s.data[1]!).toNat = 47; omega)
            rw [h11]
      unfold pre
      rw [if_neg hne, List.length_append, hpl]
      simp
/-- What has been gathered of what is not to come. -/
def inDir (p : List UInt8) (x : List UInt8 × T) : Nat := if parent x.1 == p then 1 else 0
def nmD (p : List UInt8) (x : List UInt8 × T) : Dd := ⟨0, nm p x.1, []⟩
def listed (left : List UInt8 → Bool) (l : M) (p : List UInt8) : List (List UInt8) := (part left (inDir p) 1 (nmD p) l).map (·.path)
theorem listed_length (left : List UInt8 → Bool) (l : M) (p : List UInt8) : (listed left l p).length ≤ l.length := by
  unfold listed
  rw [List.length_map]
  exact part_length _ _ _ _ _
theorem listed_start {l : M} (hl : SM.Rises l) (p : List UInt8) : listed (fun p => (SM.look l p).isSome) l p = [] := by unfold listed; rw [part_start _ _ _ hl]; rfl
theorem listed_end {left : List UInt8 → Bool} (h : ∀ p, left p = false) (l : M) (p : List UInt8) : listed left l p = names l p := by
  unfold listed names
  rw [part_end h]
  unfold pick
  rw [List.map_map]
  have e : (fun x => inDir p x == 1) = fun x : List UInt8 × T => parent x.1 == p := by
    funext x
    unfold inDir
    cases parent x.1 == p <;> rfl
  rw [e]
  rfl
theorem listed_in {left : List UInt8 → Bool} {l : M} {p : List UInt8} (hr : SM.Rises l) {s : List UInt8} {t : T} (hl : SM.look l s = some t) (hp : left s = true) {X : List (List UInt8)} (hX : X.Perm (listed left l p)) (hs : parent s = p) : (X ++ [nm p s]).Perm (listed (fun q => left q && !(q == s)) l p) := by
  have h := (part_step (c := inDir p) (k := 1) (f := nmD p) hr hl hp).map (fun d : Dd => d.path)
  rw [if_pos (by unfold inDir; rw [hs]; simp), List.map_append, List.map_singleton] at h
  exact (hX.append_right _).trans h.symm
theorem listed_out {left : List UInt8 → Bool} {l : M} {p : List UInt8} (hr : SM.Rises l) {s : List UInt8} {t : T} (hl : SM.look l s = some t) (hp : left s = true) {X : List (List UInt8)} (hX : X.Perm (listed left l p)) (hs : parent s ≠ p) : X.Perm (listed (fun q => left q && !(q == s)) l p) := by
  have h := (part_step (c := inDir p) (k := 1) (f := nmD p) hr hl hp).map (fun d : Dd => d.path)
  rw [if_neg (by unfold inDir; rw [beq_eq_false_iff_ne.2 hs]; simp), List.append_nil] at h
  exact hX.trans h.symm
end Disk
end Go.Proofs.YtdogacgpfnolfaaGreatDoor
