/- What is asked of a disk, in plain words. No program stands here. -/
import Derived.Test.YtdogacgpfnolfaaGreatDoorDiskP
namespace Go.Proofs.YtdogacgpfnolfaaGreatDoor
set_option linter.unusedSimpArgs false
set_option linter.unusedVariables false
namespace Disk
/-- A raw write. -/
structure Rw where
  kind : Int
  path : List UInt8
  to : List UInt8
  deriving DecidableEq
/-- A disk: what lies there, the raw writes, how many are left till the power goes. -/
structure S where
  l : M
  raws : List Rw
  left : Int
  deriving DecidableEq
/-- Why something new may not be at a path. -/
def homeE (l : M) (p : List UInt8) : Int := if kind l (parent p) = 0 then 12 else if kind l (parent p) = 1 then 13 else 0
def mayE (s : S) (p : List UInt8) : Int := if s.left = 0 then 15 else if pathOk p then 0 else 10
def off (n : Int) : Int := if 0 < n then n - 1 else n
/-- A raw write that is done. -/
def S.did (s : S) (l : M) (r : Rw) : S := ⟨l, s.raws ++ [r], off s.left⟩
/-- The four raw writes, on a disk whose power is on. -/
def mkdirC (l : M) (p : List UInt8) : Int × M :=
  if !pathOk p then (10, l) else if homeE l p ≠ 0 then (homeE l p, l) else if kind l p ≠ 0 then (11, l) else (0, SM.put l p ⟨true, []⟩)
def writeC (l : M) (p t : List UInt8) : Int × M :=
  if !pathOk p then (10, l) else if homeE l p ≠ 0 then (homeE l p, l) else if kind l p = 2 then (13, l) else (0, SM.put l p ⟨false, t⟩)
def renameC (l : M) (p q : List UInt8) : Int × M :=
  if !pathOk p then (10, l) else if !pathOk q then (10, l) else if kind l p = 0 then (12, l) else if kind l p = 2 then (13, l) else
    if homeE l q ≠ 0 then (homeE l q, l) else if kind l q = 2 then (13, l) else (0, SM.put (SM.del l p) q ((SM.look l p).getD ⟨false, []⟩))
def removeC (l : M) (p : List UInt8) : Int × M :=
  if !pathOk p then (10, l) else if kind l p = 0 then (12, l) else if l.any fun x => parent x.1 == p then (14, l) else (0, SM.del l p)
/-- .. on any disk. -/
def S.ask (s : S) (c : Int × M) (r : Rw) : Int × S := if s.left = 0 then (15, s) else if c.1 = 0 then (0, s.did c.2 r) else (c.1, s)
def S.mkdir (s : S) (p : List UInt8) : Int × S := s.ask (mkdirC s.l p) ⟨1, p, []⟩
def S.write (s : S) (p t : List UInt8) : Int × S := s.ask (writeC s.l p t) ⟨2, p, []⟩
def S.rename (s : S) (p q : List UInt8) : Int × S := s.ask (renameC s.l p q) ⟨3, p, q⟩
def S.remove (s : S) (p : List UInt8) : Int × S := s.ask (removeC s.l p) ⟨4, p, []⟩
/-- Something that is asked, as the statement's own deeds say. -/
structure Dq where
  kind : Int
  path : List UInt8
  to : List UInt8
  data : List UInt8
  n : Int
  deriving DecidableEq
def coreOf (l : M) (k : Int) (x : Dq) : (Int × M) × Rw :=
  if k = 0 then (mkdirC l x.path, ⟨1, x.path, []⟩) else if k = 1 then (writeC l x.path x.data, ⟨2, x.path, []⟩) else if k = 2 then (renameC l x.path x.to, ⟨3, x.path, x.to⟩) else (removeC l x.path, ⟨4, x.path, []⟩)
/-- A raw write by its number. -/
def S.asked (s : S) (k : Int) (x : Dq) : Int × S := s.ask (coreOf s.l k x).1 (coreOf s.l k x).2
theorem pathOk_length {p : List UInt8} (h : pathOk p = true) : p.length ≤ 4096 := by
  cases p with
  | nil => simp
  | cons c r =>
    unfold pathOk at h
    simp only [Bool.and_eq_true, decide_eq_true_eq] at h
    exact h.2.1
theorem ok_put {l : M} (h : ∀ x ∈ l, pathOk x.1 = true) {p : List UInt8} (hp : pathOk p = true) (t : T) : ∀ x ∈ SM.put l p t, pathOk x.1 = true := fun x hx => by
  rcases SM.mem_put _ _ _ _ hx with rfl | hx
  · exact hp
  · exact h x hx
theorem ok_del {l : M} (h : ∀ x ∈ l, pathOk x.1 = true) (p : List UInt8) : ∀ x ∈ SM.del l p, pathOk x.1 = true := fun x hx => h x (List.mem_filter.1 hx).1
theorem renameC_ok {l : M} (h : ∀ x ∈ l, pathOk x.1 = true) (p q : List UInt8) : ∀ x ∈ (renameC l p q).2, pathOk x.1 = true := by
  unfold renameC
  by_cases hq : pathOk q = true
  · repeat' split
    all_goals first | exact h | exact ok_put (ok_del h _) hq _
  · split
    · exact h
    · rw [if_pos (by simp [hq])]; exact h
/-- What is asked, by the reasons against it. -/
theorem ask_may {s : S} {c : Int × M} {r : Rw} {p : List UInt8} (h : mayE s p ≠ 0) (hc : pathOk p = false → c.1 = 10) : s.ask c r = (mayE s p, s) := by
  unfold mayE at h ⊢
  unfold S.ask
  by_cases h0 : s.left = 0
  · rw [if_pos h0, if_pos h0]
  · rw [if_neg h0] at h ⊢
    cases hp : pathOk p
    · rw [hc hp, if_neg h0, if_neg (by decide)]; rfl
    · rw [hp] at h; exact absurd rfl h
theorem may_ok {s : S} {p : List UInt8} (h : mayE s p = 0) : s.left ≠ 0 ∧ pathOk p = true := by
  unfold mayE at h
  by_cases h0 : s.left = 0
  · rw [if_pos h0] at h; exact absurd h (by decide)
  · rw [if_neg h0] at h
    cases hp : pathOk p
    · rw [hp] at h; exact absurd h (by decide)
    · exact ⟨h0, rfl⟩
theorem ask_no {s : S} {c : Int × M} {r : Rw} (h0 : s.left ≠ 0) (hc : c.1 ≠ 0) : s.ask c r = (c.1, s) := by unfold S.ask; rw [if_neg h0, if_neg hc]
theorem ask_yes {s : S} {c : Int × M} {r : Rw} (h0 : s.left ≠ 0) (hc : c.1 = 0) : s.ask c r = (0, s.did c.2 r) := by unfold S.ask; rw [if_neg h0, if_pos hc]
end Disk
end Go.Proofs.YtdogacgpfnolfaaGreatDoor
