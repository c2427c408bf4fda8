/- What the texts on disks and deeds share. -/
import Derived.Test.YtdogacgpfnolfaaGreatDoorSMap
import Derived.Test.YtdogacgpfnolfaaGreatDoorDiskP
import Derived.Laws.AppendOwn
import Derived.OwnWalk
import Derived.Maps.AppendAt
import Derived.Test.YtdogacgpfnolfaaGreatDoorAppend
namespace Go.Proofs.YtdogacgpfnolfaaGreatDoor
open Go.RowKit Go.Maps
set_option linter.unusedSimpArgs false
set_option linter.unusedVariables false
namespace Disk
/-- A deed. -/
structure Dd where
  kind : Int
  path : List UInt8
  data : List UInt8
  deriving DecidableEq, Inhabited
def pick (c : List UInt8 × T → Nat) (k : Nat) (f : List UInt8 × T → Dd) (l : M) : List Dd := (l.filter fun x => c x == k).map f
/-- What has been picked of what is not to come. -/
def part (left : List UInt8 → Bool) (c : List UInt8 × T → Nat) (k : Nat) (f : List UInt8 × T → Dd) (l : M) : List Dd := (l.filter fun x => !left x.1 && c x == k).map f
theorem part_length (left : List UInt8 → Bool) (c : List UInt8 × T → Nat) (k : Nat) (f : List UInt8 × T → Dd) (l : M) : (part left c k f l).length ≤ l.length := by
  unfold part
  rw [List.length_map]
  exact List.length_filter_le _ _
theorem part_start (c : List UInt8 × T → Nat) (k : Nat) (f : List UInt8 × T → Dd) {l : M} (hl : SM.Rises l) : part (fun p => (SM.look l p).isSome) c k f l = [] := by
  unfold part
  rw [List.filter_eq_nil_iff.2 fun x hx => ?_]
  · rfl
  · show ¬ (!(SM.look l x.1).isSome && c x == k) = true
    rw [SM.look_mem hl hx]; simp
theorem part_end {left : List UInt8 → Bool} (h : ∀ p, left p = false) (c : List UInt8 × T → Nat) (k : Nat) (f : List UInt8 × T → Dd) (l : M) : part left c k f l = pick c k f l := by
  unfold part pick
  congr 1
  apply List.filter_congr
  intro x _
  rw [h]; simp
/-- The step. -/
theorem part_step {left : List UInt8 → Bool} {c : List UInt8 × T → Nat} {k : Nat} {f : List UInt8 × T → Dd} : ∀ {l : M}, SM.Rises l → ∀ {p : List UInt8} {t : T}, SM.look l p = some t → left p = true →
    (part (fun q => left q && !(q == p)) c k f l).Perm (part left c k f l ++ if c (p, t) == k then [f (p, t)] else [])
  | [], _, p, t, h, _ => by simp [SM.look_nil] at h
  | x :: r, hr, p, t, h, hp => by
    have h1 := List.pairwise_cons.1 hr
    rw [SM.look_cons] at h
    by_cases hx : x.1 = p
    · rw [if_pos hx] at h
      have hxt : x = (p, t) := by
        obtain ⟨a, b⟩ := x
        simp at hx h
        rw [hx, h]
      have hrest : part (fun q => left q && !(q == p)) c k f r = part left c k f r := by
        unfold part
        congr 1
        apply List.filter_congr
        intro y hy
        have : y.1 ≠ p := fun e => SM.before_ne (h1.1 y hy) (by rw [hx, e])
        show (!(left y.1 && !(y.1 == p)) && c y == k) = _
        rw [beq_eq_false_iff_ne.2 this]
        simp
      have hh : part left c k f (x :: r) = part left c k f r := by
        unfold part
        rw [List.filter_cons, if_neg]
        rw [hx, hp]; simp
      rw [hh, ← hrest]
      subst hxt
      unfold part
      rw [List.filter_cons]
      by_cases hc : (c (p, t) == k) = true
      · rw [if_pos (by simp [hc]), if_pos hc, List.map_cons]
        exact (List.perm_append_singleton _ _).symm
      · rw [if_neg (by simp [hc]), if_neg hc, List.append_nil]
    · rw [if_neg hx] at h
      have ih := part_step (c := c) (k := k) (f := f) h1.2 h hp
      unfold part at ih ⊢
      rw [List.filter_cons, List.filter_cons]
      have e : (left x.1 && !(x.1 == p)) = left x.1 := by rw [beq_eq_false_iff_ne.2 hx]; simp
      show (List.map f (if (!(left x.1 && !(x.1 == p)) && c x == k) = true then x :: List.filter (fun x => !(left x.1 && !(x.1 == p)) && c x == k) r else List.filter (fun x => !(left x.1 && !(x.1 == p)) && c x == k) r)).Perm _
      rw [e]
      split
      · exact List.Perm.cons _ ih
      · exact ih
end Disk
theorem new_cells (w : World) (cs : List Value) (t : TypeId) : ∀ (j : Nat) u, cs[j]? = some u → (w.alloc (.cells cs.toArray t)).cell? ((⟨w.heap.size, 0, none⟩ : Addr).add j) = some u := by
  intro j u hu
  have e : (⟨w.heap.size, 0, none⟩ : Addr).add j = ⟨w.heap.size, j, none⟩ := by
    unfold Addr.add
    split
    · next h => rw [h]
    · simp
  rw [e, World.cell?_alloc_new]
  simpa using hu
theorem new_cells2 (w : World) (n : Nat) (hn : w.heap.size = n) (cs : List Value) (t : TypeId) : ∀ (j : Nat) u, cs[j]? = some u → (w.alloc (.cells cs.toArray t)).cell? ((⟨n, 0, none⟩ : Addr).add j) = some u := by
  subst hn
  exact new_cells w cs t
end Go.Proofs.YtdogacgpfnolfaaGreatDoor
