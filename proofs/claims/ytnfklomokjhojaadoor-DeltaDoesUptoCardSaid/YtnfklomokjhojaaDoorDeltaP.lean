/- What makes one set of files another one, in plain words. -/
import Derived.Test.YtnfklomokjhojaaDoorDelta2
namespace Go.Proofs.YtnfklomokjhojaaDoor
set_option linter.unusedSimpArgs false
set_option linter.unusedVariables false
namespace Disk
def cls (b : M) (x : List UInt8 × T) : Nat := match SM.look b x.1 with
  | some y => if x.2.dir = y.dir then 0 else if x.2.dir then 2 else 1
  | none => if x.2.dir then 2 else 1
def cls2 (a : M) (y : List UInt8 × T) : Nat := match SM.look a y.1 with
  | some x => if x = y.2 then 0 else if y.2.dir then 3 else 4
  | none => if y.2.dir then 3 else 4
def unl (x : List UInt8 × T) : Dd := ⟨1, x.1, []⟩
def rmd (x : List UInt8 × T) : Dd := ⟨2, x.1, []⟩
def mkd (x : List UInt8 × T) : Dd := ⟨3, x.1, []⟩
def putd (x : List UInt8 × T) : Dd := ⟨4, x.1, x.2.data⟩
def pick (c : List UInt8 × T → Nat) (k : Nat) (f : List UInt8 × T → Dd) (l : M) : List Dd := (l.filter fun x => c x == k).map f
/-- The deeds that make a out of b. -/
def delta (a b : M) : List Dd := (pick (cls b) 1 unl a).reverse ++ ((pick (cls b) 2 rmd a).reverse ++ (pick (cls2 a) 3 mkd b ++ pick (cls2 a) 4 putd b))
def deedsRes (before after : List Fl) : List Dd × Int := match read before, read after with
  | some a, some b => (delta a b, 0)
  | _, _ => ([], 1)
/-- What has been picked of what is not to come. -/
def part (left : List UInt8 → Bool) (c : List UInt8 × T → Nat) (k : Nat) (f : List UInt8 × T → Dd) (l : M) : List Dd := (l.filter fun x => !left x.1 && c x == k).map f
theorem part_length (left : List UInt8 → Bool) (c : List UInt8 × T → Nat) (k : Nat) (f : List UInt8 × T → Dd) (l : M) : (part left c k f l).length ≤ l.length := by
  unfold part
  rw [List.length_map]
  exact List.length_filter_le _ _
theorem part_start (c : List UInt8 × T → Nat) (k : Nat) (f : List UInt8 × T → Dd) {l : M} (hl : SM.Rises l) : part (fun p => (SM.look l p).isSome) c k f l = [] := by
  unfold part
  rw [List.filter_eq_nil_iff.2 fun x hx => ?_]
  · rfl
  · show ¬ (!(SM.look l x.1).isSome && c x == k) = true
    rw [SM.look_mem hl hx]; simp
theorem part_end {left : List UInt8 → Bool} (h : ∀ p, left p = false) (c : List UInt8 × T → Nat) (k : Nat) (f : List UInt8 × T → Dd) (l : M) : part left c k f l = pick c k f l := by
  unfold part pick
  congr 1
  apply List.filter_congr
  intro x _
  rw [h]; simp
/-- The step. -/
theorem part_step {left : List UInt8 → Bool} {c : List UInt8 × T → Nat} {k : Nat} {f : List UInt8 × T → Dd} : ∀ {l : M}, SM.Rises l → ∀ {p : List UInt8} {t : T}, SM.look l p = some t → left p = true →
    (part (fun q => left q && !(q == p)) c k f l).Perm (part left c k f l ++ if c (p, t) == k then [f (p, t)] else [])
  | [], _, p, t, h, _ => by simp [SM.look_nil] at h
  | x :: r, hr, p, t, h, hp => by
    have h1 := List.pairwise_cons.1 hr
    rw [SM.look_cons] at h
    by_cases hx : x.1 = p
    · rw [if_pos hx] at h
      have hxt : x = (p, t) := by
        obtain ⟨a, b⟩ := x
        simp at hx h
        rw [hx, h]
      have hrest : part (fun q => left q && !(q == p)) c k f r = part left c k f r := by
        unfold part
        congr 1
        apply List.filter_congr
        intro y hy
        have : y.1 ≠ p := fun e => SM.before_ne (h1.1 y hy) (by rw [hx, e])
        show (!(left y.1 && !(y.1 == p)) && c y == k) = _
        rw [beq_eq_false_iff_ne.2 this]
        simp
      have hh : part left c k f (x :: r) = part left c k f r := by
        unfold part
        rw [List.filter_cons, if_neg]
        rw [hx, hp]; simp
      rw [hh, ← hrest]
      subst hxt
      unfold part
      rw [List.filter_cons]
      by_cases hc : (c (p, t) == k) = true
      · rw [if_pos (by simp [hc]), if_pos hc, List.map_cons]
        exact (List.perm_append_singleton _ _).symm
      · rw [if_neg (by simp [hc]), if_neg hc, List.append_nil]
    · rw [if_neg hx] at h
      have ih := part_step (c := c) (k := k) (f := f) h1.2 h hp
      unfold part at ih ⊢
      rw [List.filter_cons, List.filter_cons]
      have e : (left x.1 && !(x.1 == p)) = left x.1 := by rw [beq_eq_false_iff_ne.2 hx]; simp
      show (List.map f (if (!(left x.1 && !(x.1 == p)) && c x == k) = true then x :: List.filter (fun x => !(left x.1 && !(x.1 == p)) && c x == k) r else List.filter (fun x => !(left x.1 && !(x.1 == p)) && c x == k) r)).Perm _
      rw [e]
      split
      · exact List.Perm.cons _ ih
      · exact ih
theorem pick_rise {c : List UInt8 × T → Nat} {k : Nat} {f : List UInt8 × T → Dd} (hf : ∀ x, (f x).path = x.1) {l : M} (hl : SM.Rises l) : Rise (pick c k f l) := by
  unfold Rise pick
  rw [List.pairwise_map]
  refine List.Pairwise.filter _ (hl.imp fun {x y} h => ?_)
  rw [hf, hf]
  exact h
end Disk
end Go.Proofs.YtnfklomokjhojaaDoor
