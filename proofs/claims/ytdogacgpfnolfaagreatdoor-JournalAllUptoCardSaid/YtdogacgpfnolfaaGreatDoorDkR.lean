/- The document's disk: Rename: the walk. -/
import Derived.Test.YtdogacgpfnolfaaGreatDoorDkA
import Derived.Test.YtdogacgpfnolfaaGreatDoorRefLoad
import Derived.Deep.RegionHeld3
import Derived.Test.YtdogacgpfnolfaaGreatDoorDiskA6
import Derived.Test.YtdogacgpfnolfaaGreatDoorDiskM
import Derived.Test.YtdogacgpfnolfaaGreatDoorRead
namespace Go.Proofs.YtdogacgpfnolfaaGreatDoor
open Go.RowKit Go.Maps
set_option linter.unusedSimpArgs false
set_option linter.unusedVariables false
theorem kind_one {l : Disk.M} {p : List UInt8} (h0 : Disk.kind l p ≠ 0) (h2 : Disk.kind l p ≠ 2) : ∃ (k : Nat) (t : List UInt8), l[k]? = some (p, (⟨false, t⟩ : Disk.T)) ∧ SM.look l p = some ⟨false, t⟩ := by
  unfold Disk.kind at h0 h2
  by_cases hp : p = [47]
  · rw [if_pos hp] at h2; exact absurd rfl h2
  · rw [if_neg hp] at h0 h2
    cases hl : SM.look l p with
    | none => rw [hl] at h0; exact absurd rfl h0
    | some t =>
      rw [hl] at h2
      obtain ⟨d, t⟩ := t
      cases d
      · obtain ⟨k, hk, e⟩ := List.mem_iff_getElem.1 (SM.look_some hl)
        exact ⟨k, t, by rw [List.getElem?_eq_getElem hk, e], rfl⟩
      · exact absurd rfl h2
end Go.Proofs.YtdogacgpfnolfaaGreatDoor

namespace Go.Proofs.YtdogacgpfnolfaaGreatDoor
open Go.RowKit Go.Maps
set_option linter.unusedSimpArgs false
set_option linter.unusedVariables false
theorem DskAt.clear {w : World} {B : Nat} {O : Nat → Prop} {sd bm m : Nat} {rv : Value} {s : Disk.S} (h : DskAt w B O sd bm m rv s) : DskAt (w.setCell ⟨sd, 1, none⟩ (.slice none 0 0)) B O sd bm m (.slice none 0 0) ⟨s.l, [], s.left⟩ ∧ w.grownBy (w.setCell ⟨sd, 1, none⟩ (.slice none 0 0)) (some sd) := by
  have hg := setCell_grows w ⟨sd, 1, none⟩ (.slice none 0 0)
  have hne := h.d.ne
  refine ⟨⟨⟨?_, World.cell?_setCell_same' _ _ _ (by rw [h.d.c1]; rfl), ?_, fun j => by rw [World.frozen?_setCell]; exact h.d.fr j, h.d.things.kept hg (fun e => hne (Option.some.inj e).symm), h.d.sdb, h.d.bmb⟩, World.ownsRow_nil _ _ _ _, by simp [Value.ownBlock], by simp [Value.ownBlock], h.os, h.ob, fun g hg => (by cases hg), fun k hk => ⟨(h.lim k hk).1, by simpa [World.setCell] using (h.lim k hk).2⟩⟩, hg⟩
  · rw [World.cell?_setCell_other _ _ _ _ (by simp)]; exact h.d.c0
  · rw [World.cell?_setCell_other _ _ _ _ (by simp)]; exact h.d.c2
theorem clear_disk {w : World} {B : Nat} {O : Nat → Prop} {sd n : Nat} {s : Disk.S} (h : Dsk w B O sd n s) :
    Calls Tryz.prog 14 #[.pointer (some ⟨sd, 0, none⟩)] w fun e w' => e = .returned (.tuple #[]) ∧ DskNow w w' B O sd n ⟨s.l, [], s.left⟩ := by
  obtain ⟨bm, m, rv, ⟨hm, hr, hl, hok⟩, h⟩ := h
  have H := Lib.hid h.clear
  have HO := Lib.hid h.os
  have HOK := Lib.hid hok
  have d1 := h.d.c1
  have d3 := h.d.fr 1
  obtain ⟨a1, c1, rfl⟩ := own_form h.row
  clear h hok
  go_enter Tryz.func14, Tryz.ntmps14
  go_wp2
  go_returns
  exact ⟨rfl, ⟨O, ⟨bm, m, _, ⟨hm, by simp, hl, HOK.out⟩, H.out.1⟩, fun k h => Or.inl h⟩, Keeps.of_grown H.out.2 (fun k e => by rw [← Option.some.inj e]; exact HO.out)⟩
end Go.Proofs.YtdogacgpfnolfaaGreatDoor

namespace Go.Proofs.YtdogacgpfnolfaaGreatDoor
open Go.RowKit Go.Maps
set_option linter.unusedSimpArgs false
set_option linter.unusedVariables false
theorem AskPost.ahead {w w1 w' : World} {B : Nat} {O : Nat → Prop} {sd n : Nat} {r : Int × Disk.S} {e : Ending} (hb : Below w.heap.size w w1) (h : AskPost w1 B O sd n r e w') : AskPost w B O sd n r e w' := ⟨h.1, DskNow.ahead (Keeps.of_below hb) h.2⟩
theorem DskNow.at {w w' : World} {B : Nat} {O : Nat → Prop} {sd n : Nat} {s : Disk.S} (h : DskNow w w' B O sd n s) (hO : ∀ k, O k → B ≤ k) (hB : B ≤ w.heap.size) : Below B w w' := h.keeps.to_below hO hB
/-- Two disks side by side, and blocks Z that are neither's. -/
def Two (w : World) (B : Nat) (Z : Nat → Prop) (sa sb n : Nat) (a b : Disk.S) : Prop := ∃ OA OB, Dsk w B OA sa n a ∧ Dsk w B OB sb n b ∧ (∀ k, OA k → ¬ OB k) ∧ ∀ k, Z k → ¬ OA k ∧ ¬ OB k ∧ k < w.heap.size
theorem Dsk.base {w : World} {B : Nat} {O : Nat → Prop} {sd n : Nat} {s : Disk.S} (h : Dsk w B O sd n s) : B ≤ w.heap.size := by
  obtain ⟨bm, m, rv, _, h⟩ := h
  have := h.lim sd h.os
  omega
theorem Two.act {P : Program} {f : FuncId} {args : Array Value} {Q : Ending → Prop} {w : World} {B : Nat} {Z : Nat → Prop} {sa sb n n' : Nat} {a b a' : Disk.S} (h : Two w B Z sa sb n a b) (hn : n ≤ n')
    (hc : ∀ O, Dsk w B O sa n a → Calls P f args w fun e w' => Q e ∧ DskNow w w' B O sa n' a') : Calls P f args w fun e w' => Q e ∧ Two w' B Z sa sb n' a' b ∧ Below B w w' ∧ ∀ k, Z k → w'.heap[k]? = w.heap[k]? := by
  obtain ⟨OA, OB, h1, h2, h3, h4⟩ := h
  refine (hc OA h1).mono ?_
  rintro e w' ⟨he, ⟨O', k1, k2⟩, k3⟩
  refine ⟨he, ⟨O', OB, k1, (h2.keeps k3 (fun k hb ha => h3 k ha hb)).more hn, fun k hk hb => ?_, fun k hk => ⟨fun hk2 => ?_, (h4 k hk).2.1, Nat.lt_of_lt_of_le (h4 k hk).2.2 k3.size⟩⟩, k3.to_below (fun k hk => (h1.lim k hk).1) h1.base, fun k hk => k3.block k (h4 k hk).2.2 (h4 k hk).1⟩
  · rcases k2 k hk with hh | hh
    · exact h3 k hh hb
    · have := (h2.lim k hb).2; omega
  · rcases k2 k hk2 with hh | hh
    · exact (h4 k hk).1 hh
    · have := (h4 k hk).2.2; omega
theorem Two.below {w w' : World} {B : Nat} {Z : Nat → Prop} {sa sb n : Nat} {a b : Disk.S} (h : Two w B Z sa sb n a b) (hb : Below w.heap.size w w') : Two w' B Z sa sb n a b := by
  obtain ⟨OA, OB, h1, h2, h3, h4⟩ := h
  exact ⟨OA, OB, h1.below hb, h2.below hb, h3, fun k hk => ⟨(h4 k hk).1, (h4 k hk).2.1, Nat.lt_of_lt_of_le (h4 k hk).2.2 hb.size⟩⟩
theorem Two.more {w : World} {B : Nat} {Z : Nat → Prop} {sa sb n n' : Nat} {a b : Disk.S} (h : Two w B Z sa sb n a b) (hn : n ≤ n') : Two w B Z sa sb n' a b := by
  obtain ⟨OA, OB, h1, h2, h3, h4⟩ := h
  exact ⟨OA, OB, h1.more hn, h2.more hn, h3, h4⟩
/-- A disk, and one that is made beside it. -/
theorem Two.made {w w' : World} {B : Nat} {sa sb n : Nat} {a b : Disk.S} {OA OB : Nat → Prop} (h1 : Dsk w B OA sa n a) (hb : Below w.heap.size w w') (h2 : Dsk w' B OB sb n b) (hO : ∀ k, OB k → w.heap.size ≤ k) : Two w' B (fun _ => False) sa sb n a b :=
  ⟨OA, OB, h1.below hb, h2, fun k ha hb2 => by have := (h1.lim k ha).2; have := hO k hb2; omega, fun k hk => hk.elim⟩
end Go.Proofs.YtdogacgpfnolfaaGreatDoor
