/- A disk in memory: what is at a path. -/
import Derived.Test.YtdogacgpfnolfaaGreatDoorDiskW1
import Derived.BigQuiet
import Derived.Deep.RegionWith
import Derived.RegionTactic
import Derived.StillTailTactics
namespace Go.Proofs.YtdogacgpfnolfaaGreatDoor
open Go.RowKit Go.Maps
set_option linter.unusedSimpArgs false
set_option linter.unusedVariables false
/-- A region whose first n operations read, or call quietly, in whatever order; then its tail, in the order of the text. -/
theorem still_tail {P : Program} {id : Nat} {Q : Exit → Act → World → Prop} {a : Act} {w : World} {l : List Oper} (n : Nat) (hm : P.follows .mixedOrders = true) (hB : Region.lexTailB .any l.toArray n = true)
    (h : ∀ w2, w2 = w.drew → wpStill P l.toArray w2 (fun a' => wpList P l.toArray Q (l.drop n) a' w2) (l.take n) a) : (Code.region id l.toArray true).wp P Q a w :=
  wp_region_still_tail n hm hB (h _ rfl)
/-- The things of a disk. -/
abbrev Things (w : World) (b n : Nat) (l : Disk.M) : Prop := SMap Tryz.prog 9 elT w b n l
def zeroT : Disk.T := ⟨false, []⟩
theorem zT (w : World) : (zeroValue 63).run Tryz.prog w = .ok (elT.val zeroT) w := by kernel_rfl
set_option maxHeartbeats 4000000 in
set_option maxRecDepth 100000 in
theorem kind_any {w : World} {sd bm n : Nat} {l : Disk.M} (hT : w.cell? ⟨sd, 0, none⟩ = some (.map (some bm))) (hM : Things w bm n l) (p : ByteArray) (hp : p.size ≤ maxLen) :
    Calls Tryz.prog 11 #[.pointer (some ⟨sd, 0, none⟩), .string p] w fun e w' => e = .returned (.int .i64 (Disk.kind l p.data.toList)) ∧ Below w.heap.size w w' := by
  have e1 := str_eq_lit p [47]
  have HM := Lib.hid hM
  have hsd := size_of_cell hT
  clear hM
  have HB : Hid (∀ (t : Disk.T), Below w.heap.size w (w.alloc (.cells #[.bool t.dir, .string (bs t.data)] 63))) := Lib.hid (fun t => (Below.refl _ w).alloc (Nat.le_refl _) _)
  cases hl : SM.look l p.data.toList with
  | none =>
    have HV : Hid (elT.val ((SM.look l p.data.toList).getD zeroT) = .agg #[.bool false, .string ⟨#[]⟩] ∧ (SM.look l p.data.toList).isSome = false) := Lib.hid (by rw [hl]; exact ⟨rfl, rfl⟩)
    by_cases h1 : p.data.toList = [47]
    · have HK : Hid (Disk.kind l p.data.toList = 2) := Lib.hid (by unfold Disk.kind; rw [if_pos h1])
      rw [decide_eq_true h1] at e1
      clear h1 hl
      go_enter Tryz.func11, Tryz.ntmps11
      go_wp2_with (first | (at_lookup; refine wpList_look_ok elT rfl _ _ 55 rfl 63 Tryz.underlying9 Tryz.underlying55 zeroT (zT _) rfl HM.out p hp rfl _ HV.out.1 _ HV.out.2 ?_))
      go_returns
      exact ⟨by rw [HK.out]; rfl, HB.out ⟨false, []⟩⟩
    · have HK : Hid (Disk.kind l p.data.toList = 0) := Lib.hid (by unfold Disk.kind; rw [if_neg h1, hl])
      rw [decide_eq_false h1] at e1
      clear h1 hl
      go_enter Tryz.func11, Tryz.ntmps11
      go_wp2_with (first | (at_lookup; refine wpList_look_ok elT rfl _ _ 55 rfl 63 Tryz.underlying9 Tryz.underlying55 zeroT (zT _) rfl HM.out p hp rfl _ HV.out.1 _ HV.out.2 ?_))
      go_returns
      exact ⟨by rw [HK.out]; rfl, HB.out ⟨false, []⟩⟩
  | some t =>
    have HV : Hid (elT.val ((SM.look l p.data.toList).getD zeroT) = .agg #[.bool t.dir, .string (bs t.data)] ∧ (SM.look l p.data.toList).isSome = true) := Lib.hid (by rw [hl]; exact ⟨rfl, rfl⟩)
    by_cases h1 : p.data.toList = [47]
    · have HK : Hid (Disk.kind l p.data.toList = 2) := Lib.hid (by unfold Disk.kind; rw [if_pos h1])
      rw [decide_eq_true h1] at e1
      clear h1 hl
      go_enter Tryz.func11, Tryz.ntmps11
      go_wp2_with (first | (at_lookup; refine wpList_look_ok elT rfl _ _ 55 rfl 63 Tryz.underlying9 Tryz.underlying55 zeroT (zT _) rfl HM.out p hp rfl _ HV.out.1 _ HV.out.2 ?_))
      go_returns
      exact ⟨by rw [HK.out]; rfl, HB.out t⟩
    · have HK : Hid (Disk.kind l p.data.toList = if t.dir then 2 else 1) := Lib.hid (by unfold Disk.kind; rw [if_neg h1, hl])
      rw [decide_eq_false h1] at e1
      clear h1 hl
      cases hd : t.dir
      all_goals
        have HD := Lib.hid hd
        rw [hd] at HV HK
        have HB2 := Lib.hid (HB.out t)
        rw [hd] at HB2
        clear hd
        go_enter Tryz.func11, Tryz.ntmps11
        go_wp2_with (first | (at_lookup; refine wpList_look_ok elT rfl _ _ 55 rfl 63 Tryz.underlying9 Tryz.underlying55 zeroT (zT _) rfl HM.out p hp rfl _ HV.out.1 _ HV.out.2 ?_))
        go_returns
        exact ⟨by rw [HK.out]; rfl, HB2.out⟩
end Go.Proofs.YtdogacgpfnolfaaGreatDoor
