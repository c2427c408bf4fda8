/- What PlanAgain's plan is, for the disk. -/
import Derived.Test.YtdogacgpfnolfaaGreatDoorPL
import Derived.Test.YtdogacgpfnolfaaGreatDoorPAgainP
namespace Go.Proofs.YtdogacgpfnolfaaGreatDoor
open Go.RowKit Go.Maps
set_option linter.unusedSimpArgs false
set_option linter.unusedVariables false
namespace Disk
theorem load_hung {fs : List Fl} {l : M} (h : load fs = some l) : Hung l := by
  have hr := load_rises h
  unfold load at h
  cases hf : fill [] fs with
  | none => rw [hf] at h; exact absurd h (by simp)
  | some m =>
    rw [hf] at h
    dsimp only at h
    split at h
    · rename_i hh
      cases h
      obtain ⟨h1, h2, h3⟩ := fill_look hf
      have h4 := fill_ok hf
      have hd : ∀ (p : List UInt8) (t : T), SM.look l p = some t → t.dir = true → t = ⟨true, []⟩ := fun p t hp hdir => by
        rcases h1 p t hp with hh | ⟨f, hf, _, e⟩
        · exact absurd hh (by simp [SM.look_nil])
        · subst e
          have := (h4 f hf).2 hdir
          show (⟨f.dir, f.data⟩ : T) = _
          rw [this, show f.dir = true from hdir]
      refine ⟨hr, fun p t hp => ?_, hd, fun p t hp => ?_⟩
      · rcases h1 p t hp with hh | ⟨f, hf, e, _⟩
        · exact absurd hh (by simp [SM.look_nil])
        · rw [← e]; exact (h4 f hf).1
      · have := List.all_eq_true.1 hh _ (SM.look_some hp)
        rcases kind_two (beq_iff_eq.1 this) with hk | ⟨t', ht', hd'⟩
        · exact Or.inl hk
        · exact Or.inr (by rw [ht', hd _ _ ht' hd'])
    · exact absurd h (by simp)
end Disk
theorem load_hung {fs : List Disk.Fl} {l : Disk.M} (h : Disk.load fs = some l) : Disk.Hung l := Disk.load_hung h
theorem pathOk_eq (p : List UInt8) : PL.Plan.pathOk p = Disk.pathOk p := by
  cases p <;> rfl
def toDd (d : PL.Plan.D) : Disk.Dd := ⟨d.kind, d.path, d.data⟩
theorem plan_paired {ds : List PL.Plan.D} (h : PL.Plan.ok ds = true) : Disk.paired (ds.map toDd) := by
  have step : ∀ (j : Nat) (b : PL.Plan.D), ds[j]? = some b → PL.Plan.stepOk (ds.take j) b = true := fun j b hb => by
    have e : ds.take (j + 1) = ds.take j ++ [b] := by rw [List.take_add_one, hb]; rfl
    have h1 : PL.Plan.ok (ds.take (j + 1)) = true := PL.Plan.ok_ahead (b := ds.drop (j + 1)) (by rw [List.take_append_drop]; exact h)
    have h0 : PL.Plan.ok (ds.take j) = true := PL.Plan.ok_ahead (b := ds.drop j) (by rw [List.take_append_drop]; exact h)
    rw [e, PL.Plan.ok_step h0] at h1
    exact h1
  refine ⟨fun d hd => ?_, fun i j a b hij ha hb e => ?_⟩
  · obtain ⟨x, hx, rfl⟩ := List.mem_map.1 hd
    obtain ⟨j, hj, ej⟩ := List.mem_iff_getElem.1 hx
    have := step j x (by rw [List.getElem?_eq_getElem hj, ej])
    unfold PL.Plan.stepOk PL.Plan.okD at this
    simp only [Bool.and_eq_true] at this
    show Disk.pathOk x.path = true
    rw [← pathOk_eq]
    exact this.1.2.2.2.1
  · rw [List.getElem?_map] at ha hb
    obtain ⟨x, hx, rfl⟩ := Option.map_eq_some_iff.1 ha
    obtain ⟨y, hy, rfl⟩ := Option.map_eq_some_iff.1 hb
    have := step j y hy
    unfold PL.Plan.stepOk at this
    simp only [Bool.and_eq_true] at this
    have hm : x ∈ PL.Plan.met (ds.take j) y.path := by
      unfold PL.Plan.met
      refine List.mem_filter.2 ⟨List.mem_of_getElem? (i := i) (by rw [List.getElem?_take, if_pos hij]; exact hx), decide_eq_true ?_⟩
      exact e.symm
    have hp := List.all_eq_true.1 this.2.2 x hm
    unfold PL.Plan.pairB at hp
    simp only [Bool.or_eq_true, Bool.and_eq_true, beq_iff_eq] at hp
    exact hp
end Go.Proofs.YtdogacgpfnolfaaGreatDoor
