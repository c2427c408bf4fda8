/- plan.Parse: the walk. -/
import Derived.Test.YtnbjdfiembbmmaaDoorPlanParseP
import Derived.Test.YtnbjdfiembbmmaaDoorPlanCheck
import Derived.Test.YtnbjdfiembbmmaaDoorScanParts
import Derived.Test.YtnbjdfiembbmmaaDoorWild
import Derived.Deep.RegionWith
namespace Go.Proofs.YtnbjdfiembbmmaaDoor
open Go.RowKit
set_option linter.unusedSimpArgs false
set_option linter.unusedVariables false
theorem infoDeed : (Tryd.prog.info? 54).map (fun i => (i.zero, i.size, i.bytes)) = some (some (.agg #[.int .i64 0, .string ByteArray.empty, .string ByteArray.empty]), 3, 40) := by kernel_rfl
def deedCells (ds : List Plan.D) : List Value := ds.flatMap fun d => (dcells d).toList
theorem deedCells_length (ds : List Plan.D) : (deedCells ds).length = ds.length * 3 := by
  induction ds with
  | nil => rfl
  | cons d r ih =>
    show ((dcells d).toList ++ deedCells r).length = _
    rw [List.length_append, ih, List.length_cons]
    show 3 + _ = _
    omega
theorem deedCells_at : ∀ (ds : List Plan.D) (i : Nat) (d : Plan.D), ds[i]? = some d → (deedCells ds)[i * 3]? = some (.int .i64 d.kind) ∧ (deedCells ds)[i * 3 + 1]? = some (.string (bs d.path)) ∧ (deedCells ds)[i * 3 + 2]? = some (.string (bs d.data))
  | [], i, d, h => by simp at h
  | x :: r, 0, d, h => by simp at h; subst h; exact ⟨rfl, rfl, rfl⟩
  | x :: r, i + 1, d, h => by
    have ih := deedCells_at r i d (by simpa using h)
    have e : ∀ j, (deedCells (x :: r))[j + 3]? = (deedCells r)[j]? := fun j => rfl
    rw [show (i + 1) * 3 = i * 3 + 3 by omega, show i * 3 + 3 + 1 = (i * 3 + 1) + 3 by omega, show i * 3 + 3 + 2 = (i * 3 + 2) + 3 by omega, e, e, e]
    exact ih
theorem Deeds.of_own {w : World} {base : Nat} {e : TypeId} {v : Value} {ds : List Plan.D} (h : w.ownsRow base e 3 v ds.length (deedCells ds)) : Deeds w w.heap.size v ds := by
  rcases h.2 with ⟨rfl, h0⟩ | ⟨g, cap, cur, rfl, hb, hg, hnc, _⟩
  · have : ds = [] := List.length_eq_zero_iff.1 h0
    subst this
    exact Deeds.nil _ _
  · have hgs : g < w.heap.size := (Array.getElem?_eq_some_iff.1 hg).1
    refine ⟨some ⟨g, 0, none⟩, cap, rfl, fun i d hd => ⟨g, 0, rfl, hgs, ?_⟩⟩
    have hi := (List.getElem?_eq_some_iff.1 hd).1
    obtain ⟨h1, h2, h3⟩ := deedCells_at ds i d hd
    simp only [Nat.zero_add]
    exact ⟨by rw [h.cellAt _ (by omega)]; exact h1, by rw [h.cellAt _ (by omega)]; exact h2, by rw [h.cellAt _ (by omega)]; exact h3⟩
/-- slices.Index among the kinds' words. -/
theorem IndexKind (b c : Nat) (x : ByteArray) (w : World) (h : ∀ (j : Nat) u, ([.string ⟨#[]⟩, .string ⟨#[117, 110, 108, 105, 110, 107]⟩, .string ⟨#[114, 109, 100, 105, 114]⟩, .string ⟨#[109, 107, 100, 105, 114]⟩, .string ⟨#[112, 117, 116]⟩] : List Value)[j]? = some u → w.cell? ⟨b, j, none⟩ = some u) :
    Calls Tryd.prog 41 #[.slice (some ⟨b, 0, none⟩) 5 c, .string x] w fun e w' => e = .returned (.int .i64 (Plan.kindOf x.data.toList)) ∧ w' = w := by
  have := Tryd.slices_Index_string b 0 5 c [ByteArray.empty, bs Plan.wUnlink, bs Plan.wRmdir, bs Plan.wMkdir, bs Plan.wPut] x w (by simp) (by omega) (fun j hj => by
    have hj5 : j < 5 := by simpa using hj
    rw [Nat.zero_add]
    apply h
    match j, hj5 with
    | 0, _ => rfl
    | 1, _ => rfl
    | 2, _ => rfl
    | 3, _ => rfl
    | 4, _ => rfl)
  rw [show ([ByteArray.empty, bs Plan.wUnlink, bs Plan.wRmdir, bs Plan.wMkdir, bs Plan.wPut]).take 5 = [ByteArray.empty, bs Plan.wUnlink, bs Plan.wRmdir, bs Plan.wMkdir, bs Plan.wPut] from rfl, Plan.kind_words] at this
  exact this
/-- slices.Equal with the first line. -/
theorem EqualPlan {w : World} {B : Nat} {v : Value} {l : List (List UInt8)} (h : Row w B v (l.map sv)) (hp : 0 < l.length) (hl : l.length ≤ 9223372036854775807) (b2 : Nat) (hc : w.cell? ⟨b2, 0, none⟩ = some (.string ⟨#[112, 108, 97, 110]⟩)) :
    Calls Tryd.prog 40 #[v, .slice (some ⟨b2, 0, none⟩) 1 1] w fun e w' => e = .returned (.bool (decide (l = [Plan.planW]))) ∧ ∃ q, w' = w.drewN q := by
  obtain ⟨bk, o, cap, rfl, _, _, hcell⟩ := h.at (by simpa using hp)
  rw [List.length_map]
  by_cases h1 : l.length = 1
  · obtain ⟨x, rfl⟩ := List.length_eq_one_iff.1 h1
    have := Tryd.slices_Equal_string bk o 1 cap b2 0 1 1 [bs x] [bs Plan.planW] w (by simp) (by simp) (by omega) (by omega) (fun j hj => by
      have : j = 0 := by simpa using hj
      subst this
      exact hcell 0 (sv x) rfl) (fun j hj => by
      have : j = 0 := by simpa using hj
      subst this
      exact hc)
    refine this.mono fun e w' ⟨he, hq⟩ => ⟨?_, hq⟩
    rw [he]
    congr 2
    by_cases hx : x = Plan.planW
    · subst hx; simp
    · have : ¬ bs x = bs Plan.planW := fun e => hx (by
        have := congrArg (fun s : ByteArray => s.data.toList) e
        exact this)
      simp [hx, this]
  · have := Tryd.slices_Equal_string_lens (some ⟨bk, o, none⟩) (some ⟨b2, 0, none⟩) l.length cap 1 1 w h1
    refine this.mono fun e w' ⟨he, hw⟩ => ⟨?_, 0, by rw [hw]; rfl⟩
    rw [he, decide_eq_false (fun e => h1 (by rw [e]; rfl))]
end Go.Proofs.YtnbjdfiembbmmaaDoor
