/- Deeds, in plain words, and a row of deeds in memory. -/
import Derived.Test.YtnbjdfiembbmmaaDoorPlanPath
import Derived.Test.YtnbjdfiembbmmaaDoorRead
namespace Go.Proofs.YtnbjdfiembbmmaaDoor
open Go.RowKit
set_option linter.unusedSimpArgs false
set_option linter.unusedVariables false
namespace Plan
/-- A deed. -/
structure D where
  kind : Int
  path : List UInt8
  data : List UInt8
  deriving DecidableEq
def journal : List UInt8 := [47, 106, 111, 117, 114, 110, 97, 108]
def free (p : List UInt8) : Bool := !decide (p = journal) && !(journal ++ [47]).isPrefixOf p
/-- May a deed be, for itself, behind one of the kind least? -/
def okD (least : Int) (d : D) : Bool := decide (least ≤ d.kind) && (decide (d.kind ≤ 4) && ((decide (d.kind = 4) || d.data.isEmpty) && (pathOk d.path && free d.path)))
/-- May a deed of that kind be at a path at which k is noted? -/
def fits (k kind : Int) : Bool := decide (k = 0) || ((decide (k = 1) && decide (kind = 3)) || (decide (k = 2) && decide (kind = 4)))
/-- What is noted behind it. -/
def note (k kind : Int) : Int := if k = 0 then kind else -1
def upd (s : List UInt8 → Int) (p : List UInt8) (v : Int) : List UInt8 → Int := fun q => if q = p then v else s q
/-- Are deeds a plan, from here on? -/
def chk (least : Int) (s : List UInt8 → Int) : List D → Bool
  | [] => true
  | d :: r => okD least d && (fits (s d.path) d.kind && chk d.kind (upd s d.path (note (s d.path) d.kind)) r)
def ok (ds : List D) : Bool := chk 1 (fun _ => 0) ds
/-- What Check answers. -/
def code (ds : List D) : Int := if ok ds then 0 else 44
theorem code_yes {ds : List D} (h : ok ds = true) : code ds = 0 := by unfold code; rw [if_pos h]
theorem code_no {ds : List D} (h : ok ds = false) : code ds = 44 := by unfold code; rw [h]; rfl
end Plan
/-- The cells of a deed. -/
def dcells (d : Plan.D) : Array Value := #[.int .i64 d.kind, .string (bs d.path), .string (bs d.data)]
/-- The slice v has the deeds ds, in blocks below B. -/
structure Deeds (w : World) (B : Nat) (v : Value) (ds : List Plan.D) : Prop where
  is : ∃ a cap, v = .slice a ds.length cap ∧ ∀ (i : Nat) d, ds[i]? = some d → ∃ bk o, a = some ⟨bk, o, none⟩ ∧ bk < B ∧
    w.cell? ⟨bk, o + i * 3, none⟩ = some (.int .i64 d.kind) ∧ w.cell? ⟨bk, o + i * 3 + 1, none⟩ = some (.string (bs d.path)) ∧ w.cell? ⟨bk, o + i * 3 + 2, none⟩ = some (.string (bs d.data))
theorem Deeds.nil (w : World) (B : Nat) : Deeds w B (.slice none 0 0) [] := ⟨none, 0, rfl, fun i d h => by simp at h⟩
theorem Deeds.form {w : World} {B : Nat} {v : Value} {ds : List Plan.D} (h : Deeds w B v ds) : ∃ a cap, v = .slice a ds.length cap := by
  obtain ⟨a, cap, rfl, _⟩ := h.is
  exact ⟨a, cap, rfl⟩
theorem Deeds.at {w : World} {B : Nat} {v : Value} {ds : List Plan.D} (h : Deeds w B v ds) (hn : 0 < ds.length) : ∃ bk o cap, v = .slice (some ⟨bk, o, none⟩) ds.length cap ∧ bk < B ∧ ∀ (i : Nat) d, ds[i]? = some d →
    w.cell? ⟨bk, o + i * 3, none⟩ = some (.int .i64 d.kind) ∧ w.cell? ⟨bk, o + i * 3 + 1, none⟩ = some (.string (bs d.path)) ∧ w.cell? ⟨bk, o + i * 3 + 2, none⟩ = some (.string (bs d.data)) := by
  obtain ⟨a, cap, rfl, hc⟩ := h.is
  obtain ⟨bk, o, ha, hB, _⟩ := hc 0 ds[0] (List.getElem?_eq_getElem hn)
  subst ha
  refine ⟨bk, o, cap, rfl, hB, fun i d hd => ?_⟩
  obtain ⟨bk', o', ha', _, h1, h2, h3⟩ := hc i d hd
  cases ha'
  exact ⟨h1, h2, h3⟩
theorem Deeds.below {w w' : World} {n B : Nat} {v : Value} {ds : List Plan.D} (h : Deeds w B v ds) (hb : Below n w w') (hB : B ≤ n) : Deeds w' B v ds := by
  obtain ⟨a, cap, rfl, hc⟩ := h.is
  refine ⟨a, cap, rfl, fun i d hd => ?_⟩
  obtain ⟨bk, o, ha, hb', h1, h2, h3⟩ := hc i d hd
  refine ⟨bk, o, ha, hb', ?_, ?_, ?_⟩
  · rw [hb.cell (p := ⟨bk, o + i * 3, none⟩) (by show bk < n; omega)]; exact h1
  · rw [hb.cell (p := ⟨bk, o + i * 3 + 1, none⟩) (by show bk < n; omega)]; exact h2
  · rw [hb.cell (p := ⟨bk, o + i * 3 + 2, none⟩) (by show bk < n; omega)]; exact h3
theorem Deeds.mono {w : World} {B B' : Nat} {v : Value} {ds : List Plan.D} (h : Deeds w B v ds) (hB : B ≤ B') : Deeds w B' v ds := by
  obtain ⟨a, cap, rfl, hc⟩ := h.is
  refine ⟨a, cap, rfl, fun i d hd => ?_⟩
  obtain ⟨bk, o, ha, hb', h1⟩ := hc i d hd
  exact ⟨bk, o, ha, by omega, h1⟩
end Go.Proofs.YtnbjdfiembbmmaaDoor
