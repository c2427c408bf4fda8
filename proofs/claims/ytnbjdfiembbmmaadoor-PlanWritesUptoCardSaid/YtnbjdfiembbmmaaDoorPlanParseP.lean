/- A text as deeds: plain words. -/
import Derived.Test.YtnbjdfiembbmmaaDoorPlanPrint
import Derived.Test.YtnbjdfiembbmmaaDoorPlanData
namespace Go.Proofs.YtnbjdfiembbmmaaDoor
open Go.RowKit
set_option linter.unusedSimpArgs false
set_option linter.unusedVariables false
namespace Plan
def kindOf (w : List UInt8) : Int := if w = [] then 0 else if w = wUnlink then 1 else if w = wRmdir then 2 else if w = wMkdir then 3 else if w = wPut then 4 else -1
def parseLine : List (List UInt8) → Option D
  | [w, p] => if kindOf w = 4 then none else some ⟨kindOf w, p, []⟩
  | [w, p, x] => if kindOf w = 4 then (dataOf x).map fun y => ⟨4, p, y⟩ else none
  | _ => none
def parseAll : List (List (List UInt8)) → Option (List D)
  | [] => some []
  | l :: r => match parseLine l, parseAll r with
    | some d, some ds => some (d :: ds)
    | _, _ => none
def planW : List UInt8 := [112, 108, 97, 110]
/-- What Parse answers. -/
def parse (T : List UInt8) : Int × List D := match Scan.spec T with
  | .inl _ => (22, [])
  | .inr [] => (44, [])
  | .inr (h :: r) => if h = [planW] then match parseAll r with
      | some ds => if ok ds then (0, ds) else (44, [])
      | none => (44, []) else (44, [])
theorem parseAll_append : ∀ (a b : List (List (List UInt8))), parseAll (a ++ b) = (parseAll a).bind fun x => (parseAll b).map (x ++ ·)
  | [], b => by cases h : parseAll b <;> simp [parseAll, h]
  | l :: r, b => by
    have ih := parseAll_append r b
    simp only [List.cons_append, parseAll, ih]
    cases parseLine l with
    | none => rfl
    | some d =>
      cases parseAll r with
      | none => rfl
      | some x => cases parseAll b <;> simp
theorem parseAll_next {r : List (List (List UInt8))} {k : Nat} {l : List (List UInt8)} {out : List D} {d : D} (h : parseAll (r.take k) = some out) (hl : r[k]? = some l) (hd : parseLine l = some d) : parseAll (r.take (k + 1)) = some (out ++ [d]) := by
  rw [List.take_add_one, hl, parseAll_append, h]
  simp [parseAll, hd]
theorem parseAll_bad {r : List (List (List UInt8))} {k : Nat} {l : List (List UInt8)} (hl : r[k]? = some l) (hd : parseLine l = none) : parseAll r = none := by
  have h := List.getElem?_eq_some_iff.1 hl
  have e : r = r.take k ++ (l :: r.drop (k + 1)) := by
    have e1 : r = r.take k ++ r.drop k := (List.take_append_drop k r).symm
    rw [List.drop_eq_getElem_cons h.1, h.2] at e1
    exact e1
  rw [e, parseAll_append]
  cases parseAll (r.take k) with
  | none => rfl
  | some x => simp [parseAll, hd]
theorem unhex_le : ∀ (l y : List UInt8), unhex l = some y → y.length ≤ l.length
  | [], y, h => by simp [unhex] at h; subst h; simp
  | [_], y, h => by simp [unhex] at h
  | a :: b :: r, y, h => by
    simp only [unhex] at h
    cases hv : val a with
    | none => rw [hv] at h; exact absurd h (by simp)
    | some u =>
      cases hw : val b with
      | none => rw [hv, hw] at h; exact absurd h (by simp)
      | some v =>
        rw [hv, hw] at h
        cases hr : unhex r with
        | none => rw [hr] at h; exact absurd h (by simp)
        | some z =>
          rw [hr] at h
          simp at h
          subst h
          have := unhex_le r z hr
          simp
          omega
theorem dataOf_le {l y : List UInt8} (h : dataOf l = some y) : y.length ≤ l.length := by
  unfold dataOf at h
  split at h
  · simp at h; subst h; simp
  · exact unhex_le _ _ h
theorem kind_words (x : ByteArray) : Go.Lib.idxOfS [ByteArray.empty, bs wUnlink, bs wRmdir, bs wMkdir, bs wPut] x = kindOf x.data.toList := by
  have key : ∀ l : List UInt8, (bs l = x) = (x.data.toList = l) := fun l => by
    apply propext
    constructor
    · rintro rfl; rfl
    · rintro rfl; exact bs_of x
  have key0 : (ByteArray.empty = x) = (x.data.toList = []) := key []
  unfold Go.Lib.idxOfS kindOf
  simp only [Go.Lib.idxFromS, key0, key]
  by_cases h0 : x.data.toList = []
  · simp [h0]
  by_cases h1 : x.data.toList = wUnlink
  · simp [h1, wUnlink]
  by_cases h2 : x.data.toList = wRmdir
  · simp [h2, wUnlink, wRmdir]
  by_cases h3 : x.data.toList = wMkdir
  · simp [h3, wUnlink, wRmdir, wMkdir]
  by_cases h4 : x.data.toList = wPut
  · simp [h4, wUnlink, wRmdir, wMkdir, wPut]
  · simp [h0, h1, h2, h3, h4]
end Plan
end Go.Proofs.YtnbjdfiembbmmaaDoor
