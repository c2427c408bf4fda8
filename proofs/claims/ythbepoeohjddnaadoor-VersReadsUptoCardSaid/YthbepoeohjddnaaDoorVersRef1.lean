/- Parse of the document: what its loop gathers. -/
import Derived.Test.YthbepoeohjddnaaDoorEnv
import Derived.Test.YthbepoeohjddnaaDoorVersWalks2
import Derived.Test.YthbepoeohjddnaaDoorVersText
import Derived.Laws.AppendOwn
import Derived.Laws.OwnMore
namespace Go.Proofs.YthbepoeohjddnaaDoor
open Go.RowKit
set_option linter.unusedSimpArgs false
set_option linter.unusedVariables false
namespace V
/-- One letter more: the numbers read so far. -/
def step (ls : List Int) (c : UInt8) : Option (List Int) :=
  if c.toNat = 46 then some (ls ++ [0])
  else if (48 ≤ c.toNat ∧ c.toNat ≤ 57) ∧ ls.getLastD 0 ≤ 999 then some (ls.dropLast ++ [10 * ls.getLastD 0 + (c.toNat - 48 : Nat)])
  else none
/-- A text, letter by letter. -/
def run (ls : List Int) : List UInt8 → Option (List Int)
  | [] => some ls
  | c :: l => match step ls c with
    | some ls' => run ls' l
    | none => none
theorem run_append (ls : List Int) (l r : List UInt8) : run ls (l ++ r) = (run ls l).bind fun x => run x r := by
  induction l generalizing ls with
  | nil => rfl
  | cons c l ih =>
    simp only [List.cons_append, run]
    cases step ls c with
    | none => rfl
    | some x => exact ih x
theorem run_snoc (ls : List Int) (l : List UInt8) (c : UInt8) : run ls (l ++ [c]) = (run ls l).bind fun x => step x c := by
  rw [run_append]
  congr 1
  funext x
  simp only [run]
  cases step x c <;> rfl
end V
theorem take_snoc (s : ByteArray) (k : Nat) (h : k < s.size) : s.data.toList.take (k + 1) = s.data.toList.take k ++ [s[k]] := by
  rw [List.take_succ_eq_append_getElem (by simpa using h)]; rfl
end Go.Proofs.YthbepoeohjddnaaDoor
