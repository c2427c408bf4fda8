/- Plain words on versions: no program stands here. -/
import Derived.Below
namespace Go.Proofs.YthbepoeohjddnaaDoor
namespace V
/-- May a version be? -/
def may (a b c : Int) : Bool := decide (0 ≤ a) && decide (a ≤ 999) && (decide (0 ≤ b) && decide (b ≤ 999)) && (decide (0 ≤ c) && decide (c ≤ 999))
theorem may_iff {a b c : Int} : may a b c = true ↔ (0 ≤ a ∧ a ≤ 999) ∧ (0 ≤ b ∧ b ≤ 999) ∧ (0 ≤ c ∧ c ≤ 999) := by
  simp [may]; omega
theorem may_of {a b c : Int} (h : (0 ≤ a ∧ a ≤ 999) ∧ (0 ≤ b ∧ b ≤ 999) ∧ (0 ≤ c ∧ c ≤ 999)) : may a b c = true := may_iff.2 h
theorem may_not {a b c : Int} (h : ¬ ((0 ≤ a ∧ a ≤ 999) ∧ (0 ≤ b ∧ b ≤ 999) ∧ (0 ≤ c ∧ c ≤ 999))) : may a b c = false := by
  cases e : may a b c
  · rfl
  · exact absurd (may_iff.1 e) h
end V
end Go.Proofs.YthbepoeohjddnaaDoor
