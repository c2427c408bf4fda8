/- Plain words: decimal numerals, what strconv.Atoi reads of them: no program stands here. -/
import Derived.Lib.ItoaNum
import Derived.Lib.AtoiAll
namespace Go.Proofs.YtdogacgpfnolfaaGreatDoor
namespace Num
theorem ofNat_toNat {n : Nat} (h : n < 256) : (UInt8.ofNat n).toNat = n := by simp [Nat.mod_eq_of_lt h]
end Num
end Go.Proofs.YtdogacgpfnolfaaGreatDoor
