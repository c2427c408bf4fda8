/- The walk of the statement VersNext. -/
import Derived.Test.YthbepoeohjddnaaDoorVersNextB
import Derived.Test.YthbepoeohjddnaaDoorVersNextC
namespace Go.Proofs.YthbepoeohjddnaaDoor
open Go.RowKit
set_option linter.unusedSimpArgs false
set_option linter.unusedVariables false
theorem next_walk (a b c x y z u v s : Int) (w : World) (ht : Pow10 w) :
    Calls Tryd.prog 6 #[.agg #[.int .i64 a, .int .i64 b, .int .i64 c], .agg #[.int .i64 x, .int .i64 y, .int .i64 z], .agg #[.int .i64 u, .int .i64 v, .int .i64 s]] w fun e w' => e = .returned (.bool true) ∧ Below w.heap.size w w' := by
  cases h1 : V.may a b c
  · exact next_no1 a b c x y z u v s w ht h1
  cases h2 : V.may x y z
  · exact next_no2 a b c x y z u v s w ht h1 h2
  cases h3 : V.may u v s
  · exact next_no3 a b c x y z u v s w ht h1 h2 h3
  have hb := V.rank_bd h1
  by_cases hab : V.cmp a b c x y z ≤ 0
  · by_cases hbc : V.cmp x y z u v s ≤ 0
    · by_cases hn : V.rank a b c = 999999999
      · exact next_x_ll a b c x y z u v s w ht h1 h2 h3 hn (by omega) hab hbc
      · by_cases hp : V.rank a b c = 0
        · exact next_z_ll a b c x y z u v s w ht h1 h2 h3 (by omega) hp hab hbc
        · exact next_m_ll a b c x y z u v s w ht h1 h2 h3 (by omega) (by omega) hab hbc
    · by_cases hn : V.rank a b c = 999999999
      · exact next_x_lg a b c x y z u v s w ht h1 h2 h3 hn (by omega) hab (by omega)
      · by_cases hp : V.rank a b c = 0
        · exact next_z_lg a b c x y z u v s w ht h1 h2 h3 (by omega) hp hab (by omega)
        · exact next_m_lg a b c x y z u v s w ht h1 h2 h3 (by omega) (by omega) hab (by omega)
  · by_cases hn : V.rank a b c = 999999999
    · exact next_x_g a b c x y z u v s w ht h1 h2 h3 hn (by omega) (by omega)
    · by_cases hp : V.rank a b c = 0
      · exact next_z_g a b c x y z u v s w ht h1 h2 h3 (by omega) hp (by omega)
      · exact next_m_g a b c x y z u v s w ht h1 h2 h3 (by omega) (by omega) (by omega)
end Go.Proofs.YthbepoeohjddnaaDoor
