import Derived.Test.YtioekoecinogjaaDoorC03f
import Derived.Test.YtioekoecinogjaaDoorYrs
namespace Go.Abs.L03
open Go Go.Abs Go.Abs.Day Go.Proofs Go.RowKit
set_option linter.unusedVariables false
set_option maxRecDepth 20000
theorem c_yrs (d k : Int) (hd : good d) (k1 : 0 ≤ k) (k2 : k ≤ 200) : Fn Tryd.prog 25 [I d, I k] (.tup [I (yrs d k), I 0]) := by
  obtain ⟨y, m, n, hD⟩ := date_ex hd.1 hd.2
  rw [yrs_eq hD]
  exact c_Years d y m n k hD hd.2 k1 k2
theorem c_ryrs (d k : Int) (hd : good d) (k1 : 0 ≤ k) (k2 : k ≤ 200) : Fn Tryd.prog 56 [I d, I k] (.tup [I (yrs d k), I 0]) := by
  obtain ⟨y, m, n, hD⟩ := date_ex hd.1 hd.2
  rw [yrs_eq hD]
  exact c_rYears d y m n k hD hd.2 k1 k2
end Go.Abs.L03
