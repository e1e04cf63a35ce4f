/-
  Texts of this proof, put together.
-/
import Derived.Test.YtdppjjdhidkjoaaGreatA6Pc
import Derived.Test.YtdppjjdhidkjoaaGreatA3Pc
import Derived.Test.YtdppjjdhidkjoaaGreatA2Pc
namespace Go.Proofs.YtdppjjdhidkjoaaGreat
set_option linter.unusedSimpArgs false
set_option linter.unusedVariables false
set_option linter.unnecessarySimpa false
open Go.RowKit
end Go.Proofs.YtdppjjdhidkjoaaGreat

/- Contracts of TopoText. -/
namespace Go.Proofs.YtdppjjdhidkjoaaGreat
set_option linter.unusedSimpArgs false
set_option linter.unusedVariables false
set_option linter.unnecessarySimpa false
open Go.RowKit
end Go.Proofs.YtdppjjdhidkjoaaGreat
