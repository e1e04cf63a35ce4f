import Derived.Test.YtdppjjdhidkjoaaGreatA7Pd
import Derived.Deep.DeepCutAuto
namespace Go.Proofs.YtdppjjdhidkjoaaGreat
set_option linter.unusedSimpArgs false
set_option linter.unusedVariables false
set_option linter.unnecessarySimpa false
open Go.RowKit

end Go.Proofs.YtdppjjdhidkjoaaGreat
