import Derived.Test.YtnphjhbfpoekpaaGreatA7Pl
import Derived.Deep.DeepCutAuto
namespace Go.Proofs.YtnphjhbfpoekpaaGreat
set_option linter.unusedSimpArgs false
set_option linter.unusedVariables false
set_option linter.unnecessarySimpa false
open Go.RowKit
end Go.Proofs.YtnphjhbfpoekpaaGreat
