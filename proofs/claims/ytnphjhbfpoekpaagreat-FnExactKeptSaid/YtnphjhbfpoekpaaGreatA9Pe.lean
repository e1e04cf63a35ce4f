/-
  Texts of this proof, put together.
-/
import Derived.Test.YtnphjhbfpoekpaaGreatA6Pe
import Derived.Test.YtnphjhbfpoekpaaGreatA3Pe
import Derived.Test.YtnphjhbfpoekpaaGreatA2Pe
namespace Go.Proofs.YtnphjhbfpoekpaaGreat
set_option linter.unusedSimpArgs false
set_option linter.unusedVariables false
set_option linter.unnecessarySimpa false
open Go.RowKit
end Go.Proofs.YtnphjhbfpoekpaaGreat

/- Contracts of TopoText. -/
namespace Go.Proofs.YtnphjhbfpoekpaaGreat
set_option linter.unusedSimpArgs false
set_option linter.unusedVariables false
set_option linter.unnecessarySimpa false
open Go.RowKit
end Go.Proofs.YtnphjhbfpoekpaaGreat
