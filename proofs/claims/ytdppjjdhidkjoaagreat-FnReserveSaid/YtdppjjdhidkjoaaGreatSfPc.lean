/-
  The layings of the library's sort and compaction at this program (printed by the kit's tool).
-/
import Derived.Test.YtdppjjdhidkjoaaGreatProg
import Derived.Shelf.SlGeneric
import Derived.Ground.SlgmProg
import Derived.Ground.SlgnProg
import Derived.Ground.SlsfProg
import Derived.Ground.NamesProg
import Derived.Shelf.SlSortCmp.Whole1
namespace Go.Proofs
open Go.Shelf
end Go.Proofs
