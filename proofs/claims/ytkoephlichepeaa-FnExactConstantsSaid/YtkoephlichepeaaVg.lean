import Derived.Test.YtkoephlichepeaaVf
namespace Go.Proofs.Ytkoephlichepeaa
open Go.RowKit

theorem law_const (w : World) : Calls Try.prog 3 #[] w fun e w' => e = .returned (.bool true) ∧ Below w.heap.size w w' := by
  go_enter Try.func3, Try.ntmps3
  go_wp2
  go_ret
  exact ⟨rfl, below_id _⟩
end Go.Proofs.Ytkoephlichepeaa
