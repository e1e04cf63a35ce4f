/-
  A slice of points or nodes that came in, as the walks want it.
-/
import Derived.Test.YtjnfdcojccgfoaaRo
import Derived.Test.YtjnfdcojccgfoaaPe
namespace Go.Proofs.Ytjnfdcojccgfoaa
set_option linter.unusedSimpArgs false
set_option linter.unusedVariables false
set_option linter.unnecessarySimpa false
open Go.ChangeShapes Go.WideShapes Go.ChangeAt Go.RowKit Go.Deep
def qsOf (n : Nat) (z : Nat → Nat → Int) : List Q := (List.range n).map fun i => ⟨z i 0, z i 1, z i 2, z i 3⟩
theorem rdE_of {w : World} {A : Option Addr} {n : Nat} {z : Nat → Nat → Int} (h : 0 < n → ∃ b off, A = some ⟨b, off, none⟩ ∧ b < w.heap.size ∧
      ∀ i j, i < n → j < 4 → w.cell? ⟨b, off + i * 4 + j, none⟩ = some (.int .i64 (z i j))) : RdE w A n (qsOf n z) := by
  refine ⟨by simp [qsOf], fun hn => ?_⟩
  obtain ⟨b, off, rfl, hb, hc⟩ := h hn
  refine ⟨b, off, rfl, hb, fun k q hq => ?_⟩
  have hk : k < n := by
    have := (List.getElem?_eq_some_iff.1 hq).1
    simpa [qsOf] using this
  unfold qsOf at hq
  rw [List.getElem?_map, List.getElem?_range hk] at hq
  simp only [Option.map_some, Option.some.injEq] at hq
  subst hq
  exact ⟨hc k 0 hk (by omega), hc k 1 hk (by omega), hc k 2 hk (by omega), hc k 3 hk (by omega)⟩
end Go.Proofs.Ytjnfdcojccgfoaa
