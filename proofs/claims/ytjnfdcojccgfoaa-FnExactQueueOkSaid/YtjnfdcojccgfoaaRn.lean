/-
  A slice argument, opened.
-/
import Derived.Test.YtjnfdcojccgfoaaRo
import Derived.WideShapes
namespace Go.Proofs.Ytjnfdcojccgfoaa
set_option linter.unusedSimpArgs false
set_option linter.unusedVariables false
set_option linter.unnecessarySimpa false
open Go.ChangeShapes Go.WideShapes Go.ChangeAt Go.RowKit Go.Deep
theorem open_int_slice1 {H : Type} {enc : TypeId × Value → H} {P : Program} {w : World} {base : Nat} {spare : Nat → Bool} {held : Bool} {r : Reach} {b : Nat} {t e : TypeId} {v : Value} {d : DataW H} {ps : List MemPlace} {C k : Nat}
    (ht : P.underlying t = some (.slice e)) (hC : P.cellsOf e = C) (hpos : 0 < C) (hi : intsOnly P k e = true) (hv : Value.okWide P w r b t v) (h : DataW.Trod enc P w base spare held t v d ps) :
    ∃ (A : Option Addr) (n c : Nat) (z : Nat → Nat → Int), v = .slice A n c ∧ n ≤ maxLen ∧ c ≤ maxLen ∧ (0 < n → ∃ b off, A = some ⟨b, off, none⟩ ∧ b < w.heap.size ∧
      ∀ i j, i < n → j < C → w.cell? ⟨b, off + i * C + j, none⟩ = some (.int .i64 (z i j))) := by
  obtain ⟨a, len, cap, rfl⟩ := okWide_slice ht hv
  obtain ⟨fuel, h⟩ := h
  exact open_int_slice (fuel := fuel) ht hC hpos hi h
end Go.Proofs.Ytjnfdcojccgfoaa
