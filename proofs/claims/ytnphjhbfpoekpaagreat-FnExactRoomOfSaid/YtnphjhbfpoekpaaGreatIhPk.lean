import Derived.Test.YtnphjhbfpoekpaaGreatHfPk
import Derived.Test.YtnphjhbfpoekpaaGreatA17Pk
import Derived.Test.YtnphjhbfpoekpaaGreatA0Pk
import Derived.Test.YtnphjhbfpoekpaaGreatA11Pk
import Derived.Test.YtnphjhbfpoekpaaGreatA3Pk
import Derived.Test.YtnphjhbfpoekpaaGreatA9Pk
namespace Go.Proofs.YtnphjhbfpoekpaaGreat
set_option linter.unusedSimpArgs false
set_option linter.unusedVariables false
set_option linter.unnecessarySimpa false
open Go.ChangeShapes Go.WideShapes Go.ChangeAt Go.RowKit Go.Deep
instance : Inhabited Hd := ⟨⟨0, 0, []⟩⟩
section
variable {H : Type} {enc : TypeId × Value → H} {w : World} {base : Nat} {spare : Nat → Bool} {held : Bool}
theorem trod_ints2 {fuel : Nat} {t : TypeId} {cs : List Value} {x : DataW H × List MemPlace} {k : Nat} (hi : intsOnly Tryz.prog k t = true) (h : DataW.trod enc Tryz.prog w base spare held fuel t cs = some x) : ∀ v ∈ cs, ∃ z : Int, v = .int .i64 z := trod_ints k t fuel cs x hi h
end
def jsOf (n : Nat) (z : Nat → Nat → Int) : List J := (List.range n).map fun i => ⟨z i 0, z i 1, z i 2, z i 3, z i 4, z i 5, z i 6, z i 7, z i 8, z i 9, z i 10⟩
theorem rdJ_of {w : World} {A : Option Addr} {n : Nat} {z : Nat → Nat → Int} (h : 0 < n → ∃ b off, A = some ⟨b, off, none⟩ ∧ b < w.heap.size ∧
   ∀ i j, i < n → j < 11 → w.cell? ⟨b, off + i * 11 + j, none⟩ = some (.int .i64 (z i j))) : RdJ w A n (jsOf n z) := by
 refine ⟨by simp [jsOf], fun hn => ?_⟩
 obtain ⟨b, off, rfl, hb, hc⟩ := h hn
 refine ⟨b, off, rfl, hb, fun k q hq i u hu => ?_⟩
 have hk : k < n := by
  have := (List.getElem?_eq_some_iff.1 hq).1
  simpa [jsOf] using this
 unfold jsOf at hq
 rw [List.getElem?_map, List.getElem?_range hk] at hq
 simp only [Option.map_some, Option.some.injEq] at hq
 subst hq
 have hi : i < 11 := by
  have := (List.getElem?_eq_some_iff.1 hu).1
  simpa [J.cells] using this
 rw [hc k i hk hi, ← hu]
 match i, hi with
 | 0, _ => rfl
 | 1, _ => rfl
 | 2, _ => rfl
 | 3, _ => rfl
 | 4, _ => rfl
 | 5, _ => rfl
 | 6, _ => rfl
 | 7, _ => rfl
 | 8, _ => rfl
 | 9, _ => rfl
 | 10, _ => rfl
end Go.Proofs.YtnphjhbfpoekpaaGreat
