/-
  The times at which something changes: plain; and rows of profiles that can be read.
-/
import Derived.Test.YtnphjhbfpoekpaaGreatApPe
import Derived.Test.YtnphjhbfpoekpaaGreatA19Pe
import Derived.Test.YtnphjhbfpoekpaaGreatA22Pe
import Derived.Test.YtnphjhbfpoekpaaGreatA13Pe
namespace Go.Proofs.YtnphjhbfpoekpaaGreat
set_option linter.unusedSimpArgs false
set_option linter.unusedVariables false
set_option linter.unnecessarySimpa false
open Go.RowKit Go.Lib
/-! the program's times -/
/-! rows of profiles -/
/-- The values are slices over what the profiles hold. -/
structure PL (w : World) (zs : List Value) (pss : List (List Q)) : Prop where
  len : zs.length = pss.length
  each : ∀ (k : Nat) ps, pss[k]? = some ps → ∃ B c, zs[k]? = some (.slice B ps.length c) ∧ ps.length ≤ 1048576 ∧ Rd w B ps.length 4 (flat ps) ∧ ∀ g, B = some ⟨g, 0, none⟩ → g < w.heap.size
theorem PL.below {w w' : World} {zs : List Value} {pss : List (List Q)} (h : PL w zs pss) (hb : Below w.heap.size w w') : PL w' zs pss :=
  ⟨h.len, fun k ps hp => by
    obtain ⟨B, c, h1, h2, h3, h4⟩ := h.each k ps hp
    exact ⟨B, c, h1, h2, h3.below h4 hb, lt_below h4 hb⟩⟩
theorem PL.cons {w : World} {zs : List Value} {pss : List (List Q)} {B : Option Addr} {c : Nat} {ps : List Q} (h : PL w zs pss) (h1 : ps.length ≤ 1048576) (h2 : Rd w B ps.length 4 (flat ps)) (h3 : ∀ g, B = some ⟨g, 0, none⟩ → g < w.heap.size) : PL w (.slice B ps.length c :: zs) (ps :: pss) := by
  refine ⟨by simp [h.len], fun k p hp => ?_⟩
  cases k with
  | zero => simp at hp; subst hp; exact ⟨B, c, rfl, h1, h2, h3⟩
  | succ k => simpa using h.each k p (by simpa using hp)
end Go.Proofs.YtnphjhbfpoekpaaGreat
