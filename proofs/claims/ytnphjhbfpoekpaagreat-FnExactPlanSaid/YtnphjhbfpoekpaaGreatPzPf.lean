import Derived.Test.YtnphjhbfpoekpaaGreatA8Pf
namespace Go.Proofs.YtnphjhbfpoekpaaGreat
set_option linter.unusedSimpArgs false
set_option linter.unusedVariables false
set_option linter.unnecessarySimpa false
open Go.RowKit
theorem own_put {w : World} {lo : Nat} {e : TypeId} {size g n c i : Nat} {xs : List Value} {u : Value} (h : w.ownsRow lo e size (.slice (some ⟨g, 0, none⟩) n c) n xs) (_ : i < n * size) : (w.setCell ⟨g, i, none⟩ u).ownsRow lo e size (.slice (some ⟨g, 0, none⟩) n c) n (xs.set i u) := by
 obtain ⟨hl, h⟩ := h
 rcases h with ⟨hv, _⟩ | ⟨g', cap, cur, hv, hg, hh, h1, h2, h3, h4⟩
 ·injection hv with a1; cases a1
 ·injection hv with a1 a2 a3
  injection a1 with a1
  injection a1 with a1
  subst a1 a3
  refine ⟨by simpa using hl, Or.inr ⟨g, c, cur.setIfInBounds i u, rfl, hg, zAr hh, h1, h2, by simpa using h3, ?_⟩⟩
  rw [Array.toList_setIfInBounds, ← h4, List.take_set]
theorem own_frz {w : World} {lo : Nat} {e : TypeId} {size g n c : Nat} {xs : List Value} (h : w.ownsRow lo e size (.slice (some ⟨g, 0, none⟩) n c) n xs) : ∀ o, w.frozen? ⟨g, o, none⟩ = false := by
 rcases h.2 with ⟨hv, _⟩ | ⟨g', cap, cur, hv, hg, hh, _⟩
 ·injection hv with a1; cases a1
 ·injection hv with a1 a2 a3
  injection a1 with a1
  injection a1 with a1
  subst a1
  exact fun _ => zAh hh
end Go.Proofs.YtnphjhbfpoekpaaGreat
