import Derived.Test.YtnphjhbfpoekpaaGreatFkPf
import Derived.Test.YtnphjhbfpoekpaaGreatFjPf
import Derived.Test.YtnphjhbfpoekpaaGreatVkPf
import Derived.Test.YtnphjhbfpoekpaaGreatFhPf
import Derived.Deep.RegionHeld3
namespace Go.Proofs.YtnphjhbfpoekpaaGreat
set_option linter.unusedSimpArgs false
set_option linter.unusedVariables false
set_option linter.unnecessarySimpa false
open Go.RowKit
theorem own_cap9 {w : World} {lo : Nat} {e : TypeId} {size : Nat} {A : Option Addr} {n c : Nat} {xs : List Value} (h : w.ownsRow lo e size (.slice A n c) n xs) : n ≤ c ∧ c ≤ 9223372036854775807 := by
 rcases h.2 with ⟨h0, h1⟩ | ⟨g, cap, cur, hv, _, _, h3, h4, _⟩
 ·cases h0; omega
 ·cases hv; unfold maxLen at h4; exact ⟨h3, h4⟩
end Go.Proofs.YtnphjhbfpoekpaaGreat
