import Derived.Test.YtnphjhbfpoekpaaGreatEdPf
namespace Go.Proofs.YtnphjhbfpoekpaaGreat
set_option linter.unusedSimpArgs false
set_option linter.unusedVariables false
set_option linter.unnecessarySimpa false
open Go.RowKit
theorem own_cap9g {w : World} {lo : Nat} {e : TypeId} {size : Nat} {A : Option Addr} {n c : Nat} {xs : List Value} (h : w.ownsRow lo e size (.slice A n c) n xs) : n ≤ c ∧ c ≤ 9223372036854775807 := by
 rcases h.2 with ⟨h0, h1⟩ | ⟨g, cap, cur, hv, _, _, h3, h4, _⟩
 ·cases h0; omega
 ·cases hv; unfold maxLen at h4; exact ⟨h3, h4⟩
theorem earl_len9 (r : Rm) (j : J) (f : Int) : (eL (earlV r j f)).length ≤ 24 := by
 unfold eL
 cases h : earlV r j f with
 | none => simp
 | some p =>
  obtain ⟨t, nd⟩ := p
  obtain ⟨hr, hj, _, _, ht, _⟩ := earl_some h
  obtain ⟨_, _, n1, n2, _, _⟩ := job_wl hj
  unfold tryV at ht
  split at ht
  ·obtain ⟨_, _, _, _, hlen, _⟩ := choose_some (elig_in hr).2.1 ht
   show nd.length ≤ 24
   omega
  ·cases ht
end Go.Proofs.YtnphjhbfpoekpaaGreat
