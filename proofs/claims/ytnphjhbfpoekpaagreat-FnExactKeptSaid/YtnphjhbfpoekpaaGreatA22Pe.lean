/-
  Texts of this proof, put together.
-/
import Derived.Test.YtnphjhbfpoekpaaGreatA8Pe
import Derived.Test.YtnphjhbfpoekpaaGreatA12Pe
import Derived.Test.YtnphjhbfpoekpaaGreatA7Pe
import Derived.Deep.RegionHeld3
import Derived.Deep.QuietTactic
import Derived.BigQuiet
import Derived.Deep.AppendLies
import Derived.Test.YtnphjhbfpoekpaaGreatA6Pe
import Derived.Test.YtnphjhbfpoekpaaGreatA3Pe
/- Eligible nodes: the program and the reference. -/
namespace Go.Proofs.YtnphjhbfpoekpaaGreat
set_option linter.unusedSimpArgs false
set_option linter.unusedVariables false
set_option linter.unnecessarySimpa false
open Go.RowKit
end Go.Proofs.YtnphjhbfpoekpaaGreat

/- Marks on a room of the call's own. -/
namespace Go.Proofs.YtnphjhbfpoekpaaGreat
set_option linter.unusedSimpArgs false
set_option linter.unusedVariables false
set_option linter.unnecessarySimpa false
open Go.RowKit

/-- The blocks of a row of slices. -/
def atX (xs : List Value) (k : Nat) (b : Nat) : Prop := ∃ i x, i < k ∧ xs[i]? = some x ∧ x.ownBlock = some b
theorem atB_own {A : Option Addr} {n c g : Nat} (h : (Value.slice A n c).ownBlock = some g) : ∃ o t, A = some ⟨g, o, t⟩ := by
  cases A with
  | none => cases h
  | some a => cases h; exact ⟨_, _, rfl⟩
/-- The blocks of a room. -/
def atR (a : RA) (xs : List Value) (b : Nat) : Prop := atB a.A b ∨ atB a.B b ∨ atB a.U b ∨ atX xs a.np b ∨ atB a.L b
theorem room_rng {w : World} {lo : Nat} {a : RA} {r : Rm} {xs : List Value} (h : RoomOwn w lo a r xs) : ∀ k, atR a xs k → lo ≤ k ∧ k < w.heap.size := by
  rintro k (h1 | h1 | h1 | ⟨i, x, hi, hx, hk⟩ | h1)
  · exact own_rng h.par k h1
  · exact own_rng h.nodes k h1
  · exact own_rng h.up k h1
  · obtain ⟨ps, hps⟩ : ∃ ps, r.profs[i]? = some ps := ⟨_, List.getElem?_eq_getElem (by have := h.profs.len; omega)⟩
    have ho := (h.profs.each i x ps hx hps).2
    obtain ⟨B, c', rfl, _⟩ := own_rd ho
    obtain ⟨o, t, rfl⟩ := atB_own hk
    have h2 := own_ge ho k rfl
    rcases ho.2 with ⟨h0, _⟩ | ⟨g, cap, cur, hv, hg, hh, _⟩
    · cases h0
    · cases hv; exact ⟨hg, heap_lt hh⟩
  · exact own_rng h.lics k h1
theorem OwnP.fr {S : Nat → Prop} {w w' : World} {lo : Nat} {A : Option Addr} {n c : Nat} {xs : List Value} {pss : List (List Q)} (h : OwnP w lo (.slice A n c) n xs pss) (hb : Fr S w w') (h1 : ∀ k, atB A k → ¬ S k) (h2 : ∀ k, atX xs n k → ¬ S k) : OwnP w' lo (.slice A n c) n xs pss :=
  ⟨own_fr h.own hb (fun k hk => h1 k (by obtain ⟨o, t, rfl⟩ := atB_own hk; rcases h.own.2 with ⟨h0, _⟩ | ⟨g, cap, cur, hv, _⟩; · cases h0
                                         · cases hv; cases hk; exact ⟨0, rfl⟩)), h.len, fun k x ps hx hp => ⟨(h.each k x ps hx hp).1, own_fr (h.each k x ps hx hp).2 hb (fun b hk => h2 b ⟨k, x, by have := (List.getElem?_eq_some_iff.1 hx).1; have := h.xlen; omega, hx, hk⟩)⟩, h.apart⟩
end Go.Proofs.YtnphjhbfpoekpaaGreat
