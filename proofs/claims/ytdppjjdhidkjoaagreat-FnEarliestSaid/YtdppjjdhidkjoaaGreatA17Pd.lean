import Derived.Test.YtdppjjdhidkjoaaGreatA8Pd
import Derived.Test.YtdppjjdhidkjoaaGreatA0Pd
import Derived.ChangeArms
import Derived.Test.YtdppjjdhidkjoaaGreatA14Pd
import Derived.OpenShut
namespace Go.Proofs.YtdppjjdhidkjoaaGreat
set_option linter.unusedSimpArgs false
set_option linter.unusedVariables false
set_option linter.unnecessarySimpa false
open Go.ChangeShapes Go.WideShapes Go.ChangeAt Go.RowKit Go.Deep
theorem addr_plain {w : World} {a : Addr} {v : Value} (h : w.cell? (a.add 0) = some v) : ∃ b off, a = ⟨b, off, none⟩ ∧ b < w.heap.size := by
  have h' : w.cell? a = some v := by simpa [Addr.add] using h
  have hsp : a.spot = none := by
    unfold World.cell? at h'
    split at h'
    · split at h'
      · cases h'
      · rename_i hs; simpa using hs
    · cases h'
  obtain ⟨b, off, spot⟩ := a
  simp only at hsp
  subst hsp
  refine ⟨b, off, rfl, ?_⟩
  rcases Nat.lt_or_ge b w.heap.size with h | h
  · exact h
  · exfalso
    unfold World.cell? at h'
    rw [Array.getElem?_eq_none h] at h'
    cases h'
theorem add_plain (b off i : Nat) : (⟨b, off, none⟩ : Addr).add i = ⟨b, off + i, none⟩ := by
  unfold Addr.add
  by_cases h : i = 0
  · rw [if_pos h]; subst h; rfl
  · rw [if_neg h]
section
variable {H : Type} {enc : TypeId × Value → H} {w : World} {base : Nat} {spare : Nat → Bool} {held : Bool}
end
end Go.Proofs.YtdppjjdhidkjoaaGreat

namespace Go.Proofs.YtdppjjdhidkjoaaGreat
set_option linter.unusedSimpArgs false
set_option linter.unusedVariables false
set_option linter.unnecessarySimpa false
open Go.ChangeShapes Go.WideShapes Go.ChangeAt Go.RowKit Go.Deep
section
variable {H : Type} {enc : TypeId × Value → H} {w : World} {base : Nat} {spare : Nat → Bool} {held : Bool}
theorem trod_bytes {fuel : Nat} {cs : List Value} {x : DataW H × List MemPlace} (h : DataW.trod enc Tryz.prog w base spare held fuel 22 cs = some x) :
    ∃ A n c, cs = [.slice A n c] ∧ n ≤ maxLen ∧ ByIn w A n := by
  rcases open_slice1 Tryz.underlying22 (by kernel_rfl) h with ⟨rfl, _⟩ | ⟨a, len, cap, m, f', V, D, Pl, rfl, hb, hl, hm, hmm, _, hx⟩
  · exact ⟨none, 0, 0, rfl, Nat.zero_le _, fun h => absurd h (by omega)⟩
  · have hlm : len ≤ m := by rw [hmm]; split <;> omega
    have key : ∀ i, i < len → ∃ z : Int, 0 ≤ z ∧ z ≤ 255 ∧ w.cell? (a.add i) = some (.int .u8 z) := by
      intro i hi
      obtain ⟨h1, h2⟩ := hx i (by omega)
      obtain ⟨z, hz, _, hwf⟩ := DataW.trod_int Tryz.underlying5 h2
      simp only [List.cons.injEq, and_true] at hz
      have hr := bounds_u8 hwf
      exact ⟨z, hr.1, hr.2, by rw [h1, hz]⟩
    refine ⟨some a, len, cap, rfl, by omega, fun hn => ?_⟩
    obtain ⟨z0, _, _, hz0⟩ := key 0 hn
    obtain ⟨b, off, rfl, hlt⟩ := addr_plain hz0
    refine ⟨b, off, rfl, hlt, fun k hk => ?_⟩
    obtain ⟨z, h0, h1, h2⟩ := key k hk
    exact ⟨z, h0, h1, (congrArg w.cell? (add_plain b off k)).symm.trans h2⟩
theorem open_sl {P : Program} {e : TypeId} {r : Reach} {b0 : Nat} {t : TypeId} {v : Value} {d : DataW H} {p : List MemPlace} (hs : P.underlying t = some (.slice e))
    (hv : Value.okWide P w r b0 t v) (h : DataW.Trod enc P w base spare held t v d p) : ∃ (n : Nat) (x : _), DataW.trod enc P w base spare held n t [v] = some x := by
  obtain ⟨a, len, cap, rfl⟩ := okWide_slice hs hv
  obtain ⟨fuel, h⟩ := h
  exact ⟨fuel, _, h⟩
set_option maxRecDepth 100000 in
theorem open_bytes {r : Reach} {b0 : Nat} {v : Value} {d : DataW H} {p : List MemPlace} (hv : Value.okWide Tryz.prog w r b0 22 v) (h : DataW.Trod enc Tryz.prog w base spare held 22 v d p) :
    ∃ A n c, v = .slice A n c ∧ n ≤ maxLen ∧ ByIn w A n := by
  obtain ⟨fuel, x, h1⟩ := open_sl Tryz.underlying22 hv h
  obtain ⟨A, n, c, e, h2⟩ := trod_bytes h1
  simp only [List.cons.injEq, and_true] at e
  exact ⟨A, n, c, e, h2⟩
end
end Go.Proofs.YtdppjjdhidkjoaaGreat
