/-
  Texts of this proof, put together.
-/
import Derived.Test.YtdppjjdhidkjoaaA1
import Derived.Deep.Light
import Derived.Deep.RegionHeld3
namespace Go.Proofs.Ytdppjjdhidkjoaa
set_option linter.unusedSimpArgs false
set_option linter.unusedVariables false
set_option linter.unnecessarySimpa false
open Go.RowKit
theorem subV_fit (a b : V) (h : fitsB b.A b.B b.C a.A a.B a.C = true) : subV a b = difV a b ∧ subB a b = true := by
  have w (x : Int) (h : -1000001 ≤ x ∧ x ≤ 1000001) : wrap64 x = x := IntWalk.wrap64_in x (by omega)
  have h1 : (0 ≤ a.A - b.A ∧ a.A - b.A ≤ 1000000) ∧ (0 ≤ a.B - b.B ∧ a.B - b.B ≤ 1000000) ∧ (0 ≤ a.C - b.C ∧ a.C - b.C ≤ 1000000) := by
    simp [fitsB, vecOkB, resB, inB] at h; omega
  have e : (difV a b).ok = true := by
    simp only [difV, V.ok, vecOkB, resB, inB, w _ (show _ by omega : -1000001 ≤ a.A - b.A ∧ a.A - b.A ≤ 1000001), w _ (show _ by omega : -1000001 ≤ a.B - b.B ∧ a.B - b.B ≤ 1000001), w _ (show _ by omega : -1000001 ≤ a.C - b.C ∧ a.C - b.C ≤ 1000001)]
    simp; omega
  have e2 : a.ok = true ∧ b.ok = true := by simp_all [fitsB, V.ok]
  simp [subV, subB, validV, validB, e, e2]
theorem subV_no (a b : V) (h : fitsB b.A b.B b.C a.A a.B a.C = false) : subV a b = V.zero ∧ subB a b = false := by
  have w (x : Int) (h : -1000001 ≤ x ∧ x ≤ 1000001) : wrap64 x = x := IntWalk.wrap64_in x (by omega)
  have e : subB a b = false := by
    cases hh : subB a b with
    | false => rfl
    | true =>
      exfalso
      simp only [subB, validB, V.ok, Bool.and_eq_true] at hh
      obtain ⟨⟨ha, hb⟩, hd⟩ := hh
      have ha' := ha
      have hb' := hb
      simp [vecOkB, resB, inB] at ha hb
      simp only [difV, vecOkB, resB, inB, w _ (show _ by omega : -1000001 ≤ a.A - b.A ∧ a.A - b.A ≤ 1000001), w _ (show _ by omega : -1000001 ≤ a.B - b.B ∧ a.B - b.B ≤ 1000001), w _ (show _ by omega : -1000001 ≤ a.C - b.C ∧ a.C - b.C ≤ 1000001)] at hd
      simp at hd
      simp [fitsB, ha', hb'] at h
      omega
  refine ⟨?_, e⟩
  simp only [subB, validB] at e
  simp [subV, validV, e]

end Go.Proofs.Ytdppjjdhidkjoaa

/- The lesser of two vectors, as the reference reckons it. -/
namespace Go.Proofs.Ytdppjjdhidkjoaa
set_option linter.unusedSimpArgs false
set_option linter.unusedVariables false
set_option linter.unnecessarySimpa false
open Go.RowKit

theorem vminV_ok (a b : V) (ha : vecOkB a.A a.B a.C = true) (hb : vecOkB b.A b.B b.C = true) : vminV a b = minV a b := by
  have : (minV a b).ok = true := by grind [V.ok, minV, vecOkB, resB, inB]
  simp [vminV, validV, V.ok, ha, hb] at *
  simp [this]
end Go.Proofs.Ytdppjjdhidkjoaa
