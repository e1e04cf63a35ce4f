import Derived.Test.YtkoephlichepeaaRw
import Derived.Test.YtkoephlichepeaaVg
namespace Go.Proofs.Ytkoephlichepeaa
open Go.ChangeShapes Go.WideShapes Go.ChangeAt Go.RowKit

set_option maxRecDepth 100000 in
theorem fnExactVecMin_lifted (os : Os) (started : os.Started) (H : Type) (enc : TypeId × Value → H) :
    ReturnsInHanded {} Try.checked os 10 .any (Rows.fnExactVecMinSpec.pre6 enc Try.prog Try.f10 Rows.fnExactVecMinRow.domain false) (Rows.fnExactVecMinSpec.post enc Try.prog Try.f10 false true false false) := by
  refine returnsInHanded_of_change (C := Try.checked) own_ started (by kernel_rfl) Try.func10
    (ChangeSpec.witness6 (enc := enc) (C := Try.checked) false ⟨#[], #[.agg #[.int .i64 0, .int .i64 0, .int .i64 0], .agg #[.int .i64 0, .int .i64 0, .int .i64 0]], []⟩ 8 (by kernel_rfl) (by kernel_rfl) (by kernel_rfl) (by kernel_rfl)) ?_
  intro W base args ds gs before hval0 hW hcnd _
  have hval : ∀ (j : Nat) t v, Try.f10.params[j]? = some t → args[j]? = some v → Value.okWide Try.prog W .any base t v := hval0
  have hW' := hW
  obtain ⟨p, q, hA0, hV, rfl, hfz, hnd⟩ := hW
  have hA : DataW.TrodAll enc Try.prog W 0 (fun _ => true) true Try.f10.params.toList args.toList ds p := hA0
  rw [Try.params10] at hA hval
  obtain ⟨rfl, rfl⟩ := trodVars_none hV
  have r0 := hA
  obtain ⟨v0, vs0, d0, ds0, p0, q0, e0, rfl, rfl, h0, r1⟩ := trodAll_cons r0
  obtain ⟨v1, vs1, d1, ds1, p1, q1, e1, rfl, rfl, h1, r2⟩ := trodAll_cons r1
  subst e1
  obtain ⟨rfl, rfl, rfl⟩ := trodAll_nil r2
  obtain rfl : args = #[v0, v1] := by cases args; simp_all
  obtain ⟨ns0, rfl, hl0⟩ := okWide_ints (ts := [3, 3, 3]) Try.underlying24 (by kernel_rfl) (by intro i hi; match i, hi with | 0, _ => exact Try.underlying3 | 1, _ => exact Try.underlying3 | 2, _ => exact Try.underlying3) (hval 0 24 v0 rfl rfl)
  have hm0 : ns0.length = 3 := hl0.trans (by kernel_rfl)
  obtain ⟨x0a, x0b, x0c, rfl⟩ : ∃ a b c, ns0 = [a, b, c] := len3 hm0
  obtain ⟨ns1, rfl, hl1⟩ := okWide_ints (ts := [3, 3, 3]) Try.underlying24 (by kernel_rfl) (by intro i hi; match i, hi with | 0, _ => exact Try.underlying3 | 1, _ => exact Try.underlying3 | 2, _ => exact Try.underlying3) (hval 1 24 v1 rfl rfl)
  have hm1 : ns1.length = 3 := hl1.trans (by kernel_rfl)
  obtain ⟨x1a, x1b, x1c, rfl⟩ : ∃ a b c, ns1 = [a, b, c] := len3 hm1
  clear hA0 hval0
  refine (law_min ⟨x0a, x0b, x0c⟩ ⟨x1a, x1b, x1c⟩ W).mono fun e W' he => ?_
  obtain ⟨rfl, hb⟩ := he
  exact ⟨_, rfl, law_post laidOut_ (by rw [Try.params10]; intro t ht; simp at ht <;> first | done | (rcases ht with rfl | rfl | rfl | rfl | rfl <;> exact ⟨by kernel_rfl, of_decide_eq_true (by kernel_rfl)⟩) | (rcases ht with rfl | rfl | rfl <;> exact ⟨by kernel_rfl, of_decide_eq_true (by kernel_rfl)⟩) | (rcases ht with rfl | rfl <;> exact ⟨by kernel_rfl, of_decide_eq_true (by kernel_rfl)⟩) | (subst ht; exact ⟨by kernel_rfl, of_decide_eq_true (by kernel_rfl)⟩)) rfl rfl rfl Try.underlying4 hW' hb⟩
theorem fnExactVecMin_holds : Rows.FnExactVecMinSaid :=
  OpenClaim.holds_of_wide 10 Try.f10 rfl rfl rfl rfl rfl rfl rfl ⟨rfl, rfl, rfl, rfl, rfl⟩ rfl rfl rfl rfl rfl (by kernel_rfl) Try.func10 (by kernel_rfl)
    (of_decide_eq_true (by kernel_rfl)) (by unfold Func.isWrapper; first | (rw [if_pos (by decide +kernel)]; kernel_rfl) | (rw [if_neg (by decide +kernel)]; exact ⟨rfl, rfl⟩))
    (fun os started H enc _ => fnExactVecMin_lifted os started H enc)

set_option maxRecDepth 100000 in
theorem fnExactConstants_lifted (os : Os) (started : os.Started) (H : Type) (enc : TypeId × Value → H) :
    ReturnsInHanded {} Try.checked os 3 .any (Rows.fnExactConstantsSpec.pre6 enc Try.prog Try.f3 Rows.fnExactConstantsRow.domain false) (Rows.fnExactConstantsSpec.post enc Try.prog Try.f3 false true false false) := by
  refine returnsInHanded_of_change (C := Try.checked) own_ started (by kernel_rfl) Try.func3
    (ChangeSpec.witness6 (enc := enc) (C := Try.checked) false ⟨#[], #[], []⟩ 8 (by kernel_rfl) (by kernel_rfl) (by kernel_rfl) (by kernel_rfl)) ?_
  intro W base args ds gs before hval0 hW hcnd _
  have hval : ∀ (j : Nat) t v, Try.f3.params[j]? = some t → args[j]? = some v → Value.okWide Try.prog W .any base t v := hval0
  have hW' := hW
  obtain ⟨p, q, hA0, hV, rfl, hfz, hnd⟩ := hW
  have hA : DataW.TrodAll enc Try.prog W 0 (fun _ => true) true Try.f3.params.toList args.toList ds p := hA0
  rw [Try.params3] at hA hval
  obtain ⟨rfl, rfl⟩ := trodVars_none hV
  have r0 := hA
  obtain ⟨ea, rfl, rfl⟩ := trodAll_nil r0
  obtain rfl : args = #[] := by cases args; simp_all
  clear hA0 hval0
  refine (law_const W).mono fun e W' he => ?_
  obtain ⟨rfl, hb⟩ := he
  exact ⟨_, rfl, law_post laidOut_ (by rw [Try.params3]; intro t ht; simp at ht <;> first | done | (rcases ht with rfl | rfl | rfl | rfl | rfl <;> exact ⟨by kernel_rfl, of_decide_eq_true (by kernel_rfl)⟩) | (rcases ht with rfl | rfl | rfl <;> exact ⟨by kernel_rfl, of_decide_eq_true (by kernel_rfl)⟩) | (rcases ht with rfl | rfl <;> exact ⟨by kernel_rfl, of_decide_eq_true (by kernel_rfl)⟩) | (subst ht; exact ⟨by kernel_rfl, of_decide_eq_true (by kernel_rfl)⟩)) rfl rfl rfl Try.underlying4 hW' hb⟩
theorem fnExactConstants_holds : Rows.FnExactConstantsSaid :=
  OpenClaim.holds_of_wide 3 Try.f3 rfl rfl rfl rfl rfl rfl rfl ⟨rfl, rfl, rfl, rfl, rfl⟩ rfl rfl rfl rfl rfl (by kernel_rfl) Try.func3 (by kernel_rfl)
    (of_decide_eq_true (by kernel_rfl)) (by unfold Func.isWrapper; first | (rw [if_pos (by decide +kernel)]; kernel_rfl) | (rw [if_neg (by decide +kernel)]; exact ⟨rfl, rfl⟩))
    (fun os started H enc _ => fnExactConstants_lifted os started H enc)

end Go.Proofs.Ytkoephlichepeaa
