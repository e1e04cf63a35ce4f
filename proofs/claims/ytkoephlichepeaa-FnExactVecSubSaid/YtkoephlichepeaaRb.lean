import Derived.Test.YtkoephlichepeaaRw
import Derived.Test.YtkoephlichepeaaVe
namespace Go.Proofs.Ytkoephlichepeaa
open Go.ChangeShapes Go.WideShapes Go.ChangeAt Go.RowKit

set_option maxRecDepth 100000 in
theorem fnExactVecOk_lifted (os : Os) (started : os.Started) (H : Type) (enc : TypeId × Value → H) :
    ReturnsInHanded {} Try.checked os 4 .any (Rows.fnExactVecOkSpec.pre6 enc Try.prog Try.f4 Rows.fnExactVecOkRow.domain false) (Rows.fnExactVecOkSpec.post enc Try.prog Try.f4 false true false false) := by
  refine returnsInHanded_of_change (C := Try.checked) own_ started (by kernel_rfl) Try.func4
    (ChangeSpec.witness6 (enc := enc) (C := Try.checked) false ⟨#[], #[.agg #[.int .i64 0, .int .i64 0, .int .i64 0]], []⟩ 8 (by kernel_rfl) (by kernel_rfl) (by kernel_rfl) (by kernel_rfl)) ?_
  intro W base args ds gs before hval0 hW hcnd _
  have hval : ∀ (j : Nat) t v, Try.f4.params[j]? = some t → args[j]? = some v → Value.okWide Try.prog W .any base t v := hval0
  have hW' := hW
  obtain ⟨p, q, hA0, hV, rfl, hfz, hnd⟩ := hW
  have hA : DataW.TrodAll enc Try.prog W 0 (fun _ => true) true Try.f4.params.toList args.toList ds p := hA0
  rw [Try.params4] at hA hval
  obtain ⟨rfl, rfl⟩ := trodVars_none hV
  have r0 := hA
  obtain ⟨v0, vs0, d0, ds0, p0, q0, e0, rfl, rfl, h0, r1⟩ := trodAll_cons r0
  obtain ⟨rfl, rfl, rfl⟩ := trodAll_nil r1
  obtain rfl : args = #[v0] := by cases args; simp_all
  obtain ⟨ns0, rfl, hl0⟩ := okWide_ints (ts := [3, 3, 3]) Try.underlying24 (by kernel_rfl) (by intro i hi; match i, hi with | 0, _ => exact Try.underlying3 | 1, _ => exact Try.underlying3 | 2, _ => exact Try.underlying3) (hval 0 24 v0 rfl rfl)
  have hm0 : ns0.length = 3 := hl0.trans (by kernel_rfl)
  obtain ⟨x0a, x0b, x0c, rfl⟩ : ∃ a b c, ns0 = [a, b, c] := len3 hm0
  clear hA0 hval0
  refine (law_ok ⟨x0a, x0b, x0c⟩ W).mono fun e W' he => ?_
  obtain ⟨rfl, hb⟩ := he
  exact ⟨_, rfl, law_post laidOut_ (by rw [Try.params4]; intro t ht; simp at ht <;> first | done | (rcases ht with rfl | rfl | rfl | rfl | rfl <;> exact ⟨by kernel_rfl, of_decide_eq_true (by kernel_rfl)⟩) | (rcases ht with rfl | rfl | rfl <;> exact ⟨by kernel_rfl, of_decide_eq_true (by kernel_rfl)⟩) | (rcases ht with rfl | rfl <;> exact ⟨by kernel_rfl, of_decide_eq_true (by kernel_rfl)⟩) | (subst ht; exact ⟨by kernel_rfl, of_decide_eq_true (by kernel_rfl)⟩)) rfl rfl rfl Try.underlying4 hW' hb⟩
theorem fnExactVecOk_holds : Rows.FnExactVecOkSaid :=
  OpenClaim.holds_of_wide 4 Try.f4 rfl rfl rfl rfl rfl rfl rfl ⟨rfl, rfl, rfl, rfl, rfl⟩ rfl rfl rfl rfl rfl (by kernel_rfl) Try.func4 (by kernel_rfl)
    (of_decide_eq_true (by kernel_rfl)) (by unfold Func.isWrapper; first | (rw [if_pos (by decide +kernel)]; kernel_rfl) | (rw [if_neg (by decide +kernel)]; exact ⟨rfl, rfl⟩))
    (fun os started H enc _ => fnExactVecOk_lifted os started H enc)

set_option maxRecDepth 100000 in
theorem fnExactVecFits_lifted (os : Os) (started : os.Started) (H : Type) (enc : TypeId × Value → H) :
    ReturnsInHanded {} Try.checked os 5 .any (Rows.fnExactVecFitsSpec.pre6 enc Try.prog Try.f5 Rows.fnExactVecFitsRow.domain false) (Rows.fnExactVecFitsSpec.post enc Try.prog Try.f5 false true false false) := by
  refine returnsInHanded_of_change (C := Try.checked) own_ started (by kernel_rfl) Try.func5
    (ChangeSpec.witness6 (enc := enc) (C := Try.checked) false ⟨#[], #[.agg #[.int .i64 0, .int .i64 0, .int .i64 0], .agg #[.int .i64 0, .int .i64 0, .int .i64 0]], []⟩ 8 (by kernel_rfl) (by kernel_rfl) (by kernel_rfl) (by kernel_rfl)) ?_
  intro W base args ds gs before hval0 hW hcnd _
  have hval : ∀ (j : Nat) t v, Try.f5.params[j]? = some t → args[j]? = some v → Value.okWide Try.prog W .any base t v := hval0
  have hW' := hW
  obtain ⟨p, q, hA0, hV, rfl, hfz, hnd⟩ := hW
  have hA : DataW.TrodAll enc Try.prog W 0 (fun _ => true) true Try.f5.params.toList args.toList ds p := hA0
  rw [Try.params5] at hA hval
  obtain ⟨rfl, rfl⟩ := trodVars_none hV
  have r0 := hA
  obtain ⟨v0, vs0, d0, ds0, p0, q0, e0, rfl, rfl, h0, r1⟩ := trodAll_cons r0
  obtain ⟨v1, vs1, d1, ds1, p1, q1, e1, rfl, rfl, h1, r2⟩ := trodAll_cons r1
  subst e1
  obtain ⟨rfl, rfl, rfl⟩ := trodAll_nil r2
  obtain rfl : args = #[v0, v1] := by cases args; simp_all
  obtain ⟨ns0, rfl, hl0⟩ := okWide_ints (ts := [3, 3, 3]) Try.underlying24 (by kernel_rfl) (by intro i hi; match i, hi with | 0, _ => exact Try.underlying3 | 1, _ => exact Try.underlying3 | 2, _ => exact Try.underlying3) (hval 0 24 v0 rfl rfl)
  have hm0 : ns0.length = 3 := hl0.trans (by kernel_rfl)
  obtain ⟨x0a, x0b, x0c, rfl⟩ : ∃ a b c, ns0 = [a, b, c] := len3 hm0
  obtain ⟨ns1, rfl, hl1⟩ := okWide_ints (ts := [3, 3, 3]) Try.underlying24 (by kernel_rfl) (by intro i hi; match i, hi with | 0, _ => exact Try.underlying3 | 1, _ => exact Try.underlying3 | 2, _ => exact Try.underlying3) (hval 1 24 v1 rfl rfl)
  have hm1 : ns1.length = 3 := hl1.trans (by kernel_rfl)
  obtain ⟨x1a, x1b, x1c, rfl⟩ : ∃ a b c, ns1 = [a, b, c] := len3 hm1
  clear hA0 hval0
  refine (law_fits ⟨x0a, x0b, x0c⟩ ⟨x1a, x1b, x1c⟩ W).mono fun e W' he => ?_
  obtain ⟨rfl, hb⟩ := he
  exact ⟨_, rfl, law_post laidOut_ (by rw [Try.params5]; intro t ht; simp at ht <;> first | done | (rcases ht with rfl | rfl | rfl | rfl | rfl <;> exact ⟨by kernel_rfl, of_decide_eq_true (by kernel_rfl)⟩) | (rcases ht with rfl | rfl | rfl <;> exact ⟨by kernel_rfl, of_decide_eq_true (by kernel_rfl)⟩) | (rcases ht with rfl | rfl <;> exact ⟨by kernel_rfl, of_decide_eq_true (by kernel_rfl)⟩) | (subst ht; exact ⟨by kernel_rfl, of_decide_eq_true (by kernel_rfl)⟩)) rfl rfl rfl Try.underlying4 hW' hb⟩
theorem fnExactVecFits_holds : Rows.FnExactVecFitsSaid :=
  OpenClaim.holds_of_wide 5 Try.f5 rfl rfl rfl rfl rfl rfl rfl ⟨rfl, rfl, rfl, rfl, rfl⟩ rfl rfl rfl rfl rfl (by kernel_rfl) Try.func5 (by kernel_rfl)
    (of_decide_eq_true (by kernel_rfl)) (by unfold Func.isWrapper; first | (rw [if_pos (by decide +kernel)]; kernel_rfl) | (rw [if_neg (by decide +kernel)]; exact ⟨rfl, rfl⟩))
    (fun os started H enc _ => fnExactVecFits_lifted os started H enc)

set_option maxRecDepth 100000 in
theorem fnExactVecSub_lifted (os : Os) (started : os.Started) (H : Type) (enc : TypeId × Value → H) :
    ReturnsInHanded {} Try.checked os 8 .any (Rows.fnExactVecSubSpec.pre6 enc Try.prog Try.f8 Rows.fnExactVecSubRow.domain false) (Rows.fnExactVecSubSpec.post enc Try.prog Try.f8 false true false false) := by
  refine returnsInHanded_of_change (C := Try.checked) own_ started (by kernel_rfl) Try.func8
    (ChangeSpec.witness6 (enc := enc) (C := Try.checked) false ⟨#[], #[.agg #[.int .i64 0, .int .i64 0, .int .i64 0], .agg #[.int .i64 0, .int .i64 0, .int .i64 0]], []⟩ 8 (by kernel_rfl) (by kernel_rfl) (by kernel_rfl) (by kernel_rfl)) ?_
  intro W base args ds gs before hval0 hW hcnd _
  have hval : ∀ (j : Nat) t v, Try.f8.params[j]? = some t → args[j]? = some v → Value.okWide Try.prog W .any base t v := hval0
  have hW' := hW
  obtain ⟨p, q, hA0, hV, rfl, hfz, hnd⟩ := hW
  have hA : DataW.TrodAll enc Try.prog W 0 (fun _ => true) true Try.f8.params.toList args.toList ds p := hA0
  rw [Try.params8] at hA hval
  obtain ⟨rfl, rfl⟩ := trodVars_none hV
  have r0 := hA
  obtain ⟨v0, vs0, d0, ds0, p0, q0, e0, rfl, rfl, h0, r1⟩ := trodAll_cons r0
  obtain ⟨v1, vs1, d1, ds1, p1, q1, e1, rfl, rfl, h1, r2⟩ := trodAll_cons r1
  subst e1
  obtain ⟨rfl, rfl, rfl⟩ := trodAll_nil r2
  obtain rfl : args = #[v0, v1] := by cases args; simp_all
  obtain ⟨ns0, rfl, hl0⟩ := okWide_ints (ts := [3, 3, 3]) Try.underlying24 (by kernel_rfl) (by intro i hi; match i, hi with | 0, _ => exact Try.underlying3 | 1, _ => exact Try.underlying3 | 2, _ => exact Try.underlying3) (hval 0 24 v0 rfl rfl)
  have hm0 : ns0.length = 3 := hl0.trans (by kernel_rfl)
  obtain ⟨x0a, x0b, x0c, rfl⟩ : ∃ a b c, ns0 = [a, b, c] := len3 hm0
  obtain ⟨ns1, rfl, hl1⟩ := okWide_ints (ts := [3, 3, 3]) Try.underlying24 (by kernel_rfl) (by intro i hi; match i, hi with | 0, _ => exact Try.underlying3 | 1, _ => exact Try.underlying3 | 2, _ => exact Try.underlying3) (hval 1 24 v1 rfl rfl)
  have hm1 : ns1.length = 3 := hl1.trans (by kernel_rfl)
  obtain ⟨x1a, x1b, x1c, rfl⟩ : ∃ a b c, ns1 = [a, b, c] := len3 hm1
  clear hA0 hval0
  refine (law_sub ⟨x0a, x0b, x0c⟩ ⟨x1a, x1b, x1c⟩ W).mono fun e W' he => ?_
  obtain ⟨rfl, hb⟩ := he
  exact ⟨_, rfl, law_post laidOut_ (by rw [Try.params8]; intro t ht; simp at ht <;> first | done | (rcases ht with rfl | rfl | rfl | rfl | rfl <;> exact ⟨by kernel_rfl, of_decide_eq_true (by kernel_rfl)⟩) | (rcases ht with rfl | rfl | rfl <;> exact ⟨by kernel_rfl, of_decide_eq_true (by kernel_rfl)⟩) | (rcases ht with rfl | rfl <;> exact ⟨by kernel_rfl, of_decide_eq_true (by kernel_rfl)⟩) | (subst ht; exact ⟨by kernel_rfl, of_decide_eq_true (by kernel_rfl)⟩)) rfl rfl rfl Try.underlying4 hW' hb⟩
theorem fnExactVecSub_holds : Rows.FnExactVecSubSaid :=
  OpenClaim.holds_of_wide 8 Try.f8 rfl rfl rfl rfl rfl rfl rfl ⟨rfl, rfl, rfl, rfl, rfl⟩ rfl rfl rfl rfl rfl (by kernel_rfl) Try.func8 (by kernel_rfl)
    (of_decide_eq_true (by kernel_rfl)) (by unfold Func.isWrapper; first | (rw [if_pos (by decide +kernel)]; kernel_rfl) | (rw [if_neg (by decide +kernel)]; exact ⟨rfl, rfl⟩))
    (fun os started H enc _ => fnExactVecSub_lifted os started H enc)

end Go.Proofs.Ytkoephlichepeaa
