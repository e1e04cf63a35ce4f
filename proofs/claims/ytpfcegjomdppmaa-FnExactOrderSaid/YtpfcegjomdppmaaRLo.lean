/-
  FnExactOrder: for every input the law returns true, and each argument reads afterwards as it read before. No condition.
-/
import Derived.Test.YtpfcegjomdppmaaA0
import Derived.ChangeMaps5
import Derived.Test.YtpfcegjomdppmaaLo
import Derived.Test.YtpfcegjomdppmaaJe
namespace Go.Proofs.Ytpfcegjomdppmaa
set_option linter.unusedSimpArgs false
set_option linter.unusedVariables false
set_option linter.unnecessarySimpa false
open Go.ChangeShapes Go.WideShapes Go.ChangeAt Go.RowKit

set_option maxRecDepth 100000 in
theorem fnExactOrder_lifted (os : Os) (started : os.Started) (H : Type) (enc : TypeId × Value → H) :
    ReturnsInHanded {} Try.checked os 5 .any (Rows.fnExactOrderSpec.pre6 enc Try.prog Try.f5 Rows.fnExactOrderRow.domain false) (Rows.fnExactOrderSpec.post enc Try.prog Try.f5 false true false false) := by
  refine returnsInHanded_of_change (C := Try.checked) own_ started (by kernel_rfl) Try.func5
    (ChangeSpec.witness6 (enc := enc) (C := Try.checked) false ⟨#[], #[.slice none 0 0], []⟩ 8 (by kernel_rfl) (by kernel_rfl) (by kernel_rfl) (by kernel_rfl)) ?_
  intro W base args ds gs before hval0 hW hcnd _
  have hval : ∀ (j : Nat) t v, Try.f5.params[j]? = some t → args[j]? = some v → Value.okWide Try.prog W .any base t v := hval0
  have hW' := hW
  obtain ⟨p, q, hA0, hV, rfl, hfz, hnd⟩ := hW
  have hA : DataW.TrodAll enc Try.prog W 0 (fun _ => true) true Try.f5.params.toList args.toList ds p := hA0
  rw [Try.params5] at hA hval
  obtain ⟨rfl, rfl⟩ := trodVars_none hV
  have r0 := hA
  obtain ⟨v0, vs0, d0, ds0, p0, q0, e0, rfl, rfl, h0, r1⟩ := trodAll_cons r0
  obtain ⟨rfl, rfl, rfl⟩ := trodAll_nil r1
  obtain rfl : args = #[v0] := by cases args; simp_all
  obtain ⟨A0, n0, c0, z0, rfl, hn0, hc0, hz0⟩ := open_int_slice1 (C := 11) (k := 4) Try.underlying64 (by kernel_rfl) (by omega) (by kernel_rfl) (hval 0 64 v0 rfl rfl) h0
  have hr0 := rdJ_of hz0
  clear hA0 hval0
  refine (law_order A0 n0 c0 _ W hn0 hr0).mono fun e W' he => ?_
  obtain ⟨rfl, hb⟩ := he
  exact ⟨_, rfl, law_post laidOut_ (by rw [Try.params5]; intro t ht; simp at ht <;> first | done | (rcases ht with rfl | rfl | rfl | rfl | rfl <;> exact ⟨by kernel_rfl, of_decide_eq_true (by kernel_rfl)⟩) | (rcases ht with rfl | rfl | rfl | rfl <;> exact ⟨by kernel_rfl, of_decide_eq_true (by kernel_rfl)⟩) | (rcases ht with rfl | rfl | rfl <;> exact ⟨by kernel_rfl, of_decide_eq_true (by kernel_rfl)⟩) | (rcases ht with rfl | rfl <;> exact ⟨by kernel_rfl, of_decide_eq_true (by kernel_rfl)⟩) | (subst ht; exact ⟨by kernel_rfl, of_decide_eq_true (by kernel_rfl)⟩)) rfl rfl rfl Try.underlying4 hW' hb⟩
set_option maxHeartbeats 4000000 in
theorem fnExactOrder_holds : Rows.FnExactOrderSaid :=
  OpenClaim.holds_of_wide 5 Try.f5 rfl rfl rfl rfl rfl rfl rfl ⟨rfl, rfl, rfl, rfl, rfl⟩ rfl rfl rfl rfl rfl (by as_aux_lemma => kernel_rfl) Try.func5 (by unfold joinedFacts; (repeat' (with_reducible refine and_mk ?_ ?_)); (· kernel_rfl); (· kernel_rfl); (· kernel_rfl); (· kernel_rfl); (· kernel_rfl); (· kernel_rfl); (· kernel_rfl); (· kernel_rfl); (· kernel_rfl); (· kernel_rfl); (· kernel_rfl); (· kernel_rfl); (· kernel_rfl); (· kernel_rfl); (· kernel_rfl); (· kernel_rfl); (· kernel_rfl); (· kernel_rfl); (· kernel_rfl); (· kernel_rfl); (· kernel_rfl); (· kernel_rfl); (· kernel_rfl); (· kernel_rfl); (· kernel_rfl); (· exact enter_); (· exact liftsB_); (· exact makeB_); (· kernel_rfl); (· kernel_rfl); (· kernel_rfl); (· kernel_rfl))
    (by as_aux_lemma => exact of_decide_eq_true (by kernel_rfl)) (by as_aux_lemma => (unfold Func.isWrapper; first | (rw [if_pos (by decide +kernel)]; kernel_rfl) | (rw [if_neg (by decide +kernel)]; exact ⟨rfl, rfl⟩)))
    (fun os started H enc _ => fnExactOrder_lifted os started H enc)

end Go.Proofs.Ytpfcegjomdppmaa
