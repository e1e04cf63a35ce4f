import Derived.Test.YtkoephlichepeaaRw
import Derived.ChangeMaps5
import Derived.Test.YtkoephlichepeaaVl
namespace Go.Proofs.Ytkoephlichepeaa
open Go.ChangeShapes Go.WideShapes Go.ChangeAt Go.RowKit

set_option maxRecDepth 100000 in
theorem fnExactJobOk_lifted (os : Os) (started : os.Started) (H : Type) (enc : TypeId × Value → H) :
    ReturnsInHanded {} Try.checked os 7 .any (Rows.fnExactJobOkSpec.pre6 enc Try.prog Try.f7 Rows.fnExactJobOkRow.domain false) (Rows.fnExactJobOkSpec.post enc Try.prog Try.f7 false true false false) := by
  refine returnsInHanded_of_change (C := Try.checked) own_ started (by kernel_rfl) Try.func7
    (ChangeSpec.witness6 (enc := enc) (C := Try.checked) false ⟨#[], #[.agg #[.int .i64 0, .int .i64 0, .int .i64 0, .int .i64 0, .int .i64 0, .int .i64 0, .int .i64 0, .int .i64 0, .int .i64 0, .int .i64 0, .int .i64 0]], []⟩ 8 (by kernel_rfl) (by kernel_rfl) (by kernel_rfl) (by kernel_rfl)) ?_
  intro W base args ds gs before hval0 hW hcnd _
  have hval : ∀ (j : Nat) t v, Try.f7.params[j]? = some t → args[j]? = some v → Value.okWide Try.prog W .any base t v := hval0
  have hW' := hW
  obtain ⟨p, q, hA0, hV, rfl, hfz, hnd⟩ := hW
  have hA : DataW.TrodAll enc Try.prog W 0 (fun _ => true) true Try.f7.params.toList args.toList ds p := hA0
  rw [Try.params7] at hA hval
  obtain ⟨rfl, rfl⟩ := trodVars_none hV
  have r0 := hA
  obtain ⟨v0, vs0, d0, ds0, p0, q0, e0, rfl, rfl, h0, r1⟩ := trodAll_cons r0
  obtain ⟨rfl, rfl, rfl⟩ := trodAll_nil r1
  obtain rfl : args = #[v0] := by cases args; simp_all
  obtain ⟨ns0, rfl, hl0⟩ := okWide_ints (ts := List.replicate 11 3) Try.underlying34 (by kernel_rfl) (by intro i hi; rw [List.getElem?_replicate, if_pos (by simpa using hi)]; exact Try.underlying3) (hval 0 34 v0 rfl rfl)
  have hm0 : ns0.length = 11 := hl0.trans (by kernel_rfl)
  obtain ⟨x0a, x0b, x0c, x0d, x0e, x0f, x0g, x0h, x0i, x0j, x0k, rfl⟩ : ∃ x0a x0b x0c x0d x0e x0f x0g x0h x0i x0j x0k, ns0 = [x0a, x0b, x0c, x0d, x0e, x0f, x0g, x0h, x0i, x0j, x0k] := len11 hm0
  clear hA0 hval0
  refine (law_job ⟨x0a, x0b, x0c, x0d, x0e, x0f, x0g, x0h, x0i, x0j, x0k⟩ W).mono fun e W' he => ?_
  obtain ⟨rfl, hb⟩ := he
  exact ⟨_, rfl, law_post laidOut_ (by rw [Try.params7]; intro t ht; simp at ht <;> first | done | (rcases ht with rfl | rfl | rfl | rfl | rfl <;> exact ⟨by kernel_rfl, of_decide_eq_true (by kernel_rfl)⟩) | (rcases ht with rfl | rfl | rfl <;> exact ⟨by kernel_rfl, of_decide_eq_true (by kernel_rfl)⟩) | (rcases ht with rfl | rfl <;> exact ⟨by kernel_rfl, of_decide_eq_true (by kernel_rfl)⟩) | (subst ht; exact ⟨by kernel_rfl, of_decide_eq_true (by kernel_rfl)⟩)) rfl rfl rfl Try.underlying4 hW' hb⟩
theorem fnExactJobOk_holds : Rows.FnExactJobOkSaid :=
  OpenClaim.holds_of_wide 7 Try.f7 rfl rfl rfl rfl rfl rfl rfl ⟨rfl, rfl, rfl, rfl, rfl⟩ rfl rfl rfl rfl rfl (by kernel_rfl) Try.func7 (by kernel_rfl)
    (of_decide_eq_true (by kernel_rfl)) (by unfold Func.isWrapper; first | (rw [if_pos (by decide +kernel)]; kernel_rfl) | (rw [if_neg (by decide +kernel)]; exact ⟨rfl, rfl⟩))
    (fun os started H enc _ => fnExactJobOk_lifted os started H enc)

end Go.Proofs.Ytkoephlichepeaa
