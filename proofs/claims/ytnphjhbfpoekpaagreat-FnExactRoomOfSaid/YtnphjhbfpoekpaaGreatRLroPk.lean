/-
 FnExactRoomOf: for every input the law returns true, and each argument reads afterwards as it read before. No condition.
-/
import Derived.Test.YtnphjhbfpoekpaaGreatA0Pk
import Derived.ChangeMaps5
import Derived.Test.YtnphjhbfpoekpaaGreatLroPk
import Derived.Test.YtnphjhbfpoekpaaGreatIiPk
import Derived.Test.YtnphjhbfpoekpaaGreatA17Pk
namespace Go.Proofs.YtnphjhbfpoekpaaGreat
set_option linter.unusedSimpArgs false
set_option linter.unusedVariables false
set_option linter.unnecessarySimpa false
open Go.ChangeShapes Go.WideShapes Go.ChangeAt Go.RowKit
set_option maxRecDepth 100000 in
theorem fnExactRoomOf_lifted (os : Os) (started : os.Started) (H : Type) (enc : TypeId × Value → H) :
  ReturnsInHanded {} Tryz.checked os 7 .any (Rows.fnExactRoomOfSpec.pre6 enc Tryz.prog Tryz.f7 Rows.fnExactRoomOfRow.domain false) (Rows.fnExactRoomOfSpec.post enc Tryz.prog Tryz.f7 false true false false) := by
 refine returnsInHanded_of_change (C := Tryz.checked) own_ started (by kernel_rfl) Tryz.func7
  (ChangeSpec.witness6 (enc := enc) (C := Tryz.checked) false ⟨#[], #[.agg #[.slice none 0 0, .slice none 0 0, .slice none 0 0, .int .i64 0, .int .i64 0, .int .i64 0, .int .i64 0, .int .i64 0, .slice none 0 0, .slice none 0 0, .slice none 0 0]], []⟩ 8 (by kernel_rfl) (by kernel_rfl) (by kernel_rfl) (by kernel_rfl)) ?_
 intro W base args ds gs before hval0 hW hcnd _
 have hval : ∀ (j : Nat) t v, Tryz.f7.params[j]? = some t → args[j]? = some v → Value.okWide Tryz.prog W .any base t v := hval0
 have hW' := hW
 obtain ⟨p, q, hA0, hV, rfl, hfz, hnd⟩ := hW
 have hA : DataW.TrodAll enc Tryz.prog W 0 (fun _ => true) true Tryz.f7.params.toList args.toList ds p := hA0
 rw [Tryz.params7] at hA hval
 obtain ⟨rfl, rfl⟩ := trodVars_none hV
 have r0 := hA
 obtain ⟨v0, vs0, d0, ds0, p0, q0, e0, rfl, rfl, h0, r1⟩ := trodAll_cons r0
 obtain ⟨rfl, rfl, rfl⟩ := trodAll_nil r1
 obtain rfl : args = #[v0] := by cases args; simp_all
 obtain ⟨a0, st0, rfl, hx0, hr0⟩ := open_state (hval 0 70 v0 rfl rfl) h0
 clear hA0 hval0
 refine (law_roomOf a0 st0 W hx0 hr0).mono fun e W' he => ?_
 obtain ⟨rfl, hb⟩ := he
 exact ⟨_, rfl, law_post laidOut_ (by rw [Tryz.params7]; intro t ht; simp at ht <;> first | done | (rcases ht with rfl | rfl | rfl | rfl | rfl <;> exact ⟨by kernel_rfl, of_decide_eq_true (by kernel_rfl)⟩) | (rcases ht with rfl | rfl | rfl | rfl <;> exact ⟨by kernel_rfl, of_decide_eq_true (by kernel_rfl)⟩) | (rcases ht with rfl | rfl | rfl <;> exact ⟨by kernel_rfl, of_decide_eq_true (by kernel_rfl)⟩) | (rcases ht with rfl | rfl <;> exact ⟨by kernel_rfl, of_decide_eq_true (by kernel_rfl)⟩) | (subst ht; exact ⟨by kernel_rfl, of_decide_eq_true (by kernel_rfl)⟩)) rfl rfl rfl Tryz.underlying4 hW' hb⟩
set_option maxHeartbeats 4000000 in
theorem fnExactRoomOf_holds : Rows.FnExactRoomOfSaid :=
 OpenClaim.holds_of_wide 7 Tryz.f7 rfl rfl rfl rfl rfl rfl rfl ⟨rfl, rfl, rfl, rfl, rfl⟩ rfl rfl rfl rfl rfl (by as_aux_lemma => kernel_rfl) Tryz.func7 (by unfold joinedFacts; (repeat' (with_reducible refine and_mk ?_ ?_)); (· kernel_rfl); (· kernel_rfl); (· kernel_rfl); (· kernel_rfl); (· kernel_rfl); (· kernel_rfl); (· kernel_rfl); (· kernel_rfl); (· kernel_rfl); (· kernel_rfl); (· kernel_rfl); (· kernel_rfl); (· kernel_rfl); (· kernel_rfl); (· kernel_rfl); (· kernel_rfl); (· kernel_rfl); (· kernel_rfl); (· kernel_rfl); (· kernel_rfl); (· kernel_rfl); (· kernel_rfl); (· kernel_rfl); (· kernel_rfl); (· kernel_rfl); (· exact enter_); (· exact liftsB_); (· exact makeB_); (· kernel_rfl); (· kernel_rfl); (· kernel_rfl); (· kernel_rfl))
  (by as_aux_lemma => exact of_decide_eq_true (by kernel_rfl)) (by as_aux_lemma => (unfold Func.isWrapper; first | (rw [if_pos (by decide +kernel)]; kernel_rfl) | (rw [if_neg (by decide +kernel)]; exact ⟨rfl, rfl⟩)))
  (fun os started H enc _ => fnExactRoomOf_lifted os started H enc)
end Go.Proofs.YtnphjhbfpoekpaaGreat
