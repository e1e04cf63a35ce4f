/-
 FnExactPlan: for every input the law returns true, and each argument reads afterwards as it read before. No condition.
-/
import Derived.Test.YtnphjhbfpoekpaaGreatA0Pf
import Derived.ChangeMaps5
import Derived.Test.YtnphjhbfpoekpaaGreatLplPf
import Derived.Test.YtnphjhbfpoekpaaGreatJePf
import Derived.Test.YtnphjhbfpoekpaaGreatA17Pf
namespace Go.Proofs.YtnphjhbfpoekpaaGreat
set_option linter.unusedSimpArgs false
set_option linter.unusedVariables false
set_option linter.unnecessarySimpa false
open Go.ChangeShapes Go.WideShapes Go.ChangeAt Go.RowKit
set_option maxRecDepth 100000 in
theorem fnExactPlan_lifted (os : Os) (started : os.Started) (H : Type) (enc : TypeId × Value → H) :
  ReturnsInHanded {} Tryz.checked os 10 .any (Rows.fnExactPlanSpec.pre6 enc Tryz.prog Tryz.f10 Rows.fnExactPlanRow.domain false) (Rows.fnExactPlanSpec.post enc Tryz.prog Tryz.f10 false true false false) := by
 refine returnsInHanded_of_change (C := Tryz.checked) own_ started (by kernel_rfl) Tryz.func10
  (ChangeSpec.witness6 (enc := enc) (C := Tryz.checked) false ⟨#[], #[.agg #[.slice none 0 0, .slice none 0 0, .slice none 0 0, .slice none 0 0, .slice none 0 0], .int .i64 0, .slice none 0 0, .int .i64 0], []⟩ 8 (by kernel_rfl) (by kernel_rfl) (by kernel_rfl) (by kernel_rfl)) ?_
 intro W base args ds gs before hval0 hW hcnd _
 have hval : ∀ (j : Nat) t v, Tryz.f10.params[j]? = some t → args[j]? = some v → Value.okWide Tryz.prog W .any base t v := hval0
 have hW' := hW
 obtain ⟨p, q, hA0, hV, rfl, hfz, hnd⟩ := hW
 have hA : DataW.TrodAll enc Tryz.prog W 0 (fun _ => true) true Tryz.f10.params.toList args.toList ds p := hA0
 rw [Tryz.params10] at hA hval
 obtain ⟨rfl, rfl⟩ := trodVars_none hV
 have r0 := hA
 obtain ⟨v0, vs0, d0, ds0, p0, q0, e0, rfl, rfl, h0, r1⟩ := trodAll_cons r0
 obtain ⟨v1, vs1, d1, ds1, p1, q1, e1, rfl, rfl, h1, r2⟩ := trodAll_cons r1
 subst e1
 obtain ⟨v2, vs2, d2, ds2, p2, q2, e2, rfl, rfl, h2, r3⟩ := trodAll_cons r2
 subst e2
 obtain ⟨v3, vs3, d3, ds3, p3, q3, e3, rfl, rfl, h3, r4⟩ := trodAll_cons r3
 subst e3
 obtain ⟨rfl, rfl, rfl⟩ := trodAll_nil r4
 obtain rfl : args = #[v0, v1, v2, v3] := by cases args; simp_all
 obtain ⟨a0, rm0, rfl, hx0, hr0⟩ := open_room (hval 0 52 v0 rfl rfl) h0
 obtain ⟨x1, rfl, rfl, rfl, w1⟩ := open_int Tryz.underlying3 (hval 1 3 v1 rfl rfl) h1
 obtain ⟨A2, n2, c2, z2, rfl, hn2, hc2, hz2⟩ := open_int_slice1 (C := 11) (k := 4) Tryz.underlying53 (by kernel_rfl) (by omega) (by kernel_rfl) (hval 2 53 v2 rfl rfl) h2
 have hr2 := rdJ_of hz2
 obtain ⟨x3, rfl, rfl, rfl, w3⟩ := open_int Tryz.underlying3 (hval 3 3 v3 rfl rfl) h3
 clear hA0 hval0
 refine (law_plan a0 rm0 x1 A2 n2 c2 _ x3 W hx0 hn2 hr0 hr2).mono fun e W' he => ?_
 obtain ⟨rfl, hb⟩ := he
 exact ⟨_, rfl, law_post laidOut_ (by rw [Tryz.params10]; intro t ht; simp at ht <;> first | done | (rcases ht with rfl | rfl | rfl | rfl | rfl <;> exact ⟨by kernel_rfl, of_decide_eq_true (by kernel_rfl)⟩) | (rcases ht with rfl | rfl | rfl | rfl <;> exact ⟨by kernel_rfl, of_decide_eq_true (by kernel_rfl)⟩) | (rcases ht with rfl | rfl | rfl <;> exact ⟨by kernel_rfl, of_decide_eq_true (by kernel_rfl)⟩) | (rcases ht with rfl | rfl <;> exact ⟨by kernel_rfl, of_decide_eq_true (by kernel_rfl)⟩) | (subst ht; exact ⟨by kernel_rfl, of_decide_eq_true (by kernel_rfl)⟩)) rfl rfl rfl Tryz.underlying4 hW' hb⟩
set_option maxHeartbeats 4000000 in
theorem fnExactPlan_holds : Rows.FnExactPlanSaid :=
 OpenClaim.holds_of_wide 10 Tryz.f10 rfl rfl rfl rfl rfl rfl rfl ⟨rfl, rfl, rfl, rfl, rfl⟩ rfl rfl rfl rfl rfl (by as_aux_lemma => kernel_rfl) Tryz.func10 (by unfold joinedFacts; (repeat' (with_reducible refine and_mk ?_ ?_)); (· kernel_rfl); (· kernel_rfl); (· kernel_rfl); (· kernel_rfl); (· kernel_rfl); (· kernel_rfl); (· kernel_rfl); (· kernel_rfl); (· kernel_rfl); (· kernel_rfl); (· kernel_rfl); (· kernel_rfl); (· kernel_rfl); (· kernel_rfl); (· kernel_rfl); (· kernel_rfl); (· kernel_rfl); (· kernel_rfl); (· kernel_rfl); (· kernel_rfl); (· kernel_rfl); (· kernel_rfl); (· kernel_rfl); (· kernel_rfl); (· kernel_rfl); (· exact enter_); (· exact liftsB_); (· exact makeB_); (· kernel_rfl); (· kernel_rfl); (· kernel_rfl); (· kernel_rfl))
  (by as_aux_lemma => exact of_decide_eq_true (by kernel_rfl)) (by as_aux_lemma => (unfold Func.isWrapper; first | (rw [if_pos (by decide +kernel)]; kernel_rfl) | (rw [if_neg (by decide +kernel)]; exact ⟨rfl, rfl⟩)))
  (fun os started H enc _ => fnExactPlan_lifted os started H enc)
end Go.Proofs.YtnphjhbfpoekpaaGreat
