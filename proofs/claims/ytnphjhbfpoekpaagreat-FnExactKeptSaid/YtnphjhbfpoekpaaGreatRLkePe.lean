/-
  FnExactKept: for every input the law returns true, and each argument reads afterwards as it read before. No condition.
-/
import Derived.Test.YtnphjhbfpoekpaaGreatA0Pe
import Derived.ChangeMaps5
import Derived.Test.YtnphjhbfpoekpaaGreatLkePe
import Derived.Test.YtnphjhbfpoekpaaGreatIhPe
import Derived.Test.YtnphjhbfpoekpaaGreatJePe
import Derived.Test.YtnphjhbfpoekpaaGreatA17Pe
namespace Go.Proofs.YtnphjhbfpoekpaaGreat
set_option linter.unusedSimpArgs false
set_option linter.unusedVariables false
set_option linter.unnecessarySimpa false
open Go.ChangeShapes Go.WideShapes Go.ChangeAt Go.RowKit

set_option maxRecDepth 100000 in
theorem fnExactKept_lifted (os : Os) (started : os.Started) (H : Type) (enc : TypeId × Value → H) :
    ReturnsInHanded {} Tryz.checked os 4 .any (Rows.fnExactKeptSpec.pre6 enc Tryz.prog Tryz.f4 Rows.fnExactKeptRow.domain false) (Rows.fnExactKeptSpec.post enc Tryz.prog Tryz.f4 false true false false) := by
  refine returnsInHanded_of_change (C := Tryz.checked) own_ started (by kernel_rfl) Tryz.func4
    (ChangeSpec.witness6 (enc := enc) (C := Tryz.checked) false ⟨#[], #[.agg #[.slice none 0 0, .slice none 0 0, .slice none 0 0, .slice none 0 0, .slice none 0 0], .slice none 0 0, .slice none 0 0], []⟩ 8 (by kernel_rfl) (by kernel_rfl) (by kernel_rfl) (by kernel_rfl)) ?_
  intro W base args ds gs before hval0 hW hcnd _
  have hval : ∀ (j : Nat) t v, Tryz.f4.params[j]? = some t → args[j]? = some v → Value.okWide Tryz.prog W .any base t v := hval0
  have hW' := hW
  obtain ⟨p, q, hA0, hV, rfl, hfz, hnd⟩ := hW
  have hA : DataW.TrodAll enc Tryz.prog W 0 (fun _ => true) true Tryz.f4.params.toList args.toList ds p := hA0
  rw [Tryz.params4] at hA hval
  obtain ⟨rfl, rfl⟩ := trodVars_none hV
  have r0 := hA
  obtain ⟨v0, vs0, d0, ds0, p0, q0, e0, rfl, rfl, h0, r1⟩ := trodAll_cons r0
  obtain ⟨v1, vs1, d1, ds1, p1, q1, e1, rfl, rfl, h1, r2⟩ := trodAll_cons r1
  subst e1
  obtain ⟨v2, vs2, d2, ds2, p2, q2, e2, rfl, rfl, h2, r3⟩ := trodAll_cons r2
  subst e2
  obtain ⟨rfl, rfl, rfl⟩ := trodAll_nil r3
  obtain rfl : args = #[v0, v1, v2] := by cases args; simp_all
  obtain ⟨a0, rm0, rfl, hx0, hr0⟩ := open_room (hval 0 52 v0 rfl rfl) h0
  obtain ⟨A1, n1, c1, z1, rfl, hn1, hc1, hz1⟩ := open_int_slice1 (C := 11) (k := 4) Tryz.underlying53 (by kernel_rfl) (by omega) (by kernel_rfl) (hval 1 53 v1 rfl rfl) h1
  have hr1 := rdJ_of hz1
  obtain ⟨A2, n2, c2, hs2, rfl, hn2, hr2⟩ := open_helds (hval 2 54 v2 rfl rfl) h2
  clear hA0 hval0
  refine (law_kept a0 rm0 A1 n1 c1 _ A2 n2 c2 hs2 W hx0 hn1 hn2 hr0 hr1 hr2).mono fun e W' he => ?_
  obtain ⟨rfl, hb⟩ := he
  exact ⟨_, rfl, law_post laidOut_ (by rw [Tryz.params4]; intro t ht; simp at ht <;> first | done | (rcases ht with rfl | rfl | rfl | rfl | rfl <;> exact ⟨by kernel_rfl, of_decide_eq_true (by kernel_rfl)⟩) | (rcases ht with rfl | rfl | rfl | rfl <;> exact ⟨by kernel_rfl, of_decide_eq_true (by kernel_rfl)⟩) | (rcases ht with rfl | rfl | rfl <;> exact ⟨by kernel_rfl, of_decide_eq_true (by kernel_rfl)⟩) | (rcases ht with rfl | rfl <;> exact ⟨by kernel_rfl, of_decide_eq_true (by kernel_rfl)⟩) | (subst ht; exact ⟨by kernel_rfl, of_decide_eq_true (by kernel_rfl)⟩)) rfl rfl rfl Tryz.underlying4 hW' hb⟩
set_option maxHeartbeats 4000000 in
theorem fnExactKept_holds : Rows.FnExactKeptSaid :=
  OpenClaim.holds_of_wide 4 Tryz.f4 rfl rfl rfl rfl rfl rfl rfl ⟨rfl, rfl, rfl, rfl, rfl⟩ rfl rfl rfl rfl rfl (by as_aux_lemma => kernel_rfl) Tryz.func4 (by unfold joinedFacts; (repeat' (with_reducible refine and_mk ?_ ?_)); (· kernel_rfl); (· kernel_rfl); (· kernel_rfl); (· kernel_rfl); (· kernel_rfl); (· kernel_rfl); (· kernel_rfl); (· kernel_rfl); (· kernel_rfl); (· kernel_rfl); (· kernel_rfl); (· kernel_rfl); (· kernel_rfl); (· kernel_rfl); (· kernel_rfl); (· kernel_rfl); (· kernel_rfl); (· kernel_rfl); (· kernel_rfl); (· kernel_rfl); (· kernel_rfl); (· kernel_rfl); (· kernel_rfl); (· kernel_rfl); (· kernel_rfl); (· exact enter_); (· exact liftsB_); (· exact makeB_); (· kernel_rfl); (· kernel_rfl); (· kernel_rfl); (· kernel_rfl))
    (by as_aux_lemma => exact of_decide_eq_true (by kernel_rfl)) (by as_aux_lemma => (unfold Func.isWrapper; first | (rw [if_pos (by decide +kernel)]; kernel_rfl) | (rw [if_neg (by decide +kernel)]; exact ⟨rfl, rfl⟩)))
    (fun os started H enc _ => fnExactKept_lifted os started H enc)

end Go.Proofs.YtnphjhbfpoekpaaGreat
