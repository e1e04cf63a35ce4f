/-
 FnExactStateNew: for every input the law returns true, and each argument reads afterwards as it read before. No condition.
-/
import Derived.Test.YtnphjhbfpoekpaaGreatA0Pl
import Derived.ChangeMaps5
import Derived.Test.YtnphjhbfpoekpaaGreatLsnPl
import Derived.Test.YtnphjhbfpoekpaaGreatA3Pl
namespace Go.Proofs.YtnphjhbfpoekpaaGreat
set_option linter.unusedSimpArgs false
set_option linter.unusedVariables false
set_option linter.unnecessarySimpa false
open Go.ChangeShapes Go.WideShapes Go.ChangeAt Go.RowKit
set_option maxRecDepth 100000 in
theorem fnExactStateNew_lifted (os : Os) (started : os.Started) (H : Type) (enc : TypeId × Value → H) :
  ReturnsInHanded {} Tryz.checked os 8 .any (Rows.fnExactStateNewSpec.pre6 enc Tryz.prog Tryz.f8 Rows.fnExactStateNewRow.domain false) (Rows.fnExactStateNewSpec.post enc Tryz.prog Tryz.f8 false true false false) := by
 refine returnsInHanded_of_change (C := Tryz.checked) own_ started (by kernel_rfl) Tryz.func8
  (ChangeSpec.witness6 (enc := enc) (C := Tryz.checked) false ⟨#[], #[.agg #[.slice none 0 0, .slice none 0 0], .agg #[.int .i64 0, .int .i64 0, .int .i64 0], .int .i64 0], []⟩ 8 (by kernel_rfl) (by kernel_rfl) (by kernel_rfl) (by kernel_rfl)) ?_
 intro W base args ds gs before hval0 hW hcnd _
 have hval : ∀ (j : Nat) t v, Tryz.f8.params[j]? = some t → args[j]? = some v → Value.okWide Tryz.prog W .any base t v := hval0
 have hW' := hW
 obtain ⟨p, q, hA0, hV, rfl, hfz, hnd⟩ := hW
 have hA : DataW.TrodAll enc Tryz.prog W 0 (fun _ => true) true Tryz.f8.params.toList args.toList ds p := hA0
 rw [Tryz.params8] at hA hval
 obtain ⟨rfl, rfl⟩ := trodVars_none hV
 have r0 := hA
 obtain ⟨v0, vs0, d0, ds0, p0, q0, e0, rfl, rfl, h0, r1⟩ := trodAll_cons r0
 obtain ⟨v1, vs1, d1, ds1, p1, q1, e1, rfl, rfl, h1, r2⟩ := trodAll_cons r1
 subst e1
 obtain ⟨v2, vs2, d2, ds2, p2, q2, e2, rfl, rfl, h2, r3⟩ := trodAll_cons r2
 subst e2
 obtain ⟨rfl, rfl, rfl⟩ := trodAll_nil r3
 obtain rfl : args = #[v0, v1, v2] := by cases args; simp_all
 obtain ⟨cs0, m0, rfl, hl0, hf0⟩ := open_struct Tryz.underlying46 (hval 0 46 v0 rfl rfl) h0
 have hm0 : cs0.length = 2 := hl0.trans (by kernel_rfl)
 obtain ⟨u0, t0, rfl⟩ : ∃ a b, cs0 = [a, b] := vlen2 hm0
 obtain ⟨y0, hy0⟩ := hf0 0 _ rfl
 obtain ⟨yy0, hyy0⟩ := hf0 1 _ rfl
 have ei0 : Tryz.prog.cellsOf 23 = 1 := by kernel_rfl
 have en0 : Tryz.prog.cellsOf 44 = 1 := by kernel_rfl
 have hy0' : DataW.trod enc Tryz.prog W 0 (fun _ => true) true m0 23 [u0] = some y0 := by simpa [ei0] using hy0
 have hyy0' : DataW.trod enc Tryz.prog W 0 (fun _ => true) true m0 44 [t0] = some yy0 := by simpa [en0] using hyy0
 obtain ⟨A0, n0, c0, z0, rfl, hn0, hc0, hz0⟩ := open_int_slice (C := 1) (k := 4) Tryz.underlying23 (by kernel_rfl) (by omega) (by kernel_rfl) hy0'
 obtain ⟨B0, k0, d0x, zz0, rfl, hk0, hd0, hzz0⟩ := open_int_slice (C := 4) (k := 4) Tryz.underlying44 (by kernel_rfl) (by omega) (by kernel_rfl) hyy0'
 have hr0 := rdI_of hz0
 have hq0 := rdE_of hzz0
 obtain ⟨ns1, rfl, hl1⟩ := okWide_ints (ts := [3, 3, 3]) Tryz.underlying66 (by kernel_rfl) (by intro i hi; match i, hi with | 0, _ => exact Tryz.underlying3 | 1, _ => exact Tryz.underlying3 | 2, _ => exact Tryz.underlying3) (hval 1 66 v1 rfl rfl)
 have hm1 : ns1.length = 3 := hl1.trans (by kernel_rfl)
 obtain ⟨x1a, x1b, x1c, rfl⟩ : ∃ a b c, ns1 = [a, b, c] := len3 hm1
 obtain ⟨x2, rfl, rfl, rfl, w2⟩ := open_int Tryz.underlying3 (hval 2 3 v2 rfl rfl) h2
 clear hA0 hval0
 refine (law_stateNew A0 B0 n0 c0 k0 d0x _ _ ⟨x1a, x1b, x1c⟩ x2 W hn0 hk0 hr0 hq0).mono fun e W' he => ?_
 obtain ⟨rfl, hb⟩ := he
 exact ⟨_, rfl, law_post laidOut_ (by rw [Tryz.params8]; intro t ht; simp at ht <;> first | done | (rcases ht with rfl | rfl | rfl | rfl | rfl <;> exact ⟨by kernel_rfl, of_decide_eq_true (by kernel_rfl)⟩) | (rcases ht with rfl | rfl | rfl | rfl <;> exact ⟨by kernel_rfl, of_decide_eq_true (by kernel_rfl)⟩) | (rcases ht with rfl | rfl | rfl <;> exact ⟨by kernel_rfl, of_decide_eq_true (by kernel_rfl)⟩) | (rcases ht with rfl | rfl <;> exact ⟨by kernel_rfl, of_decide_eq_true (by kernel_rfl)⟩) | (subst ht; exact ⟨by kernel_rfl, of_decide_eq_true (by kernel_rfl)⟩)) rfl rfl rfl Tryz.underlying4 hW' hb⟩
set_option maxHeartbeats 4000000 in
theorem fnExactStateNew_holds : Rows.FnExactStateNewSaid :=
 OpenClaim.holds_of_wide 8 Tryz.f8 rfl rfl rfl rfl rfl rfl rfl ⟨rfl, rfl, rfl, rfl, rfl⟩ rfl rfl rfl rfl rfl (by as_aux_lemma => kernel_rfl) Tryz.func8 (by unfold joinedFacts; (repeat' (with_reducible refine and_mk ?_ ?_)); (· kernel_rfl); (· kernel_rfl); (· kernel_rfl); (· kernel_rfl); (· kernel_rfl); (· kernel_rfl); (· kernel_rfl); (· kernel_rfl); (· kernel_rfl); (· kernel_rfl); (· kernel_rfl); (· kernel_rfl); (· kernel_rfl); (· kernel_rfl); (· kernel_rfl); (· kernel_rfl); (· kernel_rfl); (· kernel_rfl); (· kernel_rfl); (· kernel_rfl); (· kernel_rfl); (· kernel_rfl); (· kernel_rfl); (· kernel_rfl); (· kernel_rfl); (· exact enter_); (· exact liftsB_); (· exact makeB_); (· kernel_rfl); (· kernel_rfl); (· kernel_rfl); (· kernel_rfl))
  (by as_aux_lemma => exact of_decide_eq_true (by kernel_rfl)) (by as_aux_lemma => (unfold Func.isWrapper; first | (rw [if_pos (by decide +kernel)]; kernel_rfl) | (rw [if_neg (by decide +kernel)]; exact ⟨rfl, rfl⟩)))
  (fun os started H enc _ => fnExactStateNew_lifted os started H enc)
end Go.Proofs.YtnphjhbfpoekpaaGreat
