/-
  FnExactTopoText: for every input the law returns true, and each argument reads afterwards as it read before. No condition.
-/
import Derived.Test.YtjnfdcojccgfoaaRw
import Derived.ChangeMaps5
import Derived.Test.YtjnfdcojccgfoaaLj
import Derived.Test.YtjnfdcojccgfoaaRp
namespace Go.Proofs.Ytjnfdcojccgfoaa
set_option linter.unusedSimpArgs false
set_option linter.unusedVariables false
set_option linter.unnecessarySimpa false
open Go.ChangeShapes Go.WideShapes Go.ChangeAt Go.RowKit

set_option maxRecDepth 100000 in
theorem fnExactTopoText_lifted (os : Os) (started : os.Started) (H : Type) (enc : TypeId × Value → H) :
    ReturnsInHanded {} Try.checked os 16 .any (Rows.fnExactTopoTextSpec.pre6 enc Try.prog Try.f16 Rows.fnExactTopoTextRow.domain false) (Rows.fnExactTopoTextSpec.post enc Try.prog Try.f16 false true false false) := by
  refine returnsInHanded_of_change (C := Try.checked) own_ started (by kernel_rfl) Try.func16
    (ChangeSpec.witness6 (enc := enc) (C := Try.checked) false ⟨#[], #[.agg #[.slice none 0 0, .slice none 0 0]], []⟩ 8 (by kernel_rfl) (by kernel_rfl) (by kernel_rfl) (by kernel_rfl)) ?_
  intro W base args ds gs before hval0 hW hcnd _
  have hval : ∀ (j : Nat) t v, Try.f16.params[j]? = some t → args[j]? = some v → Value.okWide Try.prog W .any base t v := hval0
  have hW' := hW
  obtain ⟨p, q, hA0, hV, rfl, hfz, hnd⟩ := hW
  have hA : DataW.TrodAll enc Try.prog W 0 (fun _ => true) true Try.f16.params.toList args.toList ds p := hA0
  rw [Try.params16] at hA hval
  obtain ⟨rfl, rfl⟩ := trodVars_none hV
  have r0 := hA
  obtain ⟨v0, vs0, d0, ds0, p0, q0, e0, rfl, rfl, h0, r1⟩ := trodAll_cons r0
  obtain ⟨rfl, rfl, rfl⟩ := trodAll_nil r1
  obtain rfl : args = #[v0] := by cases args; simp_all
  obtain ⟨cs0, m0, rfl, hl0, hf0⟩ := open_struct Try.underlying75 (hval 0 75 v0 rfl rfl) h0
  have hm0 : cs0.length = 2 := hl0.trans (by kernel_rfl)
  obtain ⟨u0, t0, rfl⟩ : ∃ a b, cs0 = [a, b] := vlen2 hm0
  obtain ⟨y0, hy0⟩ := hf0 0 _ rfl
  obtain ⟨yy0, hyy0⟩ := hf0 1 _ rfl
  have ei0 : Try.prog.cellsOf 66 = 1 := by kernel_rfl
  have en0 : Try.prog.cellsOf 73 = 1 := by kernel_rfl
  have hy0' : DataW.trod enc Try.prog W 0 (fun _ => true) true m0 66 [u0] = some y0 := by simpa [ei0] using hy0
  have hyy0' : DataW.trod enc Try.prog W 0 (fun _ => true) true m0 73 [t0] = some yy0 := by simpa [en0] using hyy0
  obtain ⟨A0, n0, c0, z0, rfl, hn0, hc0, hz0⟩ := open_int_slice (C := 1) (k := 4) Try.underlying66 (by kernel_rfl) (by omega) (by kernel_rfl) hy0'
  obtain ⟨B0, k0, d0x, zz0, rfl, hk0, hd0, hzz0⟩ := open_int_slice (C := 4) (k := 4) Try.underlying73 (by kernel_rfl) (by omega) (by kernel_rfl) hyy0'
  have hr0 := rdI_of hz0
  have hq0 := rdE_of hzz0
  clear hA0 hval0
  refine (law_topoText A0 B0 n0 c0 k0 d0x _ _ W hn0 hk0 hr0 hq0).mono fun e W' he => ?_
  obtain ⟨rfl, hb⟩ := he
  exact ⟨_, rfl, law_post laidOut_ (by rw [Try.params16]; intro t ht; simp at ht <;> first | done | (rcases ht with rfl | rfl | rfl | rfl | rfl <;> exact ⟨by kernel_rfl, of_decide_eq_true (by kernel_rfl)⟩) | (rcases ht with rfl | rfl | rfl <;> exact ⟨by kernel_rfl, of_decide_eq_true (by kernel_rfl)⟩) | (rcases ht with rfl | rfl <;> exact ⟨by kernel_rfl, of_decide_eq_true (by kernel_rfl)⟩) | (subst ht; exact ⟨by kernel_rfl, of_decide_eq_true (by kernel_rfl)⟩)) rfl rfl rfl Try.underlying4 hW' hb⟩
set_option maxHeartbeats 4000000 in
theorem fnExactTopoText_holds : Rows.FnExactTopoTextSaid :=
  OpenClaim.holds_of_wide 16 Try.f16 rfl rfl rfl rfl rfl rfl rfl ⟨rfl, rfl, rfl, rfl, rfl⟩ rfl rfl rfl rfl rfl (by as_aux_lemma => kernel_rfl) Try.func16 (by unfold joinedFacts; (repeat' (with_reducible refine and_mk ?_ ?_)); (· kernel_rfl); (· kernel_rfl); (· kernel_rfl); (· kernel_rfl); (· kernel_rfl); (· kernel_rfl); (· kernel_rfl); (· kernel_rfl); (· kernel_rfl); (· kernel_rfl); (· kernel_rfl); (· kernel_rfl); (· kernel_rfl); (· kernel_rfl); (· kernel_rfl); (· kernel_rfl); (· kernel_rfl); (· kernel_rfl); (· kernel_rfl); (· kernel_rfl); (· kernel_rfl); (· kernel_rfl); (· kernel_rfl); (· kernel_rfl); (· kernel_rfl); (· exact enter_); (· exact liftsB_); (· exact makeB_); (· kernel_rfl); (· kernel_rfl); (· kernel_rfl); (· kernel_rfl))
    (by as_aux_lemma => exact of_decide_eq_true (by kernel_rfl)) (by as_aux_lemma => (unfold Func.isWrapper; first | (rw [if_pos (by decide +kernel)]; kernel_rfl) | (rw [if_neg (by decide +kernel)]; exact ⟨rfl, rfl⟩)))
    (fun os started H enc _ => fnExactTopoText_lifted os started H enc)

end Go.Proofs.Ytjnfdcojccgfoaa
