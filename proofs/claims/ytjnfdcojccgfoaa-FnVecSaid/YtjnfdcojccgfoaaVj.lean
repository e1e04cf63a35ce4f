import Derived.Test.YtjnfdcojccgfoaaVa
import Derived.Deep.Light
namespace Go.Proofs.Ytjnfdcojccgfoaa
set_option linter.unusedSimpArgs false
set_option linter.unusedVariables false
set_option linter.unnecessarySimpa false
open Go.RowKit
structure J where
  id : Int
  pr : Int
  nn : Int
  na : Int
  nb : Int
  nc : Int
  la : Int
  lb : Int
  lc : Int
  wl : Int
  lv : Int
def J.okB (j : J) : Bool := inB j.id 1 999 && inB j.pr 0 999 && inB j.nn 1 24 && vecOkB j.na j.nb j.nc && vecOkB j.la j.lb j.lc && inB j.wl 1 1000000 && inB j.lv 0 24

set_option maxHeartbeats 1000000 in
theorem jobOk_raw (j : J) (w : World) :
    Calls Try.prog 112 #[.agg #[.int .i64 j.id, .int .i64 j.pr, .int .i64 j.nn, .int .i64 j.na, .int .i64 j.nb, .int .i64 j.nc, .int .i64 j.la, .int .i64 j.lb, .int .i64 j.lc, .int .i64 j.wl, .int .i64 j.lv]] w fun e w' => e = .returned (.bool j.okB) ∧ Below w.heap.size w w' := by
  go_enter Try.func112, Try.ntmps112
  go_wp2_with (first | (go_at_call 104; refine (within_any _ _ _ _).mono ?_; rintro e w1 ⟨rfl, rfl⟩) | (go_at_call 106; refine (vecOk_raw _ _ _ _).mono ?_; rintro e w1 ⟨rfl, hb1⟩; obtain ⟨hc1, hf1⟩ := bcell hb1; have hs1 := hb1.size; (try simp at hs1); have hy10 : w.heap.size < w1.heap.size := (by omega); have hk10 := fun o => hc1 (w.heap.size) o (by first | omega | (simp <;> omega)); have hg10 := fun o => hf1 (w.heap.size) o (by first | omega | (simp <;> omega)); clear hc1 hf1))
  all_goals go_light
  all_goals go_ret
  all_goals refine ⟨ret_bool ?_, (by repeat (first | exact Below.refl _ _ | (refine bstep ?_ (below_alloc _ _)) | (refine bstep ?_ (by assumption)) | (refine Below.setCell ?_ (by simp <;> omega) _) | refine Below.drew ?_))⟩
  all_goals (simp only [J.okB]; simp_all)

set_option maxHeartbeats 1000000 in
theorem sjobOk_raw (j : J) (w : World) :
    Calls Try.prog 110 #[.agg #[.int .i64 j.id, .int .i64 j.pr, .int .i64 j.nn, .int .i64 j.na, .int .i64 j.nb, .int .i64 j.nc, .int .i64 j.la, .int .i64 j.lb, .int .i64 j.lc, .int .i64 j.wl, .int .i64 j.lv]] w fun e w' => e = .returned (.bool j.okB) ∧ Below w.heap.size w w' := by
  go_enter Try.func110, Try.ntmps110
  go_wp2_with (go_at_call 51; refine (svecOk_raw _ _ _ _).mono ?_; rintro e w1 ⟨rfl, hb1⟩; obtain ⟨hc1, hf1⟩ := bcell hb1; have hs1 := hb1.size; (try simp at hs1); have hy10 : w.heap.size < w1.heap.size := (by omega); have hk10 := fun o => hc1 (w.heap.size) o (by first | omega | (simp <;> omega)); have hg10 := fun o => hf1 (w.heap.size) o (by first | omega | (simp <;> omega)); clear hc1 hf1)
  all_goals go_light
  all_goals go_ret
  all_goals refine ⟨ret_bool ?_, (by repeat (first | exact Below.refl _ _ | (refine bstep ?_ (below_alloc _ _)) | (refine bstep ?_ (by assumption)) | (refine Below.setCell ?_ (by simp <;> omega) _) | refine Below.drew ?_))⟩
  all_goals (simp only [J.okB, inB]; grind)
end Go.Proofs.Ytjnfdcojccgfoaa
