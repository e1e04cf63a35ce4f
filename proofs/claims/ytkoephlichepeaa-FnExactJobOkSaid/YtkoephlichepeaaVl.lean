import Derived.Test.YtkoephlichepeaaVk
namespace Go.Proofs.Ytkoephlichepeaa
open Go.RowKit

set_option maxHeartbeats 1000000 in
theorem law_job (j : J) (w : World) :
    Calls Try.prog 7 #[.agg #[.int .i64 j.id, .int .i64 j.pr, .int .i64 j.nn, .int .i64 j.na, .int .i64 j.nb, .int .i64 j.nc, .int .i64 j.la, .int .i64 j.lb, .int .i64 j.lc, .int .i64 j.wl, .int .i64 j.lv]] w fun e w' => e = .returned (.bool true) ∧ Below w.heap.size w w' := by
  go_enter Try.func7, Try.ntmps7
  go_wp2_with (first | (go_at_call 23; refine (toJob_any j _).mono ?_; rintro e w1 ⟨rfl, hb1⟩; obtain ⟨hc1, hf1⟩ := bcell hb1; have hs1 := hb1.size; (try simp at hs1); have hy10 : w.heap.size < w1.heap.size := (by omega); have hk10 := fun o => hc1 (w.heap.size) o (by first | omega | (simp <;> omega)); have hg10 := fun o => hf1 (w.heap.size) o (by first | omega | (simp <;> omega)); clear hc1 hf1) | (go_at_call 22; refine (sjobOk_raw j _).mono ?_; rintro e w1 ⟨rfl, hb1⟩; obtain ⟨hc1, hf1⟩ := bcell hb1; have hs1 := hb1.size; (try simp at hs1); have hy10 : w.heap.size < w1.heap.size := (by omega); have hk10 := fun o => hc1 (w.heap.size) o (by first | omega | (simp <;> omega)); have hg10 := fun o => hf1 (w.heap.size) o (by first | omega | (simp <;> omega)); clear hc1 hf1) | (go_at_call 24; refine (jobOk_raw j _).mono ?_; rintro e w1 ⟨rfl, hb1⟩; obtain ⟨hc1, hf1⟩ := bcell hb1; have hs1 := hb1.size; (try simp at hs1); have hy10 : w.heap.size < w1.heap.size := (by omega); have hk10 := fun o => hc1 (w.heap.size) o (by first | omega | (simp <;> omega)); have hg10 := fun o => hf1 (w.heap.size) o (by first | omega | (simp <;> omega)); clear hc1 hf1))
  all_goals go_ret
  all_goals exact ⟨rfl, (by repeat (first | exact Below.refl _ _ | (refine bstep ?_ (below_alloc _ _)) | (refine bstep ?_ (by assumption)) | (refine Below.setCell ?_ (by simp <;> omega) _) | refine Below.drew ?_))⟩
end Go.Proofs.Ytkoephlichepeaa
