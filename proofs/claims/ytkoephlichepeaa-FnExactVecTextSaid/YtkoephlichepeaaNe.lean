import Derived.Test.YtkoephlichepeaaNd
import Derived.Test.YtkoephlichepeaaVd
namespace Go.Proofs.Ytkoephlichepeaa
open Go.RowKit

set_option maxHeartbeats 1000000 in
theorem law_numText (n : Int) (w : World) :
    Calls Try.prog 6 #[.int .i64 n] w fun e w' => e = .returned (.bool true) ∧ Below w.heap.size w w' := by
  go_enter Try.func6, Try.ntmps6
  go_wp2_with (first | (go_at_call 20; refine (sNumText_full n _).mono ?_; rintro e w1 ⟨rfl, hb1⟩) | (go_at_call 21; refine (numText_full n _).mono ?_; rintro e w1 ⟨rfl, hb1⟩))
  go_ret
  exact ⟨rfl, (by repeat (first | exact Below.refl _ _ | (refine bstep ?_ (below_alloc _ _)) | (refine bstep ?_ (by assumption)) | (refine Below.setCell ?_ (by simp <;> omega) _) | refine Below.drew ?_))⟩

set_option maxHeartbeats 1000000 in
theorem law_vecText (a : V) (w : World) :
    Calls Try.prog 11 #[.agg #[.int .i64 a.A, .int .i64 a.B, .int .i64 a.C]] w fun e w' => e = .returned (.bool true) ∧ Below w.heap.size w w' := by
  go_enter Try.func11, Try.ntmps11
  go_wp2_with (first | (go_at_call 16; refine (toVec_any a _).mono ?_; rintro e w1 ⟨rfl, hb1⟩; obtain ⟨hc1, hf1⟩ := bcell hb1; have hs1 := hb1.size; (try simp at hs1); have hy10 : w.heap.size < w1.heap.size := (by omega); have hk10 := fun o => hc1 (w.heap.size) o (by first | omega | (simp <;> omega)); have hg10 := fun o => hf1 (w.heap.size) o (by first | omega | (simp <;> omega)); clear hc1 hf1) | (go_at_call 32; refine (svecText_any a.A a.B a.C _).mono ?_; rintro e w1 ⟨rfl, hb1⟩; obtain ⟨hc1, hf1⟩ := bcell hb1; have hs1 := hb1.size; (try simp at hs1); have hy10 : w.heap.size < w1.heap.size := (by omega); have hk10 := fun o => hc1 (w.heap.size) o (by first | omega | (simp <;> omega)); have hg10 := fun o => hf1 (w.heap.size) o (by first | omega | (simp <;> omega)); clear hc1 hf1) | (go_at_call 33; refine (vecText_any a.A a.B a.C _).mono ?_; rintro e w1 ⟨rfl, hb1⟩; obtain ⟨hc1, hf1⟩ := bcell hb1; have hs1 := hb1.size; (try simp at hs1); have hy10 : w.heap.size < w1.heap.size := (by omega); have hk10 := fun o => hc1 (w.heap.size) o (by first | omega | (simp <;> omega)); have hg10 := fun o => hf1 (w.heap.size) o (by first | omega | (simp <;> omega)); clear hc1 hf1))
  all_goals go_ret
  all_goals exact ⟨rfl, (by repeat (first | exact Below.refl _ _ | (refine bstep ?_ (below_alloc _ _)) | (refine bstep ?_ (by assumption)) | (refine Below.setCell ?_ (by simp <;> omega) _) | refine Below.drew ?_))⟩

set_option maxHeartbeats 1000000 in
theorem law_textNum (s : ByteArray) (hs : s.size ≤ maxLen) (w : World) :
    Calls Try.prog 12 #[.string s] w fun e w' => e = .returned (.bool true) ∧ Below w.heap.size w w' := by
  have hm := hs
  unfold maxLen at hs
  have HM := Lib.hid hm
  clear hm
  by_cases hbig : (s.size : Int) ≤ 1048576
  all_goals
    go_enter Try.func12, Try.ntmps12
    go_wp2_with (first | (go_at_call 34; refine (stextNum_any s _ HM.out).mono ?_; rintro e w1 ⟨rfl, hb1⟩) | (go_at_call 35; refine (textNum_any s _ HM.out).mono ?_; rintro e w1 ⟨rfl, hb1⟩))
    all_goals go_ret
    all_goals exact ⟨rfl, (by repeat (first | exact Below.refl _ _ | (refine bstep ?_ (below_alloc _ _)) | (refine bstep ?_ (by assumption)) | (refine Below.setCell ?_ (by simp <;> omega) _) | refine Below.drew ?_))⟩
end Go.Proofs.Ytkoephlichepeaa
