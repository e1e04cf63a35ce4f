import Derived.Test.YtkoephlichepeaaNw
import Derived.Test.YtkoephlichepeaaVb
namespace Go.Proofs.Ytkoephlichepeaa
open Go.RowKit
theorem eqB_self (a : V) : a.eqB a = true := by simp [V.eqB]

set_option maxHeartbeats 4000000 in
theorem law_textVec_big (s : ByteArray) (w : World) (hm : s.size ≤ 9223372036854775807) (hs : ¬ (s.size : Int) ≤ 1048576) :
    Calls Try.prog 14 #[.string s] w fun e w' => e = .returned (.bool true) ∧ Below w.heap.size w w' := by
  have h' : 1048576 < (s.size : Int) := by omega
  clear hs
  go_enter Try.func14, Try.ntmps14
  go_wp2
  go_ret
  exact ⟨rfl, Below.refl _ _⟩
set_option maxHeartbeats 4000000 in
theorem law_textVec_small (s : ByteArray) (w : World) (hs : s.size ≤ 1048576) :
    Calls Try.prog 14 #[.string s] w fun e w' => e = .returned (.bool true) ∧ Below w.heap.size w w' := by
  have h' : (s.size : Int) ≤ 1048576 := by omega
  have HS := Lib.hid hs
  clear hs
  go_enter Try.func14, Try.ntmps14
  go_wp2_with fail
  refine (stextVec_any s _ HS.out).mono ?_
  rintro e w1 ⟨rfl, hb1⟩
  go_wp2_with fail
  refine (textVec_any s _ HS.out).mono ?_
  rintro e w2 ⟨rfl, hb2⟩
  have hs2 := hb2.size
  simp at hs2
  have hy2 : w1.heap.size < w2.heap.size := by omega
  have m0 := fun o => hb2.cell (p := ⟨w1.heap.size, o, none⟩) (by simp)
  have m1 := fun o => hb2.frozen (p := ⟨w1.heap.size, o, none⟩) (by simp)
  go_wp2_with fail
  refine (eqVec_raw (tvecV s) (tvecV s) _).mono ?_
  rintro e w3 ⟨rfl, hb3⟩
  rw [eqB_self]
  go_wp2
  go_ret
  exact ⟨rfl, (by repeat (first | exact Below.refl _ _ | (refine bstep ?_ (below_alloc _ _)) | (refine bstep ?_ (by assumption)) | (refine Below.setCell ?_ (by simp <;> omega) _) | refine Below.drew ?_))⟩
theorem law_textVec (s : ByteArray) (hs : s.size ≤ maxLen) (w : World) :
    Calls Try.prog 14 #[.string s] w fun e w' => e = .returned (.bool true) ∧ Below w.heap.size w w' := by
  unfold maxLen at hs
  by_cases h : (s.size : Int) ≤ 1048576
  · exact law_textVec_small s w (by omega)
  · exact law_textVec_big s w (by omega) h
end Go.Proofs.Ytkoephlichepeaa
