/-
  Drawn spans, and what is drawn for FnMin and FnCut.
-/
import Derived.Test.YtpfcegjomdppmaaDq
namespace Go.Proofs.Ytpfcegjomdppmaa
set_option linter.unusedSimpArgs false
set_option linter.unusedVariables false
set_option linter.unnecessarySimpa false
open Go.RowKit

set_option maxHeartbeats 2000000 in
theorem cur_span (g : Nat) (w : World) (h : Cur w g) :
    Calls Try.prog 103 #[.pointer (some ⟨g, 0, none⟩)] w fun e w' => ∃ x y : Int, e = .returned (.tuple #[.int .i64 x, .int .i64 y]) ∧ in64 x ∧ in64 y ∧ Cur w' g ∧ Fr (· = g) w w' := by
  have C := Lib.hid h
  clear h
  go_enter Try.func103, Try.ntmps103
  go_wp2_with fail
  refine (cur_below g 80 _ C.out (by omega) (by omega)).mono ?_
  rintro e w1 ⟨x1, rfl, a1, q1, cu1, fr1⟩
  have hs1 := fr1.size
  (try simp at hs1)
  have C1 := Lib.hid cu1
  have hgl1 := cu1.lt
  clear cu1
  go_wp2_with fail
  refine (cur_below g 50 _ C1.out (by omega) (by omega)).mono ?_
  rintro e w2 ⟨x2, rfl, a2, q2, cu2, fr2⟩
  have hs2 := fr2.size
  (try simp at hs2)
  have C2 := Lib.hid cu2
  have hgl2 := cu2.lt
  clear cu2
  go_wp2_with fail
  refine (cur_below g 12 _ C2.out (by omega) (by omega)).mono ?_
  rintro e w3 ⟨x3, rfl, a3, q3, cu3, fr3⟩
  have hs3 := fr3.size
  (try simp at hs3)
  have C3 := Lib.hid cu3
  have hgl3 := cu3.lt
  clear cu3
  have I1 : in64 x1 := ⟨by omega, by omega⟩
  have I2 : in64 (x1 + 1 + x2) := ⟨by omega, by omega⟩
  by_cases e0 : x3 = 0
  · subst e0
    go_wp2_with fail
    refine (cur_raw g _ C3.out).mono ?_
    rintro e w4 ⟨x4, rfl, a4, cu4, fr4⟩
    have hs4 := fr4.size
    (try simp at hs4)
    have C4 := Lib.hid cu4
    have hgl4 := cu4.lt
    clear cu4
    go_wp2
    go_ret2
    exact ⟨_, _, rfl, a4, I2, C4.out, ((fr1.trans fr2).trans fr3).trans fr4⟩
  by_cases e1 : x3 = 1
  · subst e1
    go_wp2_with fail
    refine (cur_raw g _ C3.out).mono ?_
    rintro e w4 ⟨x4, rfl, a4, cu4, fr4⟩
    have hs4 := fr4.size
    (try simp at hs4)
    have C4 := Lib.hid cu4
    have hgl4 := cu4.lt
    clear cu4
    go_wp2
    go_ret2
    exact ⟨_, _, rfl, I1, a4, C4.out, ((fr1.trans fr2).trans fr3).trans fr4⟩
  by_cases e2 : x3 = 2
  · subst e2
    go_wp2
    go_ret2
    exact ⟨_, _, rfl, I1, ⟨by omega, by omega⟩, C3.out, (fr1.trans fr2).trans fr3⟩
  go_wp2
  go_ret2
  exact ⟨_, _, rfl, I1, I2, C3.out, (fr1.trans fr2).trans fr3⟩

end Go.Proofs.Ytpfcegjomdppmaa
