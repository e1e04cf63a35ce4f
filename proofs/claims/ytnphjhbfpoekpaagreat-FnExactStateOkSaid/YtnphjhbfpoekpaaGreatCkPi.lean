import Derived.Test.YtnphjhbfpoekpaaGreatA21Pi
namespace Go.Proofs.YtnphjhbfpoekpaaGreat
set_option linter.unusedSimpArgs false
set_option linter.unusedVariables false
set_option linter.unnecessarySimpa false
open Go.RowKit
set_option maxHeartbeats 4000000 in
theorem areAsc_any (D : Option Addr) (k e : Nat) (nd : List Int) (w : World) (hk : k ≤ 1048576) (hd : Rd w D k 1 (ints nd)) (hl3 : ∀ g, D = some ⟨g, 0, none⟩ → g < w.heap.size) :
  Calls Tryz.prog 90 #[.slice D k e] w fun e w' => e = .returned (.bool (ascB nd)) ∧ Below w.heap.size w w' := by
 have hdl := hd.ilen
 have hk9 : k ≤ 9223372036854775807 := by omega
 have HK := Lib.hid hk
 have HD := Lib.hid hd
 have HL3 := Lib.hid hl3
 have HDL := Lib.hid hdl
 clear hk hd hl3 hdl
 go_enter Tryz.func90, Tryz.ntmps90
 go_wp2
 go_loopw [3] (fun i wr => ∃ j : Nat, 1 ≤ j ∧ (j ≤ k ∨ j = 1) ∧ i = .int .i64 j ∧ Hid ((nd.take j).Pairwise (· < ·)) ∧ Below w.heap.size w wr) (fun i _ => k + 1 - (intOf i).toNat)
 case atStart => exact ⟨1, Nat.le_refl _, Or.inr rfl, rfl, Lib.hid (by cases nd with | nil => simp | cons a r => simp), zBe⟩
 case round =>
  obtain ⟨j, hj1, hj, rfl, HASC, hbw⟩ := hrel
  have HB := Lib.hid hbw
  clear hbw
  by_cases hlt : j < k
  ·obtain ⟨m', rfl⟩ : ∃ m, j = m + 1 := ⟨j - 1, by omega⟩
   have hlt' : ((m' + 1 : Nat) : Int) < k := by omega
   obtain ⟨gD, x0, rfl, hx0, cx0⟩ := Rd.int (HD.out.below HL3.out HB.out) (show m' < k by omega)
   obtain ⟨gD', x1, hgD, hx1, cx1⟩ := Rd.int (HD.out.below HL3.out HB.out) (show m' + 1 < k by omega)
   obtain rfl : gD = gD' := by injection hgD with h1; injection h1
   have HX0 := Lib.hid hx0
   have HX1 := Lib.hid hx1
   have hm1 : (0 : Int) < (m' : Int) + 1 := by omega
   have hm4 : IntKind.i64.wrap ((m' : Int) + 1 - 1) = (m' : Int) := by rw [IntWalk.i64_in _ (by omega)]; omega
   have hm4' : IntKind.i64.wrap (m' : Int) = (m' : Int) := IntWalk.i64_in _ (by omega)
   have hm5 : (0 : Int) ≤ (m' : Int) := by omega
   have hm6 : (m' : Int) < k := by omega
   have hm7 : (m' : Int) + 1 < k := by omega
   clear hx0 hx1 hgD
   by_cases hxx : x0 < x1
   ·have hxx' : ¬ x1 ≤ x0 := by omega
    have HAS := Lib.hid (asc_snoc HASC.out HX0.out HX1.out hxx)
    go_wp2_with fail
    go_quiet (fail)
    go_wp2
    go_roundw
    case rel => exact ⟨m' + 2, by omega, by omega, by go_num, HAS, zAc HB.out (zAd _ _)⟩
    case measure => simp [intOf]; omega
   ·have hxx' : x1 ≤ x0 := by omega
    have HF := Lib.hid (asc_no HX0.out HX1.out hxx)
    go_wp2_with fail
    go_quiet (fail)
    go_wp2
    go_ret
    exact ⟨by rw [HF.out]; rfl, zAc HB.out (zAd _ _)⟩
  ·have HF : Hid (ascB nd = true) := Lib.hid (by
    have h1 := HASC.out
    rw [List.take_of_length_le (by have := HDL.out; omega)] at h1
    exact decide_eq_true h1)
   have hlt' : ¬ (j : Int) < k := by omega
   go_wp2
   go_ret
   exact ⟨by rw [HF.out]; rfl, HB.out⟩
end Go.Proofs.YtnphjhbfpoekpaaGreat
