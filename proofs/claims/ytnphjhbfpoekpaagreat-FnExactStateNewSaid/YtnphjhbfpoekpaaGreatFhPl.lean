import Derived.Test.YtnphjhbfpoekpaaGreatFgPl
import Derived.Test.YtnphjhbfpoekpaaGreatA18Pl
namespace Go.Proofs.YtnphjhbfpoekpaaGreat
set_option linter.unusedSimpArgs false
set_option linter.unusedVariables false
set_option linter.unnecessarySimpa false
open Go.RowKit
theorem takeO_is {lo hi : Int} {v : V} {ps : List Q} : (takeO lo hi v ps).isSome = takeB ps lo hi v ∧ (takeO lo hi v ps).getD [] = tkV ps lo hi v := by
 unfold takeO tkV
 cases takeB ps lo hi v <;> simp
theorem takeO_len {lo hi : Int} {v : V} {ps p : List Q} (h : takeO lo hi v ps = some p) : p.length ≤ 1048576 := by
 obtain ⟨h1, rfl⟩ := takeO_some h
 have := (take_parts h1).2.2.2
 omega
theorem resV_wrap {r : Rm} {j : J} {at_ : Int} {nd : List Int} (h : timeB at_ = true) : movedV (takeO at_ (wrap64 (at_ + j.wl))) r j nd = resV r j at_ nd := by
 unfold resV
 rw [if_pos h]
 cases hj : j.okB
 ·rw [moved_bad (by rw [hj]; simp), moved_bad (by rw [hj]; simp)]
 ·have hw := hj
  have ht := h
  simp only [J.okB, timeB, inB, Bool.and_eq_true, decide_eq_true_eq] at hw ht
  rw [IntWalk.wrap64_in _ (by omega)]
theorem resV_bad {r : Rm} {j : J} {at_ : Int} {nd : List Int} (h : timeB at_ = false) : resV r j at_ nd = none := by
 unfold resV; rw [if_neg (by rw [h]; decide)]
theorem movedT_any (lo hi : Int) (a : RA) (r : Rm) (xs : List Value) (lo0 : Nat) (j : J) (D : Option Addr) (k e : Nat) (nd : List Int) (w : World) (h : RoomOwn w lo0 a r xs) (hk : k ≤ 1048576) (hke : k ≤ e) (he : e ≤ 9223372036854775807) (hd : Rd w D k 1 (ints nd)) (hl3 : ∀ g, D = some ⟨g, 0, none⟩ → g < w.heap.size) :
  Calls Tryz.prog 104 #[a.v, .agg #[.int .i64 j.id, .int .i64 j.pr, .int .i64 j.nn, .int .i64 j.na, .int .i64 j.nb, .int .i64 j.nc, .int .i64 j.la, .int .i64 j.lb, .int .i64 j.lc, .int .i64 j.wl, .int .i64 j.lv], .int .i64 lo, .int .i64 hi, .slice D k e, .func (.func 105) #[] #[]] w fun e w' => ∃ a' xs', e = .returned (.tuple #[RA.v a', .bool (movedV (takeO lo hi) r j nd).isSome]) ∧ RoomOwn w' w.heap.size a' ((movedV (takeO lo hi) r j nd).getD noRm) xs' ∧ Below w.heap.size w w' :=
 moved_any 105 (takeO lo hi) lo hi (enters_of Tryz.func105 (by kernel_rfl) rfl) (fun A9 n9 c9 ps v W h1 h2 h3 => by rw [takeO_is.1, takeO_is.2]; exact take_any A9 n9 c9 ps lo hi v W h1 h2 h3) (fun v ps p hp => takeO_len hp) a r xs lo0 j D k e nd w h hk hke he hd hl3
end Go.Proofs.YtnphjhbfpoekpaaGreat
