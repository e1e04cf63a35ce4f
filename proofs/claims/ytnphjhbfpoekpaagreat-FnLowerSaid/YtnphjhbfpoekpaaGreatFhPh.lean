import Derived.Test.YtnphjhbfpoekpaaGreatFgPh
import Derived.Test.YtnphjhbfpoekpaaGreatA18Ph
namespace Go.Proofs.YtnphjhbfpoekpaaGreat
set_option linter.unusedSimpArgs false
set_option linter.unusedVariables false
set_option linter.unnecessarySimpa false
open Go.RowKit
theorem takeO_is {lo hi : Int} {v : V} {ps : List Q} : (takeO lo hi v ps).isSome = takeB ps lo hi v ∧ (takeO lo hi v ps).getD [] = tkV ps lo hi v := by
 unfold takeO tkV
 cases takeB ps lo hi v <;> simp
theorem takeO_len {lo hi : Int} {v : V} {ps p : List Q} (h : takeO lo hi v ps = some p) : p.length ≤ 1048576 := by
 obtain ⟨h1, rfl⟩ := takeO_some h
 have := (take_parts h1).2.2.2
 omega
theorem resV_wrap {r : Rm} {j : J} {at_ : Int} {nd : List Int} (h : timeB at_ = true) : movedV (takeO at_ (wrap64 (at_ + j.wl))) r j nd = resV r j at_ nd := by
 unfold resV
 rw [if_pos h]
 cases hj : j.okB
 ·rw [moved_bad (by rw [hj]; simp), moved_bad (by rw [hj]; simp)]
 ·have hw := hj
  have ht := h
  simp only [J.okB, timeB, inB, Bool.and_eq_true, decide_eq_true_eq] at hw ht
  rw [IntWalk.wrap64_in _ (by omega)]
theorem resV_bad {r : Rm} {j : J} {at_ : Int} {nd : List Int} (h : timeB at_ = false) : resV r j at_ nd = none := by
 unfold resV; rw [if_neg (by rw [h]; decide)]
theorem movedT_any (lo hi : Int) (a : RA) (r : Rm) (xs : List Value) (lo0 : Nat) (j : J) (D : Option Addr) (k e : Nat) (nd : List Int) (w : World) (h : RoomOwn w lo0 a r xs) (hk : k ≤ 1048576) (hke : k ≤ e) (he : e ≤ 9223372036854775807) (hd : Rd w D k 1 (ints nd)) (hl3 : ∀ g, D = some ⟨g, 0, none⟩ → g < w.heap.size) :
  Calls Tryz.prog 104 #[a.v, .agg #[.int .i64 j.id, .int .i64 j.pr, .int .i64 j.nn, .int .i64 j.na, .int .i64 j.nb, .int .i64 j.nc, .int .i64 j.la, .int .i64 j.lb, .int .i64 j.lc, .int .i64 j.wl, .int .i64 j.lv], .int .i64 lo, .int .i64 hi, .slice D k e, .func (.func 105) #[] #[]] w fun e w' => ∃ a' xs', e = .returned (.tuple #[RA.v a', .bool (movedV (takeO lo hi) r j nd).isSome]) ∧ RoomOwn w' w.heap.size a' ((movedV (takeO lo hi) r j nd).getD noRm) xs' ∧ Below w.heap.size w w' :=
 moved_any 105 (takeO lo hi) lo hi (enters_of Tryz.func105 (by kernel_rfl) rfl) (fun A9 n9 c9 ps v W h1 h2 h3 => by rw [takeO_is.1, takeO_is.2]; exact take_any A9 n9 c9 ps lo hi v W h1 h2 h3) (fun v ps p hp => takeO_len hp) a r xs lo0 j D k e nd w h hk hke he hd hl3
set_option maxHeartbeats 4000000 in
set_option maxRecDepth 20000 in
theorem Reserve_any (a : RA) (r : Rm) (xs : List Value) (lo0 : Nat) (j : J) (D : Option Addr) (k e : Nat) (nd : List Int) (w : World) (h : RoomOwn w lo0 a r xs) (hk : k ≤ 1048576) (hke : k ≤ e) (he : e ≤ 9223372036854775807) (hd : Rd w D k 1 (ints nd)) (hl3 : ∀ g, D = some ⟨g, 0, none⟩ → g < w.heap.size) (at_ : Int) :
  Calls Tryz.prog 57 #[a.v, .agg #[.int .i64 j.id, .int .i64 j.pr, .int .i64 j.nn, .int .i64 j.na, .int .i64 j.nb, .int .i64 j.nc, .int .i64 j.la, .int .i64 j.lb, .int .i64 j.lc, .int .i64 j.wl, .int .i64 j.lv], .int .i64 at_, .slice D k e] w fun e w' => ∃ a', e = .returned (.tuple #[RA.v a', .bool (resV r j at_ nd).isSome]) ∧ (∃ xs', RoomOwn w' w.heap.size a' ((resV r j at_ nd).getD noRm) xs') ∧ Below w.heap.size w w' := by
 have H := Lib.hid h
 obtain ⟨A, B, U, R, L, n, m, nu, np, nl, c, d, cu, cp, cl⟩ := a
 dsimp only [RA.v]
 have HK := Lib.hid hk
 have HD := Lib.hid hd
 have HL3 := Lib.hid hl3
 clear h hk hd hl3
 obtain ⟨RES, hRES⟩ : ∃ x, x = resV r j at_ nd := ⟨_, rfl⟩
 have HRES := Lib.hid hRES
 rw [← hRES]
 clear hRES
 obtain ⟨tb, htb⟩ : ∃ b, timeB at_ = b := ⟨_, rfl⟩
 have HTB := Lib.hid htb
 clear htb
 cases tb
 ·go_enter Tryz.func57, Tryz.ntmps57
  have W3 := Lib.hid (zAc (zAc (zAc (Below.refl w.heap.size w) (zAa w (.cells #[.slice A n c, .slice B m d, .slice U nu cu, .slice R np cp, .slice L nl cl] 33))) (zAa _ (.cells #[.int .i64 j.id, .int .i64 j.pr, .int .i64 j.nn, .int .i64 j.na, .int .i64 j.nb, .int .i64 j.nc, .int .i64 j.la, .int .i64 j.lb, .int .i64 j.lc, .int .i64 j.wl, .int .i64 j.lv] 95))) (zAa _ (.cells #[.slice none 0 0, .slice none 0 0, .slice none 0 0, .slice none 0 0, .slice none 0 0] 33)))
  have XZ0 := Lib.hid (show (((w.alloc (.cells #[.slice A n c, .slice B m d, .slice U nu cu, .slice R np cp, .slice L nl cl] 33)).alloc (.cells #[.int .i64 j.id, .int .i64 j.pr, .int .i64 j.nn, .int .i64 j.na, .int .i64 j.nb, .int .i64 j.nc, .int .i64 j.la, .int .i64 j.lb, .int .i64 j.lc, .int .i64 j.wl, .int .i64 j.lv] 95)).alloc (.cells #[.slice none 0 0, .slice none 0 0, .slice none 0 0, .slice none 0 0, .slice none 0 0] 33)).heap[w.heap.size + 2]? = some (.cells #[.slice none 0 0, .slice none 0 0, .slice none 0 0, .slice none 0 0, .slice none 0 0] 33 (0, 0)) from zAj _ (by simp))
  go_wp2_with (go_at_call 53; refine (isTime_any _ _).mono ?_; rintro e w' ⟨rfl, rfl⟩; rw [HTB.out])
  go_light
  refine bodyPost_ret (v := .tuple #[.agg #[.slice none 0 0, .slice none 0 0, .slice none 0 0, .slice none 0 0, .slice none 0 0], .bool false]) (by simp [results, Tryz.results57, go_sem, *]) rfl ?_
  rw [show RES = none from HRES.out.trans (resV_bad HTB.out)]
  exact ⟨⟨none, none, none, none, none, 0, 0, 0, 0, 0, 0, 0, 0, 0, 0⟩, rfl, ⟨[], noRm_own _ _⟩, W3.out⟩
 go_enter Tryz.func57, Tryz.ntmps57
 have W3 := Lib.hid (zAc (zAc (zAc (Below.refl w.heap.size w) (zAa w (.cells #[.slice A n c, .slice B m d, .slice U nu cu, .slice R np cp, .slice L nl cl] 33))) (zAa _ (.cells #[.int .i64 j.id, .int .i64 j.pr, .int .i64 j.nn, .int .i64 j.na, .int .i64 j.nb, .int .i64 j.nc, .int .i64 j.la, .int .i64 j.lb, .int .i64 j.lc, .int .i64 j.wl, .int .i64 j.lv] 95))) (zAa _ (.cells #[.slice none 0 0, .slice none 0 0, .slice none 0 0, .slice none 0 0, .slice none 0 0] 33)))
 have XZ0 := Lib.hid (show (((w.alloc (.cells #[.slice A n c, .slice B m d, .slice U nu cu, .slice R np cp, .slice L nl cl] 33)).alloc (.cells #[.int .i64 j.id, .int .i64 j.pr, .int .i64 j.nn, .int .i64 j.na, .int .i64 j.nb, .int .i64 j.nc, .int .i64 j.la, .int .i64 j.lb, .int .i64 j.lc, .int .i64 j.wl, .int .i64 j.lv] 95)).alloc (.cells #[.slice none 0 0, .slice none 0 0, .slice none 0 0, .slice none 0 0, .slice none 0 0] 33)).heap[w.heap.size + 2]? = some (.cells #[.slice none 0 0, .slice none 0 0, .slice none 0 0, .slice none 0 0, .slice none 0 0] 33 (0, 0)) from zAj _ (by simp))
 go_wp2_with (go_at_call 53; refine (isTime_any _ _).mono ?_; rintro e w' ⟨rfl, rfl⟩; rw [HTB.out])
 refine (movedT_any (at_) (wrap64 (at_ + j.wl)) ⟨A, B, U, R, L, n, m, nu, np, nl, c, d, cu, cp, cl⟩ r xs lo0 j D k e nd _ (H.out.bel W3.out) HK.out hke he (HD.out.below HL3.out W3.out) (zAi HL3.out W3.out)).mono ?_
 rintro e4 w4 ⟨a1, xs1, rfl, ro4, hb4⟩
 rw [resV_wrap HTB.out, ← HRES.out] at ro4
 rw [resV_wrap HTB.out, ← HRES.out]
 have hs4 := hb4.size
 (try simp at hs4)
 have y4 : w.heap.size + 2 < w4.heap.size := by omega
 have B4 := Lib.hid (zAc W3.out hb4)
 have XZ4 := Lib.hid (zAf XZ0.out hb4)
 obtain ⟨A1, B1, U1, R1, L1, n1, m1, nu1, np1, nl1, c1, d1, cu1, cp1, cl1⟩ := a1
 dsimp only [RA.v]
 have RO4 := Lib.hid (ro4.mono (lo' := w.heap.size) (by simp; omega))
 clear hb4 ro4
 have z0 := zAb XZ4.out 0 rfl
 have z1 := zAb XZ4.out 1 rfl
 have z2 := zAb XZ4.out 2 rfl
 have z3 := zAb XZ4.out 3 rfl
 have z4 := zAb XZ4.out 4 rfl
 have zf := zAh XZ4.out
 simp only [zgc, zga, zgb] at z0 z1 z2 z3 z4
 obtain ⟨bb, hbb⟩ : ∃ b, b = RES.isSome := ⟨_, rfl⟩
 rw [← hbb]
 have HBB := Lib.hid hbb
 clear hbb
 go_wp2
 go_light
 refine bodyPost_ret (v := .tuple #[.agg #[.slice A1 n1 c1, .slice B1 m1 d1, .slice U1 nu1 cu1, .slice R1 np1 cp1, .slice L1 nl1 cl1], .bool bb]) (by simp [results, Tryz.results57, go_sem, *]) rfl ?_
 rw [← HBB.out]
 exact ⟨⟨A1, B1, U1, R1, L1, n1, m1, nu1, np1, nl1, c1, d1, cu1, cp1, cl1⟩, rfl, ⟨xs1, RO4.out.box5 XZ4.out _ _ _ _ _⟩, bel_set5 B4.out (by omega) _ _ _ _ _⟩
end Go.Proofs.YtnphjhbfpoekpaaGreat
