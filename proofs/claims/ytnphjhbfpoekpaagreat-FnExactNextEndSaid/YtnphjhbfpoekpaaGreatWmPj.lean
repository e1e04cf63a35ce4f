import Derived.Test.YtnphjhbfpoekpaaGreatWlPj
namespace Go.Proofs.YtnphjhbfpoekpaaGreat
set_option linter.unusedSimpArgs false
set_option linter.unusedVariables false
set_option linter.unnecessarySimpa false
open Go.RowKit
theorem next_bounds {s : St} (h : stateB s = true) : ∀ x ∈ s.runs, 0 ≤ x.at_ + x.j.wl ∧ x.at_ + x.j.wl ≤ 1000000000 := by
 have h1 : (roomO s).isSome = true := by
  unfold stateB at h
  simp only [Bool.and_eq_true] at h
  exact h.1.1.1.1.1
 obtain ⟨R, hR⟩ := Option.isSome_iff_exists.1 h1
 obtain ⟨-, -, ht, hr⟩ := st_runs hR
 intro x hx
 have h2 := (hr x hx).1
 have h3 : 0 ≤ s.now ∧ s.now ≤ 1000000000 := by simpa [timeB, inB] using ht
 unfold runB at h2
 simp only [Bool.and_eq_true] at h2
 have h4 : s.now + 1 ≤ x.at_ + x.j.wl ∧ x.at_ + x.j.wl ≤ 1000000000 := by simpa [inB] using h2.2
 omega
set_option maxHeartbeats 8000000 in
theorem NextEnd_any (a : SA) (s : St) (ss : List Value) (lo0 : Nat) (w : World) (h : StOwn w lo0 a s ss) :
  Calls Tryz.prog 31 #[a.v s] w fun e w' => e = .returned (.int .i64 (nextV s)) ∧ Below w.heap.size w w' := by
 obtain ⟨A, B, U, K, R, E, n, m, nu, nk, nr, ne, c, d, cu, ck, cr, ce⟩ := a
 dsimp only [SA.v]
 have H := Lib.hid h
 clear h
 have XP0 : Hid (BX w (w.alloc (.cells #[.slice A n c, .slice B m d, .slice U nu cu, .int .i64 s.lic.A, .int .i64 s.lic.B, .int .i64 s.lic.C, .int .i64 s.dep, .int .i64 s.now, .slice K nk ck, .slice R nr cr, .slice E ne ce] 77)) (w.heap.size) 77 [.slice A n c, .slice B m d, .slice U nu cu, .int .i64 s.lic.A, .int .i64 s.lic.B, .int .i64 s.lic.C, .int .i64 s.dep, .int .i64 s.now, .slice K nk ck, .slice R nr cr, .slice E ne ce]) := Lib.hid ⟨zAk _ rfl, zAa _ _, Nat.le_refl _⟩
 go_enter Tryz.func31, Tryz.ntmps31
 go_upto_region 1 with fail
 generalize w.alloc (.cells #[.slice A n c, .slice B m d, .slice U nu cu, .int .i64 s.lic.A, .int .i64 s.lic.B, .int .i64 s.lic.C, .int .i64 s.dep, .int .i64 s.now, .slice K nk ck, .slice R nr cr, .slice E ne ce] 77) = w1 at *
 have k0 := zAb XP0.out.bx 0 rfl
 have k1 := zAb XP0.out.bx 1 rfl
 have k2 := zAb XP0.out.bx 2 rfl
 have k3 := zAb XP0.out.bx 3 rfl
 have k4 := zAb XP0.out.bx 4 rfl
 have k5 := zAb XP0.out.bx 5 rfl
 have k6 := zAb XP0.out.bx 6 rfl
 have k7 := zAb XP0.out.bx 7 rfl
 have k8 := zAb XP0.out.bx 8 rfl
 have k9 := zAb XP0.out.bx 9 rfl
 have k10 := zAb XP0.out.bx 10 rfl
 have kf := zAh XP0.out.bx
 have kl := zAf XP0.out.bx
 simp only [zgc, zga, zgb] at k0 k1 k2 k3 k4 k5 k6 k7 k8 k9 k10
 go_wp2_with fail
 refine (StateOk_any ⟨A, B, U, K, R, E, n, m, nu, nk, nr, ne, c, d, cu, ck, cr, ce⟩ s ss _ (H.out.rd.bel XP0.out.bel)).mono ?_
 rintro e w2 ⟨rfl, hb2⟩
 have XP1 := Lib.hid (XP0.out.step hb2)
 clear hb2 k0 k1 k2 k3 k4 k5 k6 k7 k8 k9 k10 kf kl XP0
 have k0 := zAb XP1.out.bx 0 rfl
 have k1 := zAb XP1.out.bx 1 rfl
 have k2 := zAb XP1.out.bx 2 rfl
 have k3 := zAb XP1.out.bx 3 rfl
 have k4 := zAb XP1.out.bx 4 rfl
 have k5 := zAb XP1.out.bx 5 rfl
 have k6 := zAb XP1.out.bx 6 rfl
 have k7 := zAb XP1.out.bx 7 rfl
 have k8 := zAb XP1.out.bx 8 rfl
 have k9 := zAb XP1.out.bx 9 rfl
 have k10 := zAb XP1.out.bx 10 rfl
 have kf := zAh XP1.out.bx
 have kl := zAf XP1.out.bx
 simp only [zgc, zga, zgb] at k0 k1 k2 k3 k4 k5 k6 k7 k8 k9 k10
 cases hs : stateB s
 ·have HV : Hid (nextV s = -1) := Lib.hid (by unfold nextV; rw [hs]; rfl)
  clear hs
  go_wp2
  go_ret
  exact ⟨by rw [HV.out]; rfl, XP1.out.bel⟩
 ·have HV : Hid (nextV s = s.runs.foldl nextF (-1)) := Lib.hid (by unfold nextV; rw [hs]; rfl)
  have HS := Lib.hid hs
  clear hs
  go_wp2_with fail
  refine (nextEnd_any ⟨A, B, U, K, R, E, n, m, nu, nk, nr, ne, c, d, cu, ck, cr, ce⟩ s ss _ (H.out.rd.bel XP1.out.bel) (next_bounds HS.out)).mono ?_
  rintro e w3 ⟨rfl, hb3⟩
  have XP2 := Lib.hid (XP1.out.step hb3)
  clear hb3
  go_wp2
  go_ret
  exact ⟨by rw [HV.out]; rfl, XP2.out.bel⟩
set_option maxHeartbeats 8000000 in
theorem sNextEnd_any (a : SA) (s : St) (ss : List Value) (lo0 : Nat) (w : World) (h : StOwn w lo0 a s ss) :
  Calls Tryz.prog 30 #[a.v s] w fun e w' => e = .returned (.int .i64 (nextV s)) ∧ Below w.heap.size w w' := by
 obtain ⟨A, B, U, K, R, E, n, m, nu, nk, nr, ne, c, d, cu, ck, cr, ce⟩ := a
 dsimp only [SA.v]
 have H := Lib.hid h
 clear h
 have XP0 : Hid (BX w (w.alloc (.cells #[.slice A n c, .slice B m d, .slice U nu cu, .int .i64 s.lic.A, .int .i64 s.lic.B, .int .i64 s.lic.C, .int .i64 s.dep, .int .i64 s.now, .slice K nk ck, .slice R nr cr, .slice E ne ce] 77)) (w.heap.size) 77 [.slice A n c, .slice B m d, .slice U nu cu, .int .i64 s.lic.A, .int .i64 s.lic.B, .int .i64 s.lic.C, .int .i64 s.dep, .int .i64 s.now, .slice K nk ck, .slice R nr cr, .slice E ne ce]) := Lib.hid ⟨zAk _ rfl, zAa _ _, Nat.le_refl _⟩
 go_enter Tryz.func30, Tryz.ntmps30
 go_upto_region 1 with fail
 generalize w.alloc (.cells #[.slice A n c, .slice B m d, .slice U nu cu, .int .i64 s.lic.A, .int .i64 s.lic.B, .int .i64 s.lic.C, .int .i64 s.dep, .int .i64 s.now, .slice K nk ck, .slice R nr cr, .slice E ne ce] 77) = w1 at *
 have k0 := zAb XP0.out.bx 0 rfl
 have k1 := zAb XP0.out.bx 1 rfl
 have k2 := zAb XP0.out.bx 2 rfl
 have k3 := zAb XP0.out.bx 3 rfl
 have k4 := zAb XP0.out.bx 4 rfl
 have k5 := zAb XP0.out.bx 5 rfl
 have k6 := zAb XP0.out.bx 6 rfl
 have k7 := zAb XP0.out.bx 7 rfl
 have k8 := zAb XP0.out.bx 8 rfl
 have k9 := zAb XP0.out.bx 9 rfl
 have k10 := zAb XP0.out.bx 10 rfl
 have kf := zAh XP0.out.bx
 have kl := zAf XP0.out.bx
 simp only [zgc, zga, zgb] at k0 k1 k2 k3 k4 k5 k6 k7 k8 k9 k10
 go_wp2_with fail
 refine (sStateOk_any ⟨A, B, U, K, R, E, n, m, nu, nk, nr, ne, c, d, cu, ck, cr, ce⟩ s ss lo0 _ (H.out.bel XP0.out.bel)).mono ?_
 rintro e w2 ⟨rfl, hb2⟩
 have XP1 := Lib.hid (XP0.out.step hb2)
 clear hb2 k0 k1 k2 k3 k4 k5 k6 k7 k8 k9 k10 kf kl XP0
 have k0 := zAb XP1.out.bx 0 rfl
 have k1 := zAb XP1.out.bx 1 rfl
 have k2 := zAb XP1.out.bx 2 rfl
 have k3 := zAb XP1.out.bx 3 rfl
 have k4 := zAb XP1.out.bx 4 rfl
 have k5 := zAb XP1.out.bx 5 rfl
 have k6 := zAb XP1.out.bx 6 rfl
 have k7 := zAb XP1.out.bx 7 rfl
 have k8 := zAb XP1.out.bx 8 rfl
 have k9 := zAb XP1.out.bx 9 rfl
 have k10 := zAb XP1.out.bx 10 rfl
 have kf := zAh XP1.out.bx
 have kl := zAf XP1.out.bx
 simp only [zgc, zga, zgb] at k0 k1 k2 k3 k4 k5 k6 k7 k8 k9 k10
 cases hs : stateB s
 ·have HV : Hid (nextV s = -1) := Lib.hid (by unfold nextV; rw [hs]; rfl)
  clear hs
  go_wp2
  go_ret
  exact ⟨by rw [HV.out]; rfl, XP1.out.bel⟩
 ·have HV : Hid (nextV s = s.runs.foldl nextF (-1)) := Lib.hid (by unfold nextV; rw [hs]; rfl)
  have HS := Lib.hid hs
  clear hs
  go_wp2_with fail
  refine (sNext_any ⟨A, B, U, K, R, E, n, m, nu, nk, nr, ne, c, d, cu, ck, cr, ce⟩ s ss _ (H.out.rd.bel XP1.out.bel) (next_bounds HS.out)).mono ?_
  rintro e w3 ⟨rfl, hb3⟩
  have XP2 := Lib.hid (XP1.out.step hb3)
  clear hb3
  go_wp2
  go_ret
  exact ⟨by rw [HV.out]; rfl, XP2.out.bel⟩
end Go.Proofs.YtnphjhbfpoekpaaGreat
