import Derived.Test.YtnphjhbfpoekpaaGreatWmPj
import Derived.Test.YtnphjhbfpoekpaaGreatVkPj
import Derived.Deep.RegionHeld3
namespace Go.Proofs.YtnphjhbfpoekpaaGreat
set_option linter.unusedSimpArgs false
set_option linter.unusedVariables false
set_option linter.unnecessarySimpa false
open Go.RowKit
set_option maxHeartbeats 16000000 in
set_option maxRecDepth 20000 in
theorem law_next (a : SA) (s : St) (w : World) (hx : StMax a) (hr : StIn w a s) :
  Calls Tryz.prog 6 #[a.v s] w fun e w' => e = .returned (.bool true) ∧ Below w.heap.size w w' := by
 obtain ⟨A, B, U, K, R, E, n, m, nu, nk, nr, ne, c, d, cu, ck, cr, ce⟩ := a
 dsimp only [SA.v]
 have HX := Lib.hid hx
 have HR := Lib.hid hr
 obtain ⟨EB, hEB⟩ : ∃ y, y = nextV s := ⟨_, rfl⟩
 have HSC : Hid (∀ (a' : SA) (ss : List Value) (lo : Nat) (W : World), StOwn W lo a' s ss → Calls Tryz.prog 30 #[a'.v s] W fun e W' => e = .returned (.int .i64 EB) ∧ Below W.heap.size W W') := Lib.hid (fun a' ss lo W h => by rw [hEB]; exact sNextEnd_any a' s ss lo W h)
 have HIC : Hid (∀ (a' : SA) (ss : List Value) (lo : Nat) (W : World), StOwn W lo a' s ss → Calls Tryz.prog 31 #[a'.v s] W fun e W' => e = .returned (.int .i64 EB) ∧ Below W.heap.size W W') := Lib.hid (fun a' ss lo W h => by rw [hEB]; exact NextEnd_any a' s ss lo W h)
 clear hx hr hEB
 have XP0 : Hid (BX w (w.alloc (.cells #[.slice A n c, .slice B m d, .slice U nu cu, .int .i64 s.lic.A, .int .i64 s.lic.B, .int .i64 s.lic.C, .int .i64 s.dep, .int .i64 s.now, .slice K nk ck, .slice R nr cr, .slice E ne ce] 70)) (w.heap.size) 70 [.slice A n c, .slice B m d, .slice U nu cu, .int .i64 s.lic.A, .int .i64 s.lic.B, .int .i64 s.lic.C, .int .i64 s.dep, .int .i64 s.now, .slice K nk ck, .slice R nr cr, .slice E ne ce]) := Lib.hid ⟨zAk _ rfl, zAa _ _, Nat.le_refl _⟩
 go_enter Tryz.func6, Tryz.ntmps6
 go_upto_region 2 with fail
 generalize w.alloc (.cells #[.slice A n c, .slice B m d, .slice U nu cu, .int .i64 s.lic.A, .int .i64 s.lic.B, .int .i64 s.lic.C, .int .i64 s.dep, .int .i64 s.now, .slice K nk ck, .slice R nr cr, .slice E ne ce] 70) = w1 at *
 have k0 := zAb XP0.out.bx 0 rfl
 have k1 := zAb XP0.out.bx 1 rfl
 have k2 := zAb XP0.out.bx 2 rfl
 have k3 := zAb XP0.out.bx 3 rfl
 have k4 := zAb XP0.out.bx 4 rfl
 have k5 := zAb XP0.out.bx 5 rfl
 have k6 := zAb XP0.out.bx 6 rfl
 have k7 := zAb XP0.out.bx 7 rfl
 have k8 := zAb XP0.out.bx 8 rfl
 have k9 := zAb XP0.out.bx 9 rfl
 have k10 := zAb XP0.out.bx 10 rfl
 have kf := zAh XP0.out.bx
 have kl := zAf XP0.out.bx
 simp only [zgc, zga, zgb] at k0 k1 k2 k3 k4 k5 k6 k7 k8 k9 k10
 go_wp2_with fail
 refine (szState_any ⟨A, B, U, K, R, E, n, m, nu, nk, nr, ne, c, d, cu, ck, cr, ce⟩ s _ HX.out (HR.out.below XP0.out.bel)).mono ?_
 rintro e w2 ⟨z, rfl, hz, hb2⟩
 have XP1 := Lib.hid (XP0.out.step hb2)
 clear hb2
 clear k0 k1 k2 k3 k4 k5 k6 k7 k8 k9 k10 kf kl
 have k0 := zAb XP1.out.bx 0 rfl
 have k1 := zAb XP1.out.bx 1 rfl
 have k2 := zAb XP1.out.bx 2 rfl
 have k3 := zAb XP1.out.bx 3 rfl
 have k4 := zAb XP1.out.bx 4 rfl
 have k5 := zAb XP1.out.bx 5 rfl
 have k6 := zAb XP1.out.bx 6 rfl
 have k7 := zAb XP1.out.bx 7 rfl
 have k8 := zAb XP1.out.bx 8 rfl
 have k9 := zAb XP1.out.bx 9 rfl
 have k10 := zAb XP1.out.bx 10 rfl
 have kf := zAh XP1.out.bx
 have kl := zAf XP1.out.bx
 simp only [zgc, zga, zgb] at k0 k1 k2 k3 k4 k5 k6 k7 k8 k9 k10
 rcases hz with hz | ⟨hz, hsz⟩
 ·go_wp2
  go_ret
  exact ⟨rfl, XP1.out.bel⟩
 have SZ := Lib.hid hsz
 have hz' : ¬ z < 0 := by omega
 clear hsz
 go_wp2_with fail
 refine (toState_any ⟨A, B, U, K, R, E, n, m, nu, nk, nr, ne, c, d, cu, ck, cr, ce⟩ s _ SZ.out (HR.out.below XP1.out.bel)).mono ?_
 rintro e w3 ⟨a3, ss3, rfl, -, own3, hb3⟩
 have OS3 := Lib.hid own3
 have XP2 := Lib.hid (XP1.out.step hb3)
 clear hb3 own3
 clear k0 k1 k2 k3 k4 k5 k6 k7 k8 k9 k10 kf kl
 go_wp2_with fail
 refine (HSC.out a3 ss3 _ _ OS3.out).mono ?_
 rintro e w4 ⟨rfl, hb4⟩
 have XP3 := Lib.hid (XP2.out.step hb4)
 clear hb4 OS3
 have k0 := zAb XP3.out.bx 0 rfl
 have k1 := zAb XP3.out.bx 1 rfl
 have k2 := zAb XP3.out.bx 2 rfl
 have k3 := zAb XP3.out.bx 3 rfl
 have k4 := zAb XP3.out.bx 4 rfl
 have k5 := zAb XP3.out.bx 5 rfl
 have k6 := zAb XP3.out.bx 6 rfl
 have k7 := zAb XP3.out.bx 7 rfl
 have k8 := zAb XP3.out.bx 8 rfl
 have k9 := zAb XP3.out.bx 9 rfl
 have k10 := zAb XP3.out.bx 10 rfl
 have kf := zAh XP3.out.bx
 have kl := zAf XP3.out.bx
 simp only [zgc, zga, zgb] at k0 k1 k2 k3 k4 k5 k6 k7 k8 k9 k10
 go_wp2_with fail
 refine (toState_any ⟨A, B, U, K, R, E, n, m, nu, nk, nr, ne, c, d, cu, ck, cr, ce⟩ s _ SZ.out (HR.out.below XP3.out.bel)).mono ?_
 rintro e w5 ⟨a5, ss5, rfl, q5, own5, hb5⟩
 obtain ⟨A5, B5, U5, K5, R5, E5, n5, m5, nu5, nk5, nr5, ne5, c5, d5, cu5, ck5, cr5, ce5⟩ := a5
 have Q5 := Lib.hid q5
 have OS5 := Lib.hid own5
 have XP4 := Lib.hid ((XP3.out.step hb5).step (zAa w5 (.cells #[.slice A5 n5 c5, .slice B5 m5 d5, .slice U5 nu5 cu5, .int .i64 s.lic.A, .int .i64 s.lic.B, .int .i64 s.lic.C, .int .i64 s.dep, .int .i64 s.now, .slice K5 nk5 ck5, .slice R5 nr5 cr5, .slice E5 ne5 ce5] 77)))
 have XP4' := Lib.hid (XP3.out.step hb5)
 have YP4 : Hid (BX w (w5.alloc (.cells #[.slice A5 n5 c5, .slice B5 m5 d5, .slice U5 nu5 cu5, .int .i64 s.lic.A, .int .i64 s.lic.B, .int .i64 s.lic.C, .int .i64 s.dep, .int .i64 s.now, .slice K5 nk5 ck5, .slice R5 nr5 cr5, .slice E5 ne5 ce5] 77)) w5.heap.size 77 [.slice A5 n5 c5, .slice B5 m5 d5, .slice U5 nu5 cu5, .int .i64 s.lic.A, .int .i64 s.lic.B, .int .i64 s.lic.C, .int .i64 s.dep, .int .i64 s.now, .slice K5 nk5 ck5, .slice R5 nr5 cr5, .slice E5 ne5 ce5]) := Lib.hid ⟨zAk _ rfl, XP4.out.bel, XP4'.out.bel.size⟩
 have OS6 := Lib.hid (OS5.out.bel (zAa w5 (.cells #[.slice A5 n5 c5, .slice B5 m5 d5, .slice U5 nu5 cu5, .int .i64 s.lic.A, .int .i64 s.lic.B, .int .i64 s.lic.C, .int .i64 s.dep, .int .i64 s.now, .slice K5 nk5 ck5, .slice R5 nr5 cr5, .slice E5 ne5 ce5] 77)))
 dsimp only [SA.v]
 clear hb5 own5 q5 OS5 XP4'
 clear k0 k1 k2 k3 k4 k5 k6 k7 k8 k9 k10 kf kl
 go_upto_region 7 with fail
 generalize w5.alloc (.cells #[.slice A5 n5 c5, .slice B5 m5 d5, .slice U5 nu5 cu5, .int .i64 s.lic.A, .int .i64 s.lic.B, .int .i64 s.lic.C, .int .i64 s.dep, .int .i64 s.now, .slice K5 nk5 ck5, .slice R5 nr5 cr5, .slice E5 ne5 ce5] 77) = w6 at *
 obtain ⟨bn, hbn⟩ : ∃ y, y = w5.heap.size := ⟨_, rfl⟩
 rw [← hbn] at YP4 ⊢
 clear hbn
 have v0 := zAb YP4.out.bx 0 rfl
 have v1 := zAb YP4.out.bx 1 rfl
 have v2 := zAb YP4.out.bx 2 rfl
 have v3 := zAb YP4.out.bx 3 rfl
 have v4 := zAb YP4.out.bx 4 rfl
 have v5 := zAb YP4.out.bx 5 rfl
 have v6 := zAb YP4.out.bx 6 rfl
 have v7 := zAb YP4.out.bx 7 rfl
 have v8 := zAb YP4.out.bx 8 rfl
 have v9 := zAb YP4.out.bx 9 rfl
 have v10 := zAb YP4.out.bx 10 rfl
 have vf := zAh YP4.out.bx
 have vl := zAf YP4.out.bx
 simp only [zgc, zga, zgb] at v0 v1 v2 v3 v4 v5 v6 v7 v8 v9 v10
 go_wp2_with fail
 refine (HIC.out ⟨A5, B5, U5, K5, R5, E5, n5, m5, nu5, nk5, nr5, ne5, c5, d5, cu5, ck5, cr5, ce5⟩ ss5 _ _ OS6.out).mono ?_
 rintro e w7 ⟨rfl, hb7⟩
 have XP5 := Lib.hid (XP4.out.step hb7)
 have YP5 := Lib.hid (YP4.out.step hb7)
 have OS7 := Lib.hid (OS6.out.bel hb7)
 clear hb7 OS6 XP4 YP4
 clear v0 v1 v2 v3 v4 v5 v6 v7 v8 v9 v10 vf vl
 have k0 := zAb XP5.out.bx 0 rfl
 have k1 := zAb XP5.out.bx 1 rfl
 have k2 := zAb XP5.out.bx 2 rfl
 have k3 := zAb XP5.out.bx 3 rfl
 have k4 := zAb XP5.out.bx 4 rfl
 have k5 := zAb XP5.out.bx 5 rfl
 have k6 := zAb XP5.out.bx 6 rfl
 have k7 := zAb XP5.out.bx 7 rfl
 have k8 := zAb XP5.out.bx 8 rfl
 have k9 := zAb XP5.out.bx 9 rfl
 have k10 := zAb XP5.out.bx 10 rfl
 have kf := zAh XP5.out.bx
 have kl := zAf XP5.out.bx
 simp only [zgc, zga, zgb] at k0 k1 k2 k3 k4 k5 k6 k7 k8 k9 k10
 have v0 := zAb YP5.out.bx 0 rfl
 have v1 := zAb YP5.out.bx 1 rfl
 have v2 := zAb YP5.out.bx 2 rfl
 have v3 := zAb YP5.out.bx 3 rfl
 have v4 := zAb YP5.out.bx 4 rfl
 have v5 := zAb YP5.out.bx 5 rfl
 have v6 := zAb YP5.out.bx 6 rfl
 have v7 := zAb YP5.out.bx 7 rfl
 have v8 := zAb YP5.out.bx 8 rfl
 have v9 := zAb YP5.out.bx 9 rfl
 have v10 := zAb YP5.out.bx 10 rfl
 have vf := zAh YP5.out.bx
 have vl := zAf YP5.out.bx
 simp only [zgc, zga, zgb] at v0 v1 v2 v3 v4 v5 v6 v7 v8 v9 v10
 go_wp2_with fail
 go_region_held3 (fun w' => w'.cell? ⟨w.heap.size, 0, none⟩ = some (.slice A n c) ∧ w'.cell? ⟨w.heap.size, 1, none⟩ = some (.slice B m d) ∧ w'.cell? ⟨w.heap.size, 2, none⟩ = some (.slice U nu cu) ∧ w'.cell? ⟨w.heap.size, 3, none⟩ = some (.int .i64 s.lic.A) ∧ w'.cell? ⟨w.heap.size, 4, none⟩ = some (.int .i64 s.lic.B) ∧ w'.cell? ⟨w.heap.size, 5, none⟩ = some (.int .i64 s.lic.C) ∧ w'.cell? ⟨w.heap.size, 6, none⟩ = some (.int .i64 s.dep) ∧ w'.cell? ⟨w.heap.size, 7, none⟩ = some (.int .i64 s.now) ∧ w'.cell? ⟨w.heap.size, 8, none⟩ = some (.slice K nk ck) ∧ w'.cell? ⟨w.heap.size, 9, none⟩ = some (.slice R nr cr) ∧ w'.cell? ⟨w.heap.size, 10, none⟩ = some (.slice E ne ce) ∧ w'.cell? ⟨bn, 0, none⟩ = some (.slice A5 n5 c5) ∧ w'.cell? ⟨bn, 1, none⟩ = some (.slice B5 m5 d5) ∧ w'.cell? ⟨bn, 2, none⟩ = some (.slice U5 nu5 cu5) ∧ w'.cell? ⟨bn, 3, none⟩ = some (.int .i64 s.lic.A) ∧ w'.cell? ⟨bn, 4, none⟩ = some (.int .i64 s.lic.B) ∧ w'.cell? ⟨bn, 5, none⟩ = some (.int .i64 s.lic.C) ∧ w'.cell? ⟨bn, 6, none⟩ = some (.int .i64 s.dep) ∧ w'.cell? ⟨bn, 7, none⟩ = some (.int .i64 s.now) ∧ w'.cell? ⟨bn, 8, none⟩ = some (.slice K5 nk5 ck5) ∧ w'.cell? ⟨bn, 9, none⟩ = some (.slice R5 nr5 cr5) ∧ w'.cell? ⟨bn, 10, none⟩ = some (.slice E5 ne5 ce5)) (simp [go_sem, *, World.cell?_alloc_some, World.cell?_setCell_far, Nat.lt_add_right, Nat.ne_of_gt]) (first | (go_at_call 27; refine (toState_any ⟨A, B, U, K, R, E, n, m, nu, nk, nr, ne, c, d, cu, ck, cr, ce⟩ s _ SZ.out (HR.out.below (zAc XP5.out.bel ((Below.refl w7.heap.size w7).drew)))).mono ?_; rintro e w8 ⟨a8, ss8, rfl, q8, own8, hb8⟩; have OS8 := Lib.hid own8; have Q8 := Lib.hid q8; have B8 := Lib.hid (show Below w7.heap.size w7 w8 from zAc ((Below.refl w7.heap.size w7).drew) hb8); have hs8 := hb8.size; (try simp at hs8); have hk8 := fun o => hb8.cell (p := ⟨w.heap.size, o, none⟩) zOm; have hf8 := fun o => hb8.frozen (p := ⟨w.heap.size, o, none⟩) zOm; have hj8 := fun o => hb8.cell (p := ⟨bn, o, none⟩) zOm; have hi8 := fun o => hb8.frozen (p := ⟨bn, o, none⟩) zOm; clear hb8 own8 q8) | (go_at_call 29; refine (eqState_any ⟨A5, B5, U5, K5, R5, E5, n5, m5, nu5, nk5, nr5, ne5, c5, d5, cu5, ck5, cr5, ce5⟩ a8 s ss5 ss8 _ (OS7.out.bel B8.out).rd OS8.out.rd ⟨Q8.out.1.trans Q5.out.1.symm, Q8.out.2.1.trans Q5.out.2.1.symm, Q8.out.2.2.1.trans Q5.out.2.2.1.symm, Q8.out.2.2.2.1.trans Q5.out.2.2.2.1.symm, Q8.out.2.2.2.2.1.trans Q5.out.2.2.2.2.1.symm, Q8.out.2.2.2.2.2.trans Q5.out.2.2.2.2.2.symm⟩).mono ?_; rintro e w9 ⟨rfl, hb9⟩; have B9 := Lib.hid (show Below w7.heap.size w7 w9 from zAc B8.out hb9); have hs9 := hb9.size; (try simp at hs9); have hk9 := fun o => hb9.cell (p := ⟨w.heap.size, o, none⟩) zOm; have hf9 := fun o => hb9.frozen (p := ⟨w.heap.size, o, none⟩) zOm; have hj9 := fun o => hb9.cell (p := ⟨bn, o, none⟩) zOm; have hi9 := fun o => hb9.frozen (p := ⟨bn, o, none⟩) zOm; clear hb9))
 go_wp2
 go_ret
 exact ⟨rfl, zAc XP5.out.bel B9.out⟩
end Go.Proofs.YtnphjhbfpoekpaaGreat
