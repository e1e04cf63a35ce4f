import Derived.Test.YtnphjhbfpoekpaaGreatWnPk
import Derived.Test.YtnphjhbfpoekpaaGreatWiPk
import Derived.Test.YtnphjhbfpoekpaaGreatVkPk
import Derived.Deep.RegionHeld3
namespace Go.Proofs.YtnphjhbfpoekpaaGreat
set_option linter.unusedSimpArgs false
set_option linter.unusedVariables false
set_option linter.unnecessarySimpa false
open Go.RowKit
set_option maxHeartbeats 16000000 in
set_option maxRecDepth 20000 in
theorem law_roomOf (a : SA) (s : St) (w : World) (hx : StMax a) (hr : StIn w a s) :
  Calls Tryz.prog 7 #[a.v s] w fun e w' => e = .returned (.bool true) ∧ Below w.heap.size w w' := by
 obtain ⟨A, B, U, K, R, E, n, m, nu, nk, nr, ne, c, d, cu, ck, cr, ce⟩ := a
 dsimp only [SA.v]
 have HX := Lib.hid hx
 have HR := Lib.hid hr
 obtain ⟨EV, hEV⟩ : ∃ y, y = (roomO s).getD noRm := ⟨_, rfl⟩
 obtain ⟨EB, hEB⟩ : ∃ y, y = (roomO s).isSome := ⟨_, rfl⟩
 have HSC : Hid (∀ (a' : SA) (ss : List Value) (lo : Nat) (W : World), StOwn W lo a' s ss → Calls Tryz.prog 32 #[a'.v s] W fun e W' => ∃ a2, e = .returned (.tuple #[RA.v a2, .bool EB]) ∧ (∃ xs', RoomOwn W' W.heap.size a2 EV xs') ∧ Below W.heap.size W W') := Lib.hid (fun a' ss lo W h => by rw [hEB, hEV]; exact sRoomOf_any a' s ss lo W h)
 have HIC : Hid (∀ (a' : SA) (ss : List Value) (lo : Nat) (W : World), StOwn W lo a' s ss → Calls Tryz.prog 33 #[a'.v s] W fun e W' => ∃ a2, e = .returned (.tuple #[RA.v a2, .bool EB]) ∧ (∃ xs', RoomOwn W' W.heap.size a2 EV xs') ∧ Below W.heap.size W W') := Lib.hid (fun a' ss lo W h => by rw [hEB, hEV]; exact RoomOf_any a' s ss W h.rd)
 clear hx hr hEB hEV
 have XA : Hid (BX w (w.alloc (.cells #[.slice A n c, .slice B m d, .slice U nu cu, .int .i64 s.lic.A, .int .i64 s.lic.B, .int .i64 s.lic.C, .int .i64 s.dep, .int .i64 s.now, .slice K nk ck, .slice R nr cr, .slice E ne ce] 70)) (w.heap.size) 70 [.slice A n c, .slice B m d, .slice U nu cu, .int .i64 s.lic.A, .int .i64 s.lic.B, .int .i64 s.lic.C, .int .i64 s.dep, .int .i64 s.now, .slice K nk ck, .slice R nr cr, .slice E ne ce]) := Lib.hid ⟨zAp _ rfl, zAa _ _, Nat.le_refl _⟩
 go_enter Tryz.func7, Tryz.ntmps7
 go_upto_region 2 with fail
 generalize w.alloc (.cells #[.slice A n c, .slice B m d, .slice U nu cu, .int .i64 s.lic.A, .int .i64 s.lic.B, .int .i64 s.lic.C, .int .i64 s.dep, .int .i64 s.now, .slice K nk ck, .slice R nr cr, .slice E ne ce] 70) = w1 at *
 have hl1 := zAf XA.out.bx
 have k0 := zAb XA.out.bx 0 rfl
 have k1 := zAb XA.out.bx 1 rfl
 have k2 := zAb XA.out.bx 2 rfl
 have k3 := zAb XA.out.bx 3 rfl
 have k4 := zAb XA.out.bx 4 rfl
 have k5 := zAb XA.out.bx 5 rfl
 have k6 := zAb XA.out.bx 6 rfl
 have k7 := zAb XA.out.bx 7 rfl
 have k8 := zAb XA.out.bx 8 rfl
 have k9 := zAb XA.out.bx 9 rfl
 have k10 := zAb XA.out.bx 10 rfl
 have kf := zAh XA.out.bx
 have kl := zAf XA.out.bx
 simp only [zgc, zga, zgb] at k0 k1 k2 k3 k4 k5 k6 k7 k8 k9 k10
 go_wp2_with fail
 refine (szState_any ⟨A, B, U, K, R, E, n, m, nu, nk, nr, ne, c, d, cu, ck, cr, ce⟩ s _ HX.out (HR.out.below XA.out.bel)).mono ?_
 rintro e w2 ⟨z, rfl, hz, hb2⟩
 clear k0 k1 k2 k3 k4 k5 k6 k7 k8 k9 k10 kf kl
 have hs2 := hb2.size
 replace XA := Lib.hid (XA.out.step hb2)
 clear hb2
 rcases hz with hz | ⟨hz, hsz⟩
 ·skip
  have k0 := zAb XA.out.bx 0 rfl
  have k1 := zAb XA.out.bx 1 rfl
  have k2 := zAb XA.out.bx 2 rfl
  have k3 := zAb XA.out.bx 3 rfl
  have k4 := zAb XA.out.bx 4 rfl
  have k5 := zAb XA.out.bx 5 rfl
  have k6 := zAb XA.out.bx 6 rfl
  have k7 := zAb XA.out.bx 7 rfl
  have k8 := zAb XA.out.bx 8 rfl
  have k9 := zAb XA.out.bx 9 rfl
  have k10 := zAb XA.out.bx 10 rfl
  have kf := zAh XA.out.bx
  have kl := zAf XA.out.bx
  simp only [zgc, zga, zgb] at k0 k1 k2 k3 k4 k5 k6 k7 k8 k9 k10
  go_wp2
  go_ret
  exact ⟨rfl, XA.out.bel⟩
 have SZ := Lib.hid hsz
 have hz' : ¬ z < 0 := by omega
 clear hsz
 have k0 := zAb XA.out.bx 0 rfl
 have k1 := zAb XA.out.bx 1 rfl
 have k2 := zAb XA.out.bx 2 rfl
 have k3 := zAb XA.out.bx 3 rfl
 have k4 := zAb XA.out.bx 4 rfl
 have k5 := zAb XA.out.bx 5 rfl
 have k6 := zAb XA.out.bx 6 rfl
 have k7 := zAb XA.out.bx 7 rfl
 have k8 := zAb XA.out.bx 8 rfl
 have k9 := zAb XA.out.bx 9 rfl
 have k10 := zAb XA.out.bx 10 rfl
 have kf := zAh XA.out.bx
 have kl := zAf XA.out.bx
 simp only [zgc, zga, zgb] at k0 k1 k2 k3 k4 k5 k6 k7 k8 k9 k10
 go_wp2_with fail
 refine (toState_any ⟨A, B, U, K, R, E, n, m, nu, nk, nr, ne, c, d, cu, ck, cr, ce⟩ s _ SZ.out (HR.out.below XA.out.bel)).mono ?_
 rintro e w3 ⟨a3, ss3, rfl, -, own3, hb3⟩
 clear k0 k1 k2 k3 k4 k5 k6 k7 k8 k9 k10 kf kl
 have hs3 := hb3.size
 replace XA := Lib.hid (XA.out.step hb3)
 clear hb3
 have OS3 := Lib.hid own3
 clear own3
 go_wp2_with fail
 refine (HSC.out a3 ss3 _ _ OS3.out).mono ?_
 rintro e w4 ⟨⟨A4, B4, U4, R4, L4, n4, m4, nu4, np4, nl4, c4, d4, cu4, cp4, cl4⟩, rfl, ⟨xs4, own4⟩, hb4⟩
 have hs4 := hb4.size
 replace XA := Lib.hid (XA.out.step hb4)
 clear hb4
 clear OS3
 dsimp only [RA.v]
 have O4 := Lib.hid own4
 have RG4 : Hid (∀ k, atQ ⟨A4, B4, U4, R4, L4, n4, m4, nu4, np4, nl4, c4, d4, cu4, cp4, cl4⟩ xs4 k → w3.heap.size ≤ k ∧ k < w4.heap.size) := Lib.hid (room_rng2 own4)
 clear own4
 have k0 := zAb XA.out.bx 0 rfl
 have k1 := zAb XA.out.bx 1 rfl
 have k2 := zAb XA.out.bx 2 rfl
 have k3 := zAb XA.out.bx 3 rfl
 have k4 := zAb XA.out.bx 4 rfl
 have k5 := zAb XA.out.bx 5 rfl
 have k6 := zAb XA.out.bx 6 rfl
 have k7 := zAb XA.out.bx 7 rfl
 have k8 := zAb XA.out.bx 8 rfl
 have k9 := zAb XA.out.bx 9 rfl
 have k10 := zAb XA.out.bx 10 rfl
 have kf := zAh XA.out.bx
 have kl := zAf XA.out.bx
 simp only [zgc, zga, zgb] at k0 k1 k2 k3 k4 k5 k6 k7 k8 k9 k10
 have hb5 := zAa w4 (.cells #[.slice A4 n4 c4, .slice B4 m4 d4, .slice U4 nu4 cu4, .slice R4 np4 cp4, .slice L4 nl4 cl4] 33)
 have hs5 := hb5.size
 have XB : Hid (BX w (w4.alloc (.cells #[.slice A4 n4 c4, .slice B4 m4 d4, .slice U4 nu4 cu4, .slice R4 np4 cp4, .slice L4 nl4 cl4] 33)) w4.heap.size 33 [.slice A4 n4 c4, .slice B4 m4 d4, .slice U4 nu4 cu4, .slice R4 np4 cp4, .slice L4 nl4 cl4]) := Lib.hid (BX.start XA.out.bel rfl)
 replace XA := Lib.hid (XA.out.step hb5)
 replace O4 := Lib.hid (O4.out.bel hb5)
 have hl5 := zAf XB.out.bx
 clear hb5
 go_upto_region 6 with fail
 generalize w4.alloc (.cells #[.slice A4 n4 c4, .slice B4 m4 d4, .slice U4 nu4 cu4, .slice R4 np4 cp4, .slice L4 nl4 cl4] 33) = w5 at *
 obtain ⟨b5, hbn5⟩ : ∃ y, y = w4.heap.size := ⟨_, rfl⟩
 rw [← hbn5] at XB hl5 ⊢
 have HBN5 := Lib.hid hbn5
 clear hbn5
 clear k0 k1 k2 k3 k4 k5 k6 k7 k8 k9 k10 kf kl
 have k0 := zAb XA.out.bx 0 rfl
 have k1 := zAb XA.out.bx 1 rfl
 have k2 := zAb XA.out.bx 2 rfl
 have k3 := zAb XA.out.bx 3 rfl
 have k4 := zAb XA.out.bx 4 rfl
 have k5 := zAb XA.out.bx 5 rfl
 have k6 := zAb XA.out.bx 6 rfl
 have k7 := zAb XA.out.bx 7 rfl
 have k8 := zAb XA.out.bx 8 rfl
 have k9 := zAb XA.out.bx 9 rfl
 have k10 := zAb XA.out.bx 10 rfl
 have kf := zAh XA.out.bx
 have kl := zAf XA.out.bx
 simp only [zgc, zga, zgb] at k0 k1 k2 k3 k4 k5 k6 k7 k8 k9 k10
 go_wp2_with fail
 refine (toState_any ⟨A, B, U, K, R, E, n, m, nu, nk, nr, ne, c, d, cu, ck, cr, ce⟩ s _ SZ.out (HR.out.below XA.out.bel)).mono ?_
 rintro e w6 ⟨⟨A6, B6, U6, K6, R6, E6, n6, m6, nu6, nk6, nr6, ne6, c6, d6, cu6, ck6, cr6, ce6⟩, ss6, rfl, q6, own6, hb6⟩
 clear k0 k1 k2 k3 k4 k5 k6 k7 k8 k9 k10 kf kl
 have hs6 := hb6.size
 replace XA := Lib.hid (XA.out.step hb6)
 replace XB := Lib.hid (XB.out.step hb6)
 replace O4 := Lib.hid (O4.out.bel hb6)
 clear hb6
 dsimp only [SA.v]
 have Q6 := Lib.hid q6
 have OS6 := Lib.hid own6
 have SG6 : Hid (∀ k, atS ⟨A6, B6, U6, K6, R6, E6, n6, m6, nu6, nk6, nr6, ne6, c6, d6, cu6, ck6, cr6, ce6⟩ ss6 k → w5.heap.size ≤ k ∧ k < w6.heap.size) := Lib.hid own6.rng
 clear own6 q6
 have hb7 := zAa w6 (.cells #[.slice A6 n6 c6, .slice B6 m6 d6, .slice U6 nu6 cu6, .int .i64 s.lic.A, .int .i64 s.lic.B, .int .i64 s.lic.C, .int .i64 s.dep, .int .i64 s.now, .slice K6 nk6 ck6, .slice R6 nr6 cr6, .slice E6 ne6 ce6] 77)
 have hs7 := hb7.size
 have XC : Hid (BX w (w6.alloc (.cells #[.slice A6 n6 c6, .slice B6 m6 d6, .slice U6 nu6 cu6, .int .i64 s.lic.A, .int .i64 s.lic.B, .int .i64 s.lic.C, .int .i64 s.dep, .int .i64 s.now, .slice K6 nk6 ck6, .slice R6 nr6 cr6, .slice E6 ne6 ce6] 77)) w6.heap.size 77 [.slice A6 n6 c6, .slice B6 m6 d6, .slice U6 nu6 cu6, .int .i64 s.lic.A, .int .i64 s.lic.B, .int .i64 s.lic.C, .int .i64 s.dep, .int .i64 s.now, .slice K6 nk6 ck6, .slice R6 nr6 cr6, .slice E6 ne6 ce6]) := Lib.hid (BX.start XA.out.bel rfl)
 replace XA := Lib.hid (XA.out.step hb7)
 replace XB := Lib.hid (XB.out.step hb7)
 replace O4 := Lib.hid (O4.out.bel hb7)
 replace OS6 := Lib.hid (OS6.out.bel hb7)
 have hl7 := zAf XC.out.bx
 clear hb7
 go_upto_region 7 with fail
 generalize w6.alloc (.cells #[.slice A6 n6 c6, .slice B6 m6 d6, .slice U6 nu6 cu6, .int .i64 s.lic.A, .int .i64 s.lic.B, .int .i64 s.lic.C, .int .i64 s.dep, .int .i64 s.now, .slice K6 nk6 ck6, .slice R6 nr6 cr6, .slice E6 ne6 ce6] 77) = w7 at *
 obtain ⟨b7, hbn7⟩ : ∃ y, y = w6.heap.size := ⟨_, rfl⟩
 rw [← hbn7] at XC hl7 ⊢
 have HBN7 := Lib.hid hbn7
 clear hbn7
 have v0 := zAb XC.out.bx 0 rfl
 have v1 := zAb XC.out.bx 1 rfl
 have v2 := zAb XC.out.bx 2 rfl
 have v3 := zAb XC.out.bx 3 rfl
 have v4 := zAb XC.out.bx 4 rfl
 have v5 := zAb XC.out.bx 5 rfl
 have v6 := zAb XC.out.bx 6 rfl
 have v7 := zAb XC.out.bx 7 rfl
 have v8 := zAb XC.out.bx 8 rfl
 have v9 := zAb XC.out.bx 9 rfl
 have v10 := zAb XC.out.bx 10 rfl
 have vf := zAh XC.out.bx
 have vl := zAf XC.out.bx
 simp only [zgc, zga, zgb] at v0 v1 v2 v3 v4 v5 v6 v7 v8 v9 v10
 go_wp2_with fail
 refine (HIC.out ⟨A6, B6, U6, K6, R6, E6, n6, m6, nu6, nk6, nr6, ne6, c6, d6, cu6, ck6, cr6, ce6⟩ ss6 _ _ OS6.out).mono ?_
 rintro e w8 ⟨⟨A8, B8, U8, R8, L8, n8, m8, nu8, np8, nl8, c8, d8, cu8, cp8, cl8⟩, rfl, ⟨xs8, own8⟩, hb8⟩
 clear v0 v1 v2 v3 v4 v5 v6 v7 v8 v9 v10 vf vl
 have hs8 := hb8.size
 replace XA := Lib.hid (XA.out.step hb8)
 replace XB := Lib.hid (XB.out.step hb8)
 replace XC := Lib.hid (XC.out.step hb8)
 replace O4 := Lib.hid (O4.out.bel hb8)
 replace OS6 := Lib.hid (OS6.out.bel hb8)
 clear hb8
 dsimp only [RA.v]
 have O8 := Lib.hid own8
 have RG8 : Hid (∀ k, atQ ⟨A8, B8, U8, R8, L8, n8, m8, nu8, np8, nl8, c8, d8, cu8, cp8, cl8⟩ xs8 k → w7.heap.size ≤ k ∧ k < w8.heap.size) := Lib.hid (room_rng2 own8)
 clear own8
 have hb9 := zAa w8 (.cells #[.slice A8 n8 c8, .slice B8 m8 d8, .slice U8 nu8 cu8, .slice R8 np8 cp8, .slice L8 nl8 cl8] 33)
 have hs9 := hb9.size
 have XD : Hid (BX w (w8.alloc (.cells #[.slice A8 n8 c8, .slice B8 m8 d8, .slice U8 nu8 cu8, .slice R8 np8 cp8, .slice L8 nl8 cl8] 33)) w8.heap.size 33 [.slice A8 n8 c8, .slice B8 m8 d8, .slice U8 nu8 cu8, .slice R8 np8 cp8, .slice L8 nl8 cl8]) := Lib.hid (BX.start XA.out.bel rfl)
 replace XA := Lib.hid (XA.out.step hb9)
 replace XB := Lib.hid (XB.out.step hb9)
 replace XC := Lib.hid (XC.out.step hb9)
 replace O4 := Lib.hid (O4.out.bel hb9)
 replace OS6 := Lib.hid (OS6.out.bel hb9)
 replace O8 := Lib.hid (O8.out.bel hb9)
 have hl9 := zAf XD.out.bx
 clear hb9
 go_upto_region 8 with fail
 generalize w8.alloc (.cells #[.slice A8 n8 c8, .slice B8 m8 d8, .slice U8 nu8 cu8, .slice R8 np8 cp8, .slice L8 nl8 cl8] 33) = w9 at *
 obtain ⟨b9, hbn9⟩ : ∃ y, y = w8.heap.size := ⟨_, rfl⟩
 rw [← hbn9] at XD hl9 ⊢
 have HBN9 := Lib.hid hbn9
 clear hbn9
 have g0 := zAb XB.out.bx 0 rfl
 have g1 := zAb XB.out.bx 1 rfl
 have g2 := zAb XB.out.bx 2 rfl
 have g3 := zAb XB.out.bx 3 rfl
 have g4 := zAb XB.out.bx 4 rfl
 have gf := zAh XB.out.bx
 have gl := zAf XB.out.bx
 simp only [zgc, zga, zgb] at g0 g1 g2 g3 g4
 have q0 := zAb XD.out.bx 0 rfl
 have q1 := zAb XD.out.bx 1 rfl
 have q2 := zAb XD.out.bx 2 rfl
 have q3 := zAb XD.out.bx 3 rfl
 have q4 := zAb XD.out.bx 4 rfl
 have qf := zAh XD.out.bx
 have ql := zAf XD.out.bx
 simp only [zgc, zga, zgb] at q0 q1 q2 q3 q4
 go_wp2_with fail
 refine (eqRoom_any ⟨A8, B8, U8, R8, L8, n8, m8, nu8, np8, nl8, c8, d8, cu8, cp8, cl8⟩ ⟨A4, B4, U4, R4, L4, n4, m4, nu4, np4, nl4, c4, d4, cu4, cp4, cl4⟩ EV _ O8.out.rd O4.out.rd).mono ?_
 rintro e w10 ⟨rfl, hb10⟩
 clear g0 g1 g2 g3 g4 gf gl
 clear q0 q1 q2 q3 q4 qf ql
 have hs10 := hb10.size
 replace XA := Lib.hid (XA.out.step hb10)
 replace XB := Lib.hid (XB.out.step hb10)
 replace XC := Lib.hid (XC.out.step hb10)
 replace XD := Lib.hid (XD.out.step hb10)
 replace O4 := Lib.hid (O4.out.bel hb10)
 replace OS6 := Lib.hid (OS6.out.bel hb10)
 replace O8 := Lib.hid (O8.out.bel hb10)
 clear hb10
 have k0 := zAb XA.out.bx 0 rfl
 have k1 := zAb XA.out.bx 1 rfl
 have k2 := zAb XA.out.bx 2 rfl
 have k3 := zAb XA.out.bx 3 rfl
 have k4 := zAb XA.out.bx 4 rfl
 have k5 := zAb XA.out.bx 5 rfl
 have k6 := zAb XA.out.bx 6 rfl
 have k7 := zAb XA.out.bx 7 rfl
 have k8 := zAb XA.out.bx 8 rfl
 have k9 := zAb XA.out.bx 9 rfl
 have k10 := zAb XA.out.bx 10 rfl
 have kf := zAh XA.out.bx
 have kl := zAf XA.out.bx
 simp only [zgc, zga, zgb] at k0 k1 k2 k3 k4 k5 k6 k7 k8 k9 k10
 have v0 := zAb XC.out.bx 0 rfl
 have v1 := zAb XC.out.bx 1 rfl
 have v2 := zAb XC.out.bx 2 rfl
 have v3 := zAb XC.out.bx 3 rfl
 have v4 := zAb XC.out.bx 4 rfl
 have v5 := zAb XC.out.bx 5 rfl
 have v6 := zAb XC.out.bx 6 rfl
 have v7 := zAb XC.out.bx 7 rfl
 have v8 := zAb XC.out.bx 8 rfl
 have v9 := zAb XC.out.bx 9 rfl
 have v10 := zAb XC.out.bx 10 rfl
 have vf := zAh XC.out.bx
 have vl := zAf XC.out.bx
 simp only [zgc, zga, zgb] at v0 v1 v2 v3 v4 v5 v6 v7 v8 v9 v10
 go_wp2_with fail
 go_region_held3 (fun w' => w'.cell? ⟨w.heap.size, 0, none⟩ = some (.slice A n c) ∧ w'.cell? ⟨w.heap.size, 1, none⟩ = some (.slice B m d) ∧ w'.cell? ⟨w.heap.size, 2, none⟩ = some (.slice U nu cu) ∧ w'.cell? ⟨w.heap.size, 3, none⟩ = some (.int .i64 s.lic.A) ∧ w'.cell? ⟨w.heap.size, 4, none⟩ = some (.int .i64 s.lic.B) ∧ w'.cell? ⟨w.heap.size, 5, none⟩ = some (.int .i64 s.lic.C) ∧ w'.cell? ⟨w.heap.size, 6, none⟩ = some (.int .i64 s.dep) ∧ w'.cell? ⟨w.heap.size, 7, none⟩ = some (.int .i64 s.now) ∧ w'.cell? ⟨w.heap.size, 8, none⟩ = some (.slice K nk ck) ∧ w'.cell? ⟨w.heap.size, 9, none⟩ = some (.slice R nr cr) ∧ w'.cell? ⟨w.heap.size, 10, none⟩ = some (.slice E ne ce) ∧ w'.cell? ⟨b7, 0, none⟩ = some (.slice A6 n6 c6) ∧ w'.cell? ⟨b7, 1, none⟩ = some (.slice B6 m6 d6) ∧ w'.cell? ⟨b7, 2, none⟩ = some (.slice U6 nu6 cu6) ∧ w'.cell? ⟨b7, 3, none⟩ = some (.int .i64 s.lic.A) ∧ w'.cell? ⟨b7, 4, none⟩ = some (.int .i64 s.lic.B) ∧ w'.cell? ⟨b7, 5, none⟩ = some (.int .i64 s.lic.C) ∧ w'.cell? ⟨b7, 6, none⟩ = some (.int .i64 s.dep) ∧ w'.cell? ⟨b7, 7, none⟩ = some (.int .i64 s.now) ∧ w'.cell? ⟨b7, 8, none⟩ = some (.slice K6 nk6 ck6) ∧ w'.cell? ⟨b7, 9, none⟩ = some (.slice R6 nr6 cr6) ∧ w'.cell? ⟨b7, 10, none⟩ = some (.slice E6 ne6 ce6)) (simp [go_sem, *, World.cell?_alloc_some, World.cell?_setCell_far, Nat.lt_add_right, Nat.ne_of_gt]) (first | (go_at_call 27; refine (toState_any ⟨A, B, U, K, R, E, n, m, nu, nk, nr, ne, c, d, cu, ck, cr, ce⟩ s _ SZ.out (HR.out.below (zAc XA.out.bel ((Below.refl w10.heap.size w10).drew)))).mono ?_; rintro e w11 ⟨a11, ss11, rfl, q11, own11, hb11⟩; have OS11 := Lib.hid own11; have Q11 := Lib.hid q11; have B11 := Lib.hid (show Below w10.heap.size w10 w11 from zAc ((Below.refl w10.heap.size w10).drew) hb11); have hz11 := hb11.size; (try simp at hz11); have hk11 := fun o => hb11.cell (p := ⟨w.heap.size, o, none⟩) zOm; have fk11 := fun o => hb11.frozen (p := ⟨w.heap.size, o, none⟩) zOm; have hv11 := fun o => hb11.cell (p := ⟨b7, o, none⟩) zOm; have fv11 := fun o => hb11.frozen (p := ⟨b7, o, none⟩) zOm; clear hb11 own11 q11) | (go_at_call 29; refine (eqState_any ⟨A6, B6, U6, K6, R6, E6, n6, m6, nu6, nk6, nr6, ne6, c6, d6, cu6, ck6, cr6, ce6⟩ a11 s ss6 ss11 _ (OS6.out.bel B11.out).rd OS11.out.rd ⟨Q11.out.1.trans Q6.out.1.symm, Q11.out.2.1.trans Q6.out.2.1.symm, Q11.out.2.2.1.trans Q6.out.2.2.1.symm, Q11.out.2.2.2.1.trans Q6.out.2.2.2.1.symm, Q11.out.2.2.2.2.1.trans Q6.out.2.2.2.2.1.symm, Q11.out.2.2.2.2.2.trans Q6.out.2.2.2.2.2.symm⟩).mono ?_; rintro e w12 ⟨rfl, hb12⟩; have B12 := Lib.hid (show Below w10.heap.size w10 w12 from zAc B11.out hb12); have hz12 := hb12.size; (try simp at hz12); have hk12 := fun o => hb12.cell (p := ⟨w.heap.size, o, none⟩) zOm; have fk12 := fun o => hb12.frozen (p := ⟨w.heap.size, o, none⟩) zOm; have hv12 := fun o => hb12.cell (p := ⟨b7, o, none⟩) zOm; have fv12 := fun o => hb12.frozen (p := ⟨b7, o, none⟩) zOm; clear hb12))
 have hs12 := B12.out.size
 clear k0 k1 k2 k3 k4 k5 k6 k7 k8 k9 k10 kf kl
 clear v0 v1 v2 v3 v4 v5 v6 v7 v8 v9 v10 vf vl
 replace XA := Lib.hid (XA.out.step B12.out)
 replace XB := Lib.hid (XB.out.step B12.out)
 replace XC := Lib.hid (XC.out.step B12.out)
 replace XD := Lib.hid (XD.out.step B12.out)
 replace O4 := Lib.hid (O4.out.bel B12.out)
 replace OS6 := Lib.hid (OS6.out.bel B12.out)
 replace O8 := Lib.hid (O8.out.bel B12.out)
 clear hk11 fk11 hv11 fv11 hk12 fk12 hv12 fv12 Q6 Q11 B11 OS11
 have v0 := zAb XC.out.bx 0 rfl
 have v1 := zAb XC.out.bx 1 rfl
 have v2 := zAb XC.out.bx 2 rfl
 have v3 := zAb XC.out.bx 3 rfl
 have v4 := zAb XC.out.bx 4 rfl
 have v5 := zAb XC.out.bx 5 rfl
 have v6 := zAb XC.out.bx 6 rfl
 have v7 := zAb XC.out.bx 7 rfl
 have v8 := zAb XC.out.bx 8 rfl
 have v9 := zAb XC.out.bx 9 rfl
 have v10 := zAb XC.out.bx 10 rfl
 have vf := zAh XC.out.bx
 have vl := zAf XC.out.bx
 simp only [zgc, zga, zgb] at v0 v1 v2 v3 v4 v5 v6 v7 v8 v9 v10
 go_wp2_with fail
 refine (markState_fr ⟨A6, B6, U6, K6, R6, E6, n6, m6, nu6, nk6, nr6, ne6, c6, d6, cu6, ck6, cr6, ce6⟩ s ss6 _ _ OS6.out).mono ?_
 rintro e w13 ⟨⟨K13, rfl, hK13, -⟩, -, -, -, fr13⟩
 clear v0 v1 v2 v3 v4 v5 v6 v7 v8 v9 v10 vf vl
 have hs13 := fr13.size
 have FR13 := Lib.hid fr13
 clear fr13
 replace XA := Lib.hid (XA.out.fr FR13.out (fun h => by have q9 := SG6.out _ h; have mHBN5 := HBN5.out; have mHBN7 := HBN7.out; have mHBN9 := HBN9.out; omega) (fun k h => by have q9 := SG6.out _ h; omega))
 replace XB := Lib.hid (XB.out.fr FR13.out (fun h => by have q9 := SG6.out _ h; have mHBN5 := HBN5.out; have mHBN7 := HBN7.out; have mHBN9 := HBN9.out; omega) (fun k h => by have q9 := SG6.out _ h; omega))
 replace XC := Lib.hid (XC.out.fr FR13.out (fun h => by have q9 := SG6.out _ h; have mHBN5 := HBN5.out; have mHBN7 := HBN7.out; have mHBN9 := HBN9.out; omega) (fun k h => by have q9 := SG6.out _ h; omega))
 replace XD := Lib.hid (XD.out.fr FR13.out (fun h => by have q9 := SG6.out _ h; have mHBN5 := HBN5.out; have mHBN7 := HBN7.out; have mHBN9 := HBN9.out; omega) (fun k h => by have q9 := SG6.out _ h; omega))
 replace O4 := Lib.hid (O4.out.fr FR13.out (fun k h1 h2 => by have q1 := RG4.out k h1; have q2 := SG6.out k h2; omega))
 replace O8 := Lib.hid (O8.out.fr FR13.out (fun k h1 h2 => by have q1 := RG8.out k h1; have q2 := SG6.out k h2; omega))
 clear FR13
 clear OS6
 have hKn : ¬ K13 < 0 := by omega
 have g0 := zAb XB.out.bx 0 rfl
 have g1 := zAb XB.out.bx 1 rfl
 have g2 := zAb XB.out.bx 2 rfl
 have g3 := zAb XB.out.bx 3 rfl
 have g4 := zAb XB.out.bx 4 rfl
 have gf := zAh XB.out.bx
 have gl := zAf XB.out.bx
 simp only [zgc, zga, zgb] at g0 g1 g2 g3 g4
 have q0 := zAb XD.out.bx 0 rfl
 have q1 := zAb XD.out.bx 1 rfl
 have q2 := zAb XD.out.bx 2 rfl
 have q3 := zAb XD.out.bx 3 rfl
 have q4 := zAb XD.out.bx 4 rfl
 have qf := zAh XD.out.bx
 have ql := zAf XD.out.bx
 simp only [zgc, zga, zgb] at q0 q1 q2 q3 q4
 go_wp2_with fail
 refine (eqRoom_any ⟨A8, B8, U8, R8, L8, n8, m8, nu8, np8, nl8, c8, d8, cu8, cp8, cl8⟩ ⟨A4, B4, U4, R4, L4, n4, m4, nu4, np4, nl4, c4, d4, cu4, cp4, cl4⟩ EV _ O8.out.rd O4.out.rd).mono ?_
 rintro e w14 ⟨rfl, hb14⟩
 clear g0 g1 g2 g3 g4 gf gl
 clear q0 q1 q2 q3 q4 qf ql
 have hs14 := hb14.size
 replace XA := Lib.hid (XA.out.step hb14)
 replace XB := Lib.hid (XB.out.step hb14)
 replace XC := Lib.hid (XC.out.step hb14)
 replace XD := Lib.hid (XD.out.step hb14)
 replace O4 := Lib.hid (O4.out.bel hb14)
 replace O8 := Lib.hid (O8.out.bel hb14)
 clear hb14
 have RX8 : Hid (∀ k, atR ⟨A8, B8, U8, R8, L8, n8, m8, nu8, np8, nl8, c8, d8, cu8, cp8, cl8⟩ xs8 k → w7.heap.size ≤ k ∧ k < w8.heap.size) := Lib.hid (fun k hk => RG8.out k (Or.inl hk))
 have q0 := zAb XD.out.bx 0 rfl
 have q1 := zAb XD.out.bx 1 rfl
 have q2 := zAb XD.out.bx 2 rfl
 have q3 := zAb XD.out.bx 3 rfl
 have q4 := zAb XD.out.bx 4 rfl
 have qf := zAh XD.out.bx
 have ql := zAf XD.out.bx
 simp only [zgc, zga, zgb] at q0 q1 q2 q3 q4
 go_wp2_with fail
 refine (markRoom_rd ⟨A8, B8, U8, R8, L8, n8, m8, nu8, np8, nl8, c8, d8, cu8, cp8, cl8⟩ EV xs8 _ _ O8.out).mono ?_
 rintro e w15 ⟨rfl, mk15, fr15⟩
 clear q0 q1 q2 q3 q4 qf ql
 have hs15 := fr15.size
 have FR15 := Lib.hid fr15
 clear fr15
 replace XA := Lib.hid (XA.out.fr FR15.out (fun h => by have q9 := RX8.out _ h; have mHBN5 := HBN5.out; have mHBN7 := HBN7.out; have mHBN9 := HBN9.out; omega) (fun k h => by have q9 := RX8.out _ h; omega))
 replace XB := Lib.hid (XB.out.fr FR15.out (fun h => by have q9 := RX8.out _ h; have mHBN5 := HBN5.out; have mHBN7 := HBN7.out; have mHBN9 := HBN9.out; omega) (fun k h => by have q9 := RX8.out _ h; omega))
 replace XC := Lib.hid (XC.out.fr FR15.out (fun h => by have q9 := RX8.out _ h; have mHBN5 := HBN5.out; have mHBN7 := HBN7.out; have mHBN9 := HBN9.out; omega) (fun k h => by have q9 := RX8.out _ h; omega))
 replace XD := Lib.hid (XD.out.fr FR15.out (fun h => by have q9 := RX8.out _ h; have mHBN5 := HBN5.out; have mHBN7 := HBN7.out; have mHBN9 := HBN9.out; omega) (fun k h => by have q9 := RX8.out _ h; omega))
 replace O4 := Lib.hid (O4.out.fr FR15.out (fun k h1 h2 => by have q1 := RG4.out k h1; have q2 := RX8.out k h2; omega))
 clear FR15
 clear O8
 have MK8 := Lib.hid mk15
 have TOT := MK8.out.tot
 clear mk15
 obtain ⟨tot, htot⟩ : ∃ y, y = rmTot ⟨A8, B8, U8, R8, L8, n8, m8, nu8, np8, nl8, c8, d8, cu8, cp8, cl8⟩ EV := ⟨_, rfl⟩
 rw [← htot] at TOT ⊢
 have HTOT := Lib.hid htot
 clear htot
 obtain ⟨tot0, tot1⟩ := TOT
 have totn : ¬ tot < 0 := by omega
 have q0 := zAb XD.out.bx 0 rfl
 have q1 := zAb XD.out.bx 1 rfl
 have q2 := zAb XD.out.bx 2 rfl
 have q3 := zAb XD.out.bx 3 rfl
 have q4 := zAb XD.out.bx 4 rfl
 have qf := zAh XD.out.bx
 have ql := zAf XD.out.bx
 simp only [zgc, zga, zgb] at q0 q1 q2 q3 q4
 go_wp2_with fail
 refine (heldRoom_rd ⟨A8, B8, U8, R8, L8, n8, m8, nu8, np8, nl8, c8, d8, cu8, cp8, cl8⟩ EV xs8 _ MK8.out).mono ?_
 rintro e w16 ⟨rfl, hb16⟩
 clear q0 q1 q2 q3 q4 qf ql
 have hs16 := hb16.size
 replace XA := Lib.hid (XA.out.step hb16)
 replace XB := Lib.hid (XB.out.step hb16)
 replace XC := Lib.hid (XC.out.step hb16)
 replace XD := Lib.hid (XD.out.step hb16)
 replace O4 := Lib.hid (O4.out.bel hb16)
 replace MK8 := Lib.hid (MK8.out.bel hb16)
 clear hb16
 rw [← HTOT.out]
 have k0 := zAb XA.out.bx 0 rfl
 have k1 := zAb XA.out.bx 1 rfl
 have k2 := zAb XA.out.bx 2 rfl
 have k3 := zAb XA.out.bx 3 rfl
 have k4 := zAb XA.out.bx 4 rfl
 have k5 := zAb XA.out.bx 5 rfl
 have k6 := zAb XA.out.bx 6 rfl
 have k7 := zAb XA.out.bx 7 rfl
 have k8 := zAb XA.out.bx 8 rfl
 have k9 := zAb XA.out.bx 9 rfl
 have k10 := zAb XA.out.bx 10 rfl
 have kf := zAh XA.out.bx
 have kl := zAf XA.out.bx
 simp only [zgc, zga, zgb] at k0 k1 k2 k3 k4 k5 k6 k7 k8 k9 k10
 go_wp2_with fail
 refine (toState_any ⟨A, B, U, K, R, E, n, m, nu, nk, nr, ne, c, d, cu, ck, cr, ce⟩ s _ SZ.out (HR.out.below XA.out.bel)).mono ?_
 rintro e w17 ⟨a17, ss17, rfl, -, own17, hb17⟩
 clear k0 k1 k2 k3 k4 k5 k6 k7 k8 k9 k10 kf kl
 have hs17 := hb17.size
 replace XA := Lib.hid (XA.out.step hb17)
 replace XB := Lib.hid (XB.out.step hb17)
 replace XC := Lib.hid (XC.out.step hb17)
 replace XD := Lib.hid (XD.out.step hb17)
 replace O4 := Lib.hid (O4.out.bel hb17)
 replace MK8 := Lib.hid (MK8.out.bel hb17)
 clear hb17
 have OS17 := Lib.hid own17
 clear own17
 go_wp2_with fail
 refine (HIC.out a17 ss17 _ _ OS17.out).mono ?_
 rintro e w18 ⟨⟨A18, B18, U18, R18, L18, n18, m18, nu18, np18, nl18, c18, d18, cu18, cp18, cl18⟩, rfl, ⟨xs18, own18⟩, hb18⟩
 have hs18 := hb18.size
 replace XA := Lib.hid (XA.out.step hb18)
 replace XB := Lib.hid (XB.out.step hb18)
 replace XC := Lib.hid (XC.out.step hb18)
 replace XD := Lib.hid (XD.out.step hb18)
 replace O4 := Lib.hid (O4.out.bel hb18)
 replace MK8 := Lib.hid (MK8.out.bel hb18)
 clear hb18
 clear OS17
 dsimp only [RA.v]
 have O18 := Lib.hid own18
 have RG18 : Hid (∀ k, atQ ⟨A18, B18, U18, R18, L18, n18, m18, nu18, np18, nl18, c18, d18, cu18, cp18, cl18⟩ xs18 k → w17.heap.size ≤ k ∧ k < w18.heap.size) := Lib.hid (room_rng2 own18)
 clear own18
 have hb19 := zAa w18 (.cells #[.slice A18 n18 c18, .slice B18 m18 d18, .slice U18 nu18 cu18, .slice R18 np18 cp18, .slice L18 nl18 cl18] 33)
 have hs19 := hb19.size
 have XE : Hid (BX w (w18.alloc (.cells #[.slice A18 n18 c18, .slice B18 m18 d18, .slice U18 nu18 cu18, .slice R18 np18 cp18, .slice L18 nl18 cl18] 33)) w18.heap.size 33 [.slice A18 n18 c18, .slice B18 m18 d18, .slice U18 nu18 cu18, .slice R18 np18 cp18, .slice L18 nl18 cl18]) := Lib.hid (BX.start XA.out.bel rfl)
 replace XA := Lib.hid (XA.out.step hb19)
 replace XB := Lib.hid (XB.out.step hb19)
 replace XC := Lib.hid (XC.out.step hb19)
 replace XD := Lib.hid (XD.out.step hb19)
 replace O4 := Lib.hid (O4.out.bel hb19)
 replace MK8 := Lib.hid (MK8.out.bel hb19)
 replace O18 := Lib.hid (O18.out.bel hb19)
 have hl19 := zAf XE.out.bx
 clear hb19
 go_upto_region 25 with fail
 generalize w18.alloc (.cells #[.slice A18 n18 c18, .slice B18 m18 d18, .slice U18 nu18 cu18, .slice R18 np18 cp18, .slice L18 nl18 cl18] 33) = w19 at *
 obtain ⟨b19, hbn19⟩ : ∃ y, y = w18.heap.size := ⟨_, rfl⟩
 rw [← hbn19] at XE hl19 ⊢
 have HBN19 := Lib.hid hbn19
 clear hbn19
 have g0 := zAb XB.out.bx 0 rfl
 have g1 := zAb XB.out.bx 1 rfl
 have g2 := zAb XB.out.bx 2 rfl
 have g3 := zAb XB.out.bx 3 rfl
 have g4 := zAb XB.out.bx 4 rfl
 have gf := zAh XB.out.bx
 have gl := zAf XB.out.bx
 simp only [zgc, zga, zgb] at g0 g1 g2 g3 g4
 have u0 := zAb XE.out.bx 0 rfl
 have u1 := zAb XE.out.bx 1 rfl
 have u2 := zAb XE.out.bx 2 rfl
 have u3 := zAb XE.out.bx 3 rfl
 have u4 := zAb XE.out.bx 4 rfl
 have uf := zAh XE.out.bx
 have ul := zAf XE.out.bx
 simp only [zgc, zga, zgb] at u0 u1 u2 u3 u4
 go_wp2_with fail
 refine (eqRoom_any ⟨A18, B18, U18, R18, L18, n18, m18, nu18, np18, nl18, c18, d18, cu18, cp18, cl18⟩ ⟨A4, B4, U4, R4, L4, n4, m4, nu4, np4, nl4, c4, d4, cu4, cp4, cl4⟩ EV _ O18.out.rd O4.out.rd).mono ?_
 rintro e w20 ⟨rfl, hb20⟩
 clear g0 g1 g2 g3 g4 gf gl
 clear u0 u1 u2 u3 u4 uf ul
 have hs20 := hb20.size
 replace XA := Lib.hid (XA.out.step hb20)
 replace XB := Lib.hid (XB.out.step hb20)
 replace XC := Lib.hid (XC.out.step hb20)
 replace XD := Lib.hid (XD.out.step hb20)
 replace XE := Lib.hid (XE.out.step hb20)
 replace O4 := Lib.hid (O4.out.bel hb20)
 replace MK8 := Lib.hid (MK8.out.bel hb20)
 replace O18 := Lib.hid (O18.out.bel hb20)
 clear hb20
 have q0 := zAb XD.out.bx 0 rfl
 have q1 := zAb XD.out.bx 1 rfl
 have q2 := zAb XD.out.bx 2 rfl
 have q3 := zAb XD.out.bx 3 rfl
 have q4 := zAb XD.out.bx 4 rfl
 have qf := zAh XD.out.bx
 have ql := zAf XD.out.bx
 simp only [zgc, zga, zgb] at q0 q1 q2 q3 q4
 go_wp2_with fail
 refine (heldRoom_rd ⟨A8, B8, U8, R8, L8, n8, m8, nu8, np8, nl8, c8, d8, cu8, cp8, cl8⟩ EV xs8 _ MK8.out).mono ?_
 rintro e w21 ⟨rfl, hb21⟩
 clear q0 q1 q2 q3 q4 qf ql
 have hs21 := hb21.size
 replace XA := Lib.hid (XA.out.step hb21)
 replace XB := Lib.hid (XB.out.step hb21)
 replace XC := Lib.hid (XC.out.step hb21)
 replace XD := Lib.hid (XD.out.step hb21)
 replace XE := Lib.hid (XE.out.step hb21)
 replace O4 := Lib.hid (O4.out.bel hb21)
 replace MK8 := Lib.hid (MK8.out.bel hb21)
 replace O18 := Lib.hid (O18.out.bel hb21)
 clear hb21
 rw [← HTOT.out]
 go_wp2
 go_ret
 exact ⟨rfl, XA.out.bel⟩
end Go.Proofs.YtnphjhbfpoekpaaGreat
