import Derived.Test.YtnphjhbfpoekpaaGreatWePl
import Derived.Test.YtnphjhbfpoekpaaGreatFjPl
import Derived.Test.YtnphjhbfpoekpaaGreatA23Pl
namespace Go.Proofs.YtnphjhbfpoekpaaGreat
set_option linter.unusedSimpArgs false
set_option linter.unusedVariables false
set_option linter.unnecessarySimpa false
open Go.RowKit
set_option maxHeartbeats 8000000 in
set_option maxRecDepth 20000 in
theorem heldState_nil (A B U K R E : Option Addr) (n m nu c d cu ck cr ce : Nat) (s : St) (w : World) (hn : n ≤ 1048576) (hm : m ≤ 1048576) (hnu : nu ≤ 1048576)
  (hA : Rd w A n 1 (imarks 1 (n * 1))) (hB : Rd w B m 4 (imarks (1 + 1 * (n : Int)) (m * 4))) (hU : Rd w U nu 1 (bmarks (1 + (n : Int) + 4 * (m : Int)) nu))
  (lA : ∀ g, A = some ⟨g, 0, none⟩ → g < w.heap.size) (lB : ∀ g, B = some ⟨g, 0, none⟩ → g < w.heap.size) (lU : ∀ g, U = some ⟨g, 0, none⟩ → g < w.heap.size) :
  Calls Tryz.prog 44 #[SA.v ⟨A, B, U, K, R, E, n, m, nu, 0, 0, 0, c, d, cu, ck, cr, ce⟩ s, .int .i64 1] w fun e w' => e = .returned (.int .i64 (1 + 1 * (n : Int) + 4 * (m : Int) + (nu : Int))) ∧ Below w.heap.size w w' := by
 dsimp only [SA.v]
 obtain ⟨K1, hK1⟩ : ∃ y, y = 1 + 1 * (n : Int) + 4 * (m : Int) := ⟨_, rfl⟩
 obtain ⟨K2, hK2⟩ : ∃ y, y = K1 + (nu : Int) := ⟨_, rfl⟩
 have b1 : 0 ≤ K1 := by omega
 have b2 : 0 ≤ K2 := by omega
 have b1' : ¬ K1 < 0 := by omega
 have b2' : ¬ K2 < 0 := by omega
 have c1 : K1 ≤ 1099511627776 := by omega
 have c2 : K2 ≤ 1099511627776 := by omega
 rw [← hK1, ← hK2]
 have HA := Lib.hid hA
 have HB := Lib.hid hB
 have HU : Hid (Rd w U nu 1 (bmarks K1 nu)) := Lib.hid (by rw [show K1 = 1 + (n : Int) + 4 * (m : Int) by omega]; exact hU)
 have LA := Lib.hid lA
 have LB := Lib.hid lB
 have LU := Lib.hid lU
 have E1 := Lib.hid hK1
 have E2 := Lib.hid hK2
 clear hA hB hU lA lB lU hK1 hK2
 have XP0 : Hid (BX w (w.alloc (.cells #[.slice A n c, .slice B m d, .slice U nu cu, .int .i64 s.lic.A, .int .i64 s.lic.B, .int .i64 s.lic.C, .int .i64 s.dep, .int .i64 s.now, .slice K 0 ck, .slice R 0 cr, .slice E 0 ce] 77)) (w.heap.size) 77 [.slice A n c, .slice B m d, .slice U nu cu, .int .i64 s.lic.A, .int .i64 s.lic.B, .int .i64 s.lic.C, .int .i64 s.dep, .int .i64 s.now, .slice K 0 ck, .slice R 0 cr, .slice E 0 ce]) := Lib.hid ⟨zAk _ rfl, zAa _ _, Nat.le_refl _⟩
 go_enter Tryz.func44, Tryz.ntmps44
 go_upto_region 1 with fail
 generalize w.alloc (.cells #[.slice A n c, .slice B m d, .slice U nu cu, .int .i64 s.lic.A, .int .i64 s.lic.B, .int .i64 s.lic.C, .int .i64 s.dep, .int .i64 s.now, .slice K 0 ck, .slice R 0 cr, .slice E 0 ce] 77) = w1 at *
 have k0 := zAb XP0.out.bx 0 rfl
 have k1 := zAb XP0.out.bx 1 rfl
 have k2 := zAb XP0.out.bx 2 rfl
 have k3 := zAb XP0.out.bx 3 rfl
 have k4 := zAb XP0.out.bx 4 rfl
 have k5 := zAb XP0.out.bx 5 rfl
 have k6 := zAb XP0.out.bx 6 rfl
 have k7 := zAb XP0.out.bx 7 rfl
 have k8 := zAb XP0.out.bx 8 rfl
 have k9 := zAb XP0.out.bx 9 rfl
 have k10 := zAb XP0.out.bx 10 rfl
 have kf := zAh XP0.out.bx
 have kl := zAf XP0.out.bx
 simp only [zgc, zga, zgb] at k0 k1 k2 k3 k4 k5 k6 k7 k8 k9 k10
 go_wp2_with fail
 refine (heldTopoG A B n c m d _ (by omega) (by omega) (HA.out.below LA.out XP0.out.bel) (HB.out.below LB.out XP0.out.bel) (zAi LA.out XP0.out.bel) (zAi LB.out XP0.out.bel)).mono ?_
 rintro e w2 ⟨rfl, hb2⟩
 rw [← E1.out]
 have XP1 := Lib.hid (XP0.out.step hb2)
 clear hb2 k0 k1 k2 k3 k4 k5 k6 k7 k8 k9 k10 kf kl XP0
 have k0 := zAb XP1.out.bx 0 rfl
 have k1 := zAb XP1.out.bx 1 rfl
 have k2 := zAb XP1.out.bx 2 rfl
 have k3 := zAb XP1.out.bx 3 rfl
 have k4 := zAb XP1.out.bx 4 rfl
 have k5 := zAb XP1.out.bx 5 rfl
 have k6 := zAb XP1.out.bx 6 rfl
 have k7 := zAb XP1.out.bx 7 rfl
 have k8 := zAb XP1.out.bx 8 rfl
 have k9 := zAb XP1.out.bx 9 rfl
 have k10 := zAb XP1.out.bx 10 rfl
 have kf := zAh XP1.out.bx
 have kl := zAf XP1.out.bx
 simp only [zgc, zga, zgb] at k0 k1 k2 k3 k4 k5 k6 k7 k8 k9 k10
 go_wp2_with fail
 refine (heldBoolG U nu cu K1 _ (by omega) b1 (by omega) (HU.out.below LU.out XP1.out.bel)).mono ?_
 rintro e w3 ⟨rfl, rfl⟩
 rw [← E2.out]
 go_wp2_with fail
 refine (heldJob_any K 0 ck K2 _ (by omega) b2 (by omega) ⟨by simp [imarks], fun h => absurd h (by omega)⟩).mono ?_
 rintro e w3 ⟨rfl, rfl⟩
 rw [show K2 + 11 * ((0 : Nat) : Int) = K2 by omega]
 go_wp2_with fail
 refine (heldRunS_nil R cr K2 _).mono ?_
 rintro e w3 ⟨rfl, rfl⟩
 go_wp2_with fail
 refine (heldEnd_any E 0 ce K2 _ (by omega) b2 (by omega) ⟨by simp [imarks], fun h => absurd h (by omega)⟩).mono ?_
 rintro e w3 ⟨rfl, rfl⟩
 rw [show K2 + 3 * ((0 : Nat) : Int) = K2 by omega]
 go_wp2
 go_ret
 exact ⟨rfl, XP1.out.bel⟩
end Go.Proofs.YtnphjhbfpoekpaaGreat
