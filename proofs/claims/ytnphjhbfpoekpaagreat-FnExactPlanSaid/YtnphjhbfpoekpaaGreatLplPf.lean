import Derived.Test.YtnphjhbfpoekpaaGreatHlPf
import Derived.Test.YtnphjhbfpoekpaaGreatVkPf
import Derived.Test.YtnphjhbfpoekpaaGreatA23Pf
import Derived.Deep.RegionHeld3
namespace Go.Proofs.YtnphjhbfpoekpaaGreat
set_option linter.unusedSimpArgs false
set_option linter.unusedVariables false
set_option linter.unnecessarySimpa false
open Go.RowKit
set_option maxHeartbeats 16000000 in
set_option maxRecDepth 20000 in
theorem law_plan (a : RA) (r : Rm) (now : Int) (D : Option Addr) (k e : Nat) (js : List J) (dp : Int) (w : World) (hx : RmMax a) (hk9 : k ≤ maxLen) (hr : RoomIn w a r) (hd : RdJ w D k js) :
  Calls Tryz.prog 10 #[a.v, .int .i64 now, .slice D k e, .int .i64 dp] w fun e w' => e = .returned (.bool true) ∧ Below w.heap.size w w' := by
 obtain ⟨A, B, U, R, L, n, m, nu, np, nl, c, d, cu, cp, cl⟩ := a
 dsimp only [RA.v]
 have HX := Lib.hid hx
 have HR := Lib.hid hr
 have HD := Lib.hid hd
 have HK9 := Lib.hid hk9
 obtain ⟨PV, hPV⟩ : ∃ y, y = plS r now js dp := ⟨_, rfl⟩
 obtain ⟨EB, hEB⟩ : ∃ y, y = planB r now js dp := ⟨_, rfl⟩
 have HP : Hid (PV.a.length ≤ 60 ∧ PV.b.length ≤ 60) := Lib.hid (by rw [hPV]; exact plS_len r now dp js)
 have HSC : Hid (k ≤ 1048576 → ∀ (a' : RA) (xs : List Value) (lo : Nat) (D' : Option Addr) (e' lo' : Nat) (W : World), RoomOwn W lo a' r xs → W.ownsRow lo' 95 11 (.slice D' k e') k (jflat js) → Calls Tryz.prog 13 #[a'.v, .int .i64 now, .slice D' k e', .int .i64 dp] W fun e W' => ∃ (X : Option Addr) (c : Nat) (Y : Option Addr) (d : Nat) (ss tt : List Value), e = .returned (.tuple #[.slice X PV.a.length c, .slice Y PV.b.length d, .bool EB]) ∧ HH W' W.heap.size X c Y d ss tt PV ∧ Below W.heap.size W W') := Lib.hid (fun hkk a' xs lo D' e' lo' W h ho => by rw [hPV, hEB]; exact sPlanH_any a' r xs lo now D' k e' lo' js dp W h hkk ho)
 have HIC : Hid (k ≤ 1048576 → ∀ (a' : RA) (xs : List Value) (lo : Nat) (D' : Option Addr) (e' lo' : Nat) (W : World), RoomOwn W lo a' r xs → W.ownsRow lo' 95 11 (.slice D' k e') k (jflat js) → Calls Tryz.prog 12 #[a'.v, .int .i64 now, .slice D' k e', .int .i64 dp] W fun e W' => ∃ (X : Option Addr) (c : Nat) (Y : Option Addr) (d : Nat) (ss tt : List Value), e = .returned (.tuple #[.slice X PV.a.length c, .slice Y PV.b.length d, .bool EB]) ∧ HH W' W.heap.size X c Y d ss tt PV ∧ Below W.heap.size W W') := Lib.hid (fun hkk a' xs lo D' e' lo' W h ho => by rw [hPV, hEB]; exact PlanH_any a' r xs lo now D' k e' lo' js dp W h hkk ho)
 clear hx hr hPV hEB hd hk9
 go_enter Tryz.func10, Tryz.ntmps10
 go_wp2_with fail
 refine (szRoomZ_any ⟨A, B, U, R, L, n, m, nu, np, nl, c, d, cu, cp, cl⟩ r _ HX.out (HR.out.below (by repeat (first | exact Below.refl _ _ | assumption | (refine zAb ?_ (zAc _ _)) | exact zAb (by assumption) (by assumption) | (refine zAb ?_ (zAa _ _)) | (refine zAb ?_ (by assumption)) | (refine Below.setCell ?_ (by simp <;> omega) _) | refine Below.drew ?_ | (refine Below.trans ?_ (by assumption)))))).mono ?_
 rintro e w1 ⟨z1, rfl, hz1, hb1⟩
 have hs1 := hb1.size
 (try simp at hs1)
 have hy1_0 : w.heap.size < w1.heap.size := by omega
 have hk1_0 := fun o => hb1.cell (p := ⟨w.heap.size, o, none⟩) zOm
 have hg1_0 := fun o => hb1.frozen (p := ⟨w.heap.size, o, none⟩) zOm
 rcases hz1 with hz1 | ⟨hz1, hz1b, hsz⟩
 ·go_wp2
  go_ret
  exact ⟨rfl, zBe⟩
 have SZ := Lib.hid hsz
 have hz1' : ¬ z1 < 0 := by omega
 clear hsz
 go_wp2_with fail
 refine (szJobS_any D k e z1 _ hz1 (by omega) HK9.out).mono ?_
 rintro e w2 ⟨rfl, hw2⟩
 have hb2 := below_same hw2
 clear hw2
 by_cases hkz : (k : Int) ≤ z1
 rotate_left
 ·rw [show szOf z1 k = -1 from if_neg hkz]
  go_wp2
  go_ret
  exact ⟨rfl, zBe⟩
 have hzz : ¬ szOf z1 k < 0 := by unfold szOf; rw [if_pos hkz]; omega
 have HK : Hid (k ≤ 1048576) := Lib.hid (by omega)
 have hs2 := hb2.size
 (try simp at hs2)
 have hy2_0 : w.heap.size < w2.heap.size := by omega
 have hk2_0 := fun o => hb2.cell (p := ⟨w.heap.size, o, none⟩) zOm
 have hg2_0 := fun o => hb2.frozen (p := ⟨w.heap.size, o, none⟩) zOm
 go_wp2_with fail
 refine (toRoom_any ⟨A, B, U, R, L, n, m, nu, np, nl, c, d, cu, cp, cl⟩ r _ SZ.out (HR.out.below (by repeat (first | exact Below.refl _ _ | assumption | (refine zAb ?_ (zAc _ _)) | exact zAb (by assumption) (by assumption) | (refine zAb ?_ (zAa _ _)) | (refine zAb ?_ (by assumption)) | (refine Below.setCell ?_ (by simp <;> omega) _) | refine Below.drew ?_ | (refine Below.trans ?_ (by assumption)))))).mono ?_
 rintro e w3 ⟨⟨A3, B3, U3, R3, L3, n3, m3, nu3, np3, nl3, c3, d3, cu3, cp3, cl3⟩, xs3, rfl, own3, hb3⟩
 have hs3 := hb3.size
 (try simp at hs3)
 have hy3_0 : w.heap.size < w3.heap.size := by omega
 have hk3_0 := fun o => hb3.cell (p := ⟨w.heap.size, o, none⟩) zOm
 have hg3_0 := fun o => hb3.frozen (p := ⟨w.heap.size, o, none⟩) zOm
 have OR3 := Lib.hid own3
 have RG3 : Hid (∀ k, atQ ⟨A3, B3, U3, R3, L3, n3, m3, nu3, np3, nl3, c3, d3, cu3, cp3, cl3⟩ xs3 k → w2.heap.size ≤ k ∧ k < w3.heap.size) := Lib.hid (fun k hk => by have h9 := room_rng2 own3 k hk; (try simp at h9); omega)
 clear own3
 dsimp only [RA.v]
 go_wp2_with fail
 refine (toJobS_any D k e js _ HK.out (HD.out.below (by repeat (first | exact Below.refl _ _ | assumption | (refine zAb ?_ (zAc _ _)) | exact zAb (by assumption) (by assumption) | (refine zAb ?_ (zAa _ _)) | (refine zAb ?_ (by assumption)) | (refine Below.setCell ?_ (by simp <;> omega) _) | refine Below.drew ?_ | (refine Below.trans ?_ (by assumption)))))).mono ?_
 rintro e w4 ⟨v4, rfl, own4, hb4⟩
 have hs4 := hb4.size
 (try simp at hs4)
 have hy4_0 : w.heap.size < w4.heap.size := by omega
 have hk4_0 := fun o => hb4.cell (p := ⟨w.heap.size, o, none⟩) zOm
 have hg4_0 := fun o => hb4.frozen (p := ⟨w.heap.size, o, none⟩) zOm
 obtain ⟨V4, d4, rfl, _⟩ := zAm own4
 have OI4 := Lib.hid own4
 have IG4 : Hid (∀ k, atB V4 k → w3.heap.size ≤ k ∧ k < w4.heap.size) := Lib.hid (fun k hk => by have h9 := own_rng own4 k hk; (try simp at h9); omega)
 clear own4
 go_wp2_with fail
 refine (HSC.out HK.out ⟨A3, B3, U3, R3, L3, n3, m3, nu3, np3, nl3, c3, d3, cu3, cp3, cl3⟩ xs3 _ V4 d4 _ _ (OR3.out.bel (by repeat (first | exact Below.refl _ _ | assumption | (refine zAb ?_ (zAc _ _)) | exact zAb (by assumption) (by assumption) | (refine zAb ?_ (zAa _ _)) | (refine zAb ?_ (by assumption)) | (refine Below.setCell ?_ (by simp <;> omega) _) | refine Below.drew ?_ | (refine Below.trans ?_ (by assumption))))) (zAe OI4.out (by repeat (first | exact Below.refl _ _ | assumption | (refine zAb ?_ (zAc _ _)) | exact zAb (by assumption) (by assumption) | (refine zAb ?_ (zAa _ _)) | (refine zAb ?_ (by assumption)) | (refine Below.setCell ?_ (by simp <;> omega) _) | refine Below.drew ?_ | (refine Below.trans ?_ (by assumption)))))).mono ?_
 rintro e w5 ⟨X5, e5, Y5, f5, ss5, tt5, rfl, own5, hb5⟩
 have hs5 := hb5.size
 (try simp at hs5)
 have hy5_0 : w.heap.size < w5.heap.size := by omega
 have hk5_0 := fun o => hb5.cell (p := ⟨w.heap.size, o, none⟩) zOm
 have hg5_0 := fun o => hb5.frozen (p := ⟨w.heap.size, o, none⟩) zOm
 have OH5 := Lib.hid own5
 have HG5 : Hid (∀ k, atHH X5 Y5 ss5 tt5 PV k → w4.heap.size ≤ k ∧ k < w5.heap.size) := Lib.hid (fun k hk => by have h9 := own5.rng k hk; (try simp at h9); omega)
 clear own5
 have HPC : Hid (1 + (hcnt PV.a : Int) ≤ 1099511627776 ∧ 1 + (hcnt PV.a : Int) + (hcnt PV.b : Int) ≤ 1099511627776) := Lib.hid (by have h1 := hcnt_own OH5.out.st; have h2 := hcnt_own OH5.out.la; have h3 := HP.out.1; have h4 := HP.out.2; omega)
 have hq1 : 0 ≤ 1 + (hcnt PV.a : Int) := by omega
 have hq2 : 0 ≤ 1 + (hcnt PV.a : Int) + (hcnt PV.b : Int) := by omega
 have hq3 : ¬ 1 + (hcnt PV.a : Int) < 0 := by omega
 have hq4 : ¬ 1 + (hcnt PV.a : Int) + (hcnt PV.b : Int) < 0 := by omega
 go_wp2_with fail
 refine (toRoom_any ⟨A, B, U, R, L, n, m, nu, np, nl, c, d, cu, cp, cl⟩ r _ SZ.out (HR.out.below (by repeat (first | exact Below.refl _ _ | assumption | (refine zAb ?_ (zAc _ _)) | exact zAb (by assumption) (by assumption) | (refine zAb ?_ (zAa _ _)) | (refine zAb ?_ (by assumption)) | (refine Below.setCell ?_ (by simp <;> omega) _) | refine Below.drew ?_ | (refine Below.trans ?_ (by assumption)))))).mono ?_
 rintro e w6 ⟨⟨A6, B6, U6, R6, L6, n6, m6, nu6, np6, nl6, c6, d6, cu6, cp6, cl6⟩, xs6, rfl, own6, hb6⟩
 have hs6 := hb6.size
 (try simp at hs6)
 have hy6_0 : w.heap.size < w6.heap.size := by omega
 have hk6_0 := fun o => hb6.cell (p := ⟨w.heap.size, o, none⟩) zOm
 have hg6_0 := fun o => hb6.frozen (p := ⟨w.heap.size, o, none⟩) zOm
 have OR6 := Lib.hid own6
 have RG6 : Hid (∀ k, atQ ⟨A6, B6, U6, R6, L6, n6, m6, nu6, np6, nl6, c6, d6, cu6, cp6, cl6⟩ xs6 k → w5.heap.size ≤ k ∧ k < w6.heap.size) := Lib.hid (fun k hk => by have h9 := room_rng2 own6 k hk; (try simp at h9); omega)
 clear own6
 dsimp only [RA.v]
 go_wp2_with fail
 refine (toJobS_any D k e js _ HK.out (HD.out.below (by repeat (first | exact Below.refl _ _ | assumption | (refine zAb ?_ (zAc _ _)) | exact zAb (by assumption) (by assumption) | (refine zAb ?_ (zAa _ _)) | (refine zAb ?_ (by assumption)) | (refine Below.setCell ?_ (by simp <;> omega) _) | refine Below.drew ?_ | (refine Below.trans ?_ (by assumption)))))).mono ?_
 rintro e w7 ⟨v7, rfl, own7, hb7⟩
 have hs7 := hb7.size
 (try simp at hs7)
 have hy7_0 : w.heap.size < w7.heap.size := by omega
 have hk7_0 := fun o => hb7.cell (p := ⟨w.heap.size, o, none⟩) zOm
 have hg7_0 := fun o => hb7.frozen (p := ⟨w.heap.size, o, none⟩) zOm
 have hy7_1 : w6.heap.size < w7.heap.size := by omega
 have hk7_1 := fun o => hb7.cell (p := ⟨w6.heap.size, o, none⟩) zOm
 have hg7_1 := fun o => hb7.frozen (p := ⟨w6.heap.size, o, none⟩) zOm
 obtain ⟨V7, d7, rfl, _⟩ := zAm own7
 have OI7 := Lib.hid own7
 have IG7 : Hid (∀ k, atB V7 k → w6.heap.size + 1 ≤ k ∧ k < w7.heap.size) := Lib.hid (fun k hk => by have h9 := own_rng own7 k hk; (try simp at h9); omega)
 clear own7
 go_wp2_with fail
 refine (HIC.out HK.out ⟨A6, B6, U6, R6, L6, n6, m6, nu6, np6, nl6, c6, d6, cu6, cp6, cl6⟩ xs6 _ V7 d7 _ _ (OR6.out.bel (by repeat (first | exact Below.refl _ _ | assumption | (refine zAb ?_ (zAc _ _)) | exact zAb (by assumption) (by assumption) | (refine zAb ?_ (zAa _ _)) | (refine zAb ?_ (by assumption)) | (refine Below.setCell ?_ (by simp <;> omega) _) | refine Below.drew ?_ | (refine Below.trans ?_ (by assumption))))) (zAe OI7.out (by repeat (first | exact Below.refl _ _ | assumption | (refine zAb ?_ (zAc _ _)) | exact zAb (by assumption) (by assumption) | (refine zAb ?_ (zAa _ _)) | (refine zAb ?_ (by assumption)) | (refine Below.setCell ?_ (by simp <;> omega) _) | refine Below.drew ?_ | (refine Below.trans ?_ (by assumption)))))).mono ?_
 rintro e w8 ⟨X8, e8, Y8, f8, ss8, tt8, rfl, own8, hb8⟩
 have hs8 := hb8.size
 (try simp at hs8)
 have hy8_0 : w.heap.size < w8.heap.size := by omega
 have hk8_0 := fun o => hb8.cell (p := ⟨w.heap.size, o, none⟩) zOm
 have hg8_0 := fun o => hb8.frozen (p := ⟨w.heap.size, o, none⟩) zOm
 have hy8_1 : w6.heap.size < w8.heap.size := by omega
 have hk8_1 := fun o => hb8.cell (p := ⟨w6.heap.size, o, none⟩) zOm
 have hg8_1 := fun o => hb8.frozen (p := ⟨w6.heap.size, o, none⟩) zOm
 have OH8 := Lib.hid own8
 have HG8 : Hid (∀ k, atHH X8 Y8 ss8 tt8 PV k → w7.heap.size ≤ k ∧ k < w8.heap.size) := Lib.hid (fun k hk => by have h9 := own8.rng k hk; (try simp at h9); omega)
 clear own8
 go_wp2_with fail
 refine (eqHeldS_any X8 X5 PV.a.length e8 e5 _ _ ss8 ss5 PV.a _ (Nat.le_trans HP.out.1 (by decide)) (OH8.out.bel (by repeat (first | exact Below.refl _ _ | assumption | (refine zAb ?_ (zAc _ _)) | exact zAb (by assumption) (by assumption) | (refine zAb ?_ (zAa _ _)) | (refine zAb ?_ (by assumption)) | (refine Below.setCell ?_ (by simp <;> omega) _) | refine Below.drew ?_ | (refine Below.trans ?_ (by assumption))))).st (OH5.out.bel (by repeat (first | exact Below.refl _ _ | assumption | (refine zAb ?_ (zAc _ _)) | exact zAb (by assumption) (by assumption) | (refine zAb ?_ (zAa _ _)) | (refine zAb ?_ (by assumption)) | (refine Below.setCell ?_ (by simp <;> omega) _) | refine Below.drew ?_ | (refine Below.trans ?_ (by assumption))))).st).mono ?_
 rintro e w9 ⟨rfl, hb9⟩
 have hs9 := hb9.size
 (try simp at hs9)
 have hy9_0 : w.heap.size < w9.heap.size := by omega
 have hk9_0 := fun o => hb9.cell (p := ⟨w.heap.size, o, none⟩) zOm
 have hg9_0 := fun o => hb9.frozen (p := ⟨w.heap.size, o, none⟩) zOm
 have hy9_1 : w6.heap.size < w9.heap.size := by omega
 have hk9_1 := fun o => hb9.cell (p := ⟨w6.heap.size, o, none⟩) zOm
 have hg9_1 := fun o => hb9.frozen (p := ⟨w6.heap.size, o, none⟩) zOm
 go_wp2_with fail
 refine (eqHeldS_any Y8 Y5 PV.b.length f8 f5 _ _ tt8 tt5 PV.b _ (Nat.le_trans HP.out.2 (by decide)) (OH8.out.bel (by repeat (first | exact Below.refl _ _ | assumption | (refine zAb ?_ (zAc _ _)) | exact zAb (by assumption) (by assumption) | (refine zAb ?_ (zAa _ _)) | (refine zAb ?_ (by assumption)) | (refine Below.setCell ?_ (by simp <;> omega) _) | refine Below.drew ?_ | (refine Below.trans ?_ (by assumption))))).la (OH5.out.bel (by repeat (first | exact Below.refl _ _ | assumption | (refine zAb ?_ (zAc _ _)) | exact zAb (by assumption) (by assumption) | (refine zAb ?_ (zAa _ _)) | (refine zAb ?_ (by assumption)) | (refine Below.setCell ?_ (by simp <;> omega) _) | refine Below.drew ?_ | (refine Below.trans ?_ (by assumption))))).la).mono ?_
 rintro e w10 ⟨rfl, hb10⟩
 have hs10 := hb10.size
 (try simp at hs10)
 have hy10_0 : w.heap.size < w10.heap.size := by omega
 have hk10_0 := fun o => hb10.cell (p := ⟨w.heap.size, o, none⟩) zOm
 have hg10_0 := fun o => hb10.frozen (p := ⟨w.heap.size, o, none⟩) zOm
 have hy10_1 : w6.heap.size < w10.heap.size := by omega
 have hk10_1 := fun o => hb10.cell (p := ⟨w6.heap.size, o, none⟩) zOm
 have hg10_1 := fun o => hb10.frozen (p := ⟨w6.heap.size, o, none⟩) zOm
 go_wp2_with fail
 go_region_held3 (fun w' => w'.cell? ⟨w.heap.size, 0, none⟩ = some (.slice A n c) ∧ w'.cell? ⟨w.heap.size, 1, none⟩ = some (.slice B m d) ∧ w'.cell? ⟨w.heap.size, 2, none⟩ = some (.slice U nu cu) ∧ w'.cell? ⟨w.heap.size, 3, none⟩ = some (.slice R np cp) ∧ w'.cell? ⟨w.heap.size, 4, none⟩ = some (.slice L nl cl) ∧ w'.cell? ⟨w6.heap.size, 0, none⟩ = some (.slice A6 n6 c6) ∧ w'.cell? ⟨w6.heap.size, 1, none⟩ = some (.slice B6 m6 d6) ∧ w'.cell? ⟨w6.heap.size, 2, none⟩ = some (.slice U6 nu6 cu6) ∧ w'.cell? ⟨w6.heap.size, 3, none⟩ = some (.slice R6 np6 cp6) ∧ w'.cell? ⟨w6.heap.size, 4, none⟩ = some (.slice L6 nl6 cl6)) (simp [go_sem, *, World.cell?_alloc_some, World.cell?_setCell_far, Nat.lt_add_right, Nat.ne_of_gt]) (first | (go_at_call 19; refine (toRoom_any ⟨A, B, U, R, L, n, m, nu, np, nl, c, d, cu, cp, cl⟩ r _ SZ.out (HR.out.below (by repeat (first | exact Below.refl _ _ | assumption | (refine zAb ?_ (zAc _ _)) | exact zAb (by assumption) (by assumption) | (refine zAb ?_ (zAa _ _)) | (refine zAb ?_ (by assumption)) | (refine Below.setCell ?_ (by simp <;> omega) _) | refine Below.drew ?_ | (refine Below.trans ?_ (by assumption)))))).mono ?_; rintro e w11 ⟨⟨A11, B11, U11, R11, L11, n11, m11, nu11, np11, nl11, c11, d11, cu11, cp11, cl11⟩, xs11, rfl, own11, hb11⟩; have hs11 := hb11.size; (try simp at hs11); have hy11_0 : w.heap.size < w11.heap.size := (by omega); have hk11_0 := fun o => hb11.cell (p := ⟨w.heap.size, o, none⟩) zOm; have hg11_0 := fun o => hb11.frozen (p := ⟨w.heap.size, o, none⟩) zOm; have hy11_1 : w6.heap.size < w11.heap.size := (by omega); have hk11_1 := fun o => hb11.cell (p := ⟨w6.heap.size, o, none⟩) zOm; have hg11_1 := fun o => hb11.frozen (p := ⟨w6.heap.size, o, none⟩) zOm; have OR11 := Lib.hid own11; have RG11 : Hid (∀ k, atQ ⟨A11, B11, U11, R11, L11, n11, m11, nu11, np11, nl11, c11, d11, cu11, cp11, cl11⟩ xs11 k → w10.heap.size ≤ k ∧ k < w11.heap.size) := Lib.hid (fun k hk => by have h9 := room_rng2 own11 k hk; (try simp at h9); omega); clear own11; dsimp only [RA.v]) | (go_at_call 22; refine (eqRoom_any ⟨A6, B6, U6, R6, L6, n6, m6, nu6, np6, nl6, c6, d6, cu6, cp6, cl6⟩ ⟨A11, B11, U11, R11, L11, n11, m11, nu11, np11, nl11, c11, d11, cu11, cp11, cl11⟩ r _ (OR6.out.bel (by repeat (first | exact Below.refl _ _ | assumption | (refine zAb ?_ (zAc _ _)) | exact zAb (by assumption) (by assumption) | (refine zAb ?_ (zAa _ _)) | (refine zAb ?_ (by assumption)) | (refine Below.setCell ?_ (by simp <;> omega) _) | refine Below.drew ?_ | (refine Below.trans ?_ (by assumption))))).rd (OR11.out.bel (by repeat (first | exact Below.refl _ _ | assumption | (refine zAb ?_ (zAc _ _)) | exact zAb (by assumption) (by assumption) | (refine zAb ?_ (zAa _ _)) | (refine zAb ?_ (by assumption)) | (refine Below.setCell ?_ (by simp <;> omega) _) | refine Below.drew ?_ | (refine Below.trans ?_ (by assumption))))).rd).mono ?_; rintro e w12 ⟨rfl, hb12⟩; have hs12 := hb12.size; (try simp at hs12); have hy12_0 : w.heap.size < w12.heap.size := (by omega); have hk12_0 := fun o => hb12.cell (p := ⟨w.heap.size, o, none⟩) zOm; have hg12_0 := fun o => hb12.frozen (p := ⟨w.heap.size, o, none⟩) zOm; have hy12_1 : w6.heap.size < w12.heap.size := (by omega); have hk12_1 := fun o => hb12.cell (p := ⟨w6.heap.size, o, none⟩) zOm; have hg12_1 := fun o => hb12.frozen (p := ⟨w6.heap.size, o, none⟩) zOm))
 go_wp2_with fail
 refine (toJobS_any D k e js _ HK.out (HD.out.below (by repeat (first | exact Below.refl _ _ | assumption | (refine zAb ?_ (zAc _ _)) | exact zAb (by assumption) (by assumption) | (refine zAb ?_ (zAa _ _)) | (refine zAb ?_ (by assumption)) | (refine Below.setCell ?_ (by simp <;> omega) _) | refine Below.drew ?_ | (refine Below.trans ?_ (by assumption)))))).mono ?_
 rintro e w13 ⟨v13, rfl, own13, hb13⟩
 have hs13 := hb13.size
 (try simp at hs13)
 have hy13_0 : w.heap.size < w13.heap.size := by omega
 have hk13_0 := fun o => hb13.cell (p := ⟨w.heap.size, o, none⟩) zOm
 have hg13_0 := fun o => hb13.frozen (p := ⟨w.heap.size, o, none⟩) zOm
 have hy13_1 : w6.heap.size < w13.heap.size := by omega
 have hk13_1 := fun o => hb13.cell (p := ⟨w6.heap.size, o, none⟩) zOm
 have hg13_1 := fun o => hb13.frozen (p := ⟨w6.heap.size, o, none⟩) zOm
 obtain ⟨V13, d13, rfl, _⟩ := zAm own13
 have OI13 := Lib.hid own13
 have IG13 : Hid (∀ k, atB V13 k → w12.heap.size ≤ k ∧ k < w13.heap.size) := Lib.hid (fun k hk => by have h9 := own_rng own13 k hk; (try simp at h9); omega)
 clear own13
 go_wp2_with fail
 refine (eqJobS_any V7 V13 k d7 d13 js _ (Nat.le_trans HK.out (by decide)) (zAp (zAe OI7.out (by repeat (first | exact Below.refl _ _ | assumption | (refine zAb ?_ (zAc _ _)) | exact zAb (by assumption) (by assumption) | (refine zAb ?_ (zAa _ _)) | (refine zAb ?_ (by assumption)) | (refine Below.setCell ?_ (by simp <;> omega) _) | refine Below.drew ?_ | (refine Below.trans ?_ (by assumption)))))) (zAp (zAe OI13.out (by repeat (first | exact Below.refl _ _ | assumption | (refine zAb ?_ (zAc _ _)) | exact zAb (by assumption) (by assumption) | (refine zAb ?_ (zAa _ _)) | (refine zAb ?_ (by assumption)) | (refine Below.setCell ?_ (by simp <;> omega) _) | refine Below.drew ?_ | (refine Below.trans ?_ (by assumption)))))) (zAx (zAe OI7.out (by repeat (first | exact Below.refl _ _ | assumption | (refine zAb ?_ (zAc _ _)) | exact zAb (by assumption) (by assumption) | (refine zAb ?_ (zAa _ _)) | (refine zAb ?_ (by assumption)) | (refine Below.setCell ?_ (by simp <;> omega) _) | refine Below.drew ?_ | (refine Below.trans ?_ (by assumption)))))) (zAx (zAe OI13.out (by repeat (first | exact Below.refl _ _ | assumption | (refine zAb ?_ (zAc _ _)) | exact zAb (by assumption) (by assumption) | (refine zAb ?_ (zAa _ _)) | (refine zAb ?_ (by assumption)) | (refine Below.setCell ?_ (by simp <;> omega) _) | refine Below.drew ?_ | (refine Below.trans ?_ (by assumption))))))).mono ?_
 rintro e w14 ⟨rfl, hb14⟩
 have hs14 := hb14.size
 (try simp at hs14)
 have hy14_0 : w.heap.size < w14.heap.size := by omega
 have hk14_0 := fun o => hb14.cell (p := ⟨w.heap.size, o, none⟩) zOm
 have hg14_0 := fun o => hb14.frozen (p := ⟨w.heap.size, o, none⟩) zOm
 have hy14_1 : w6.heap.size < w14.heap.size := by omega
 have hk14_1 := fun o => hb14.cell (p := ⟨w6.heap.size, o, none⟩) zOm
 have hg14_1 := fun o => hb14.frozen (p := ⟨w6.heap.size, o, none⟩) zOm
 have RX9 : Hid (∀ k, atR ⟨A6, B6, U6, R6, L6, n6, m6, nu6, np6, nl6, c6, d6, cu6, cp6, cl6⟩ xs6 k → w5.heap.size ≤ k ∧ k < w6.heap.size) := Lib.hid (fun k hk => RG6.out k (Or.inl hk))
 go_wp2_with fail
 refine (markRoom_rd ⟨A6, B6, U6, R6, L6, n6, m6, nu6, np6, nl6, c6, d6, cu6, cp6, cl6⟩ r xs6 _ _ (OR6.out.bel (by repeat (first | exact Below.refl _ _ | assumption | (refine zAb ?_ (zAc _ _)) | exact zAb (by assumption) (by assumption) | (refine zAb ?_ (zAa _ _)) | (refine zAb ?_ (by assumption)) | (refine Below.setCell ?_ (by simp <;> omega) _) | refine Below.drew ?_ | (refine Below.trans ?_ (by assumption)))))).mono ?_
 rintro e w15 ⟨rfl, mk15, fr15⟩
 have hs15 := fr15.size
 (try simp at hs15)
 have hB15 : Below w.heap.size _ w15 := fr15.below (fun k hk => by have q9 := RX9.out _ hk; omega) zOm
 have hy15_0 : w.heap.size < w15.heap.size := by omega
 have hk15_0 := fun o => fr15.cell (b := w.heap.size) zOm (fun h => by have q9 := RX9.out _ h; omega) o
 have hg15_0 := fun o => fr15.frozen (b := w.heap.size) zOm (fun h => by have q9 := RX9.out _ h; omega) o
 have hy15_1 : w6.heap.size < w15.heap.size := by omega
 have hk15_1 := fun o => fr15.cell (b := w6.heap.size) zOm (fun h => by have q9 := RX9.out _ h; omega) o
 have hg15_1 := fun o => fr15.frozen (b := w6.heap.size) zOm (fun h => by have q9 := RX9.out _ h; omega) o
 have OI7_15 := Lib.hid (own_fr (zAe OI7.out (by repeat (first | exact Below.refl _ _ | assumption | (refine zAb ?_ (zAc _ _)) | exact zAb (by assumption) (by assumption) | (refine zAb ?_ (zAa _ _)) | (refine zAb ?_ (by assumption)) | (refine Below.setCell ?_ (by simp <;> omega) _) | refine Below.drew ?_ | (refine Below.trans ?_ (by assumption))))) fr15 (fun k h1 h2 => by have q1 := IG7.out k (own_atB OI7.out h1); have q2 := RX9.out k h2; omega))
 have OH5_15 := Lib.hid ((OH5.out.bel (by repeat (first | exact Below.refl _ _ | assumption | (refine zAb ?_ (zAc _ _)) | exact zAb (by assumption) (by assumption) | (refine zAb ?_ (zAa _ _)) | (refine zAb ?_ (by assumption)) | (refine Below.setCell ?_ (by simp <;> omega) _) | refine Below.drew ?_ | (refine Below.trans ?_ (by assumption))))).fr fr15 (fun k h1 h2 => by have q1 := HG5.out k h1; have q2 := RX9.out k h2; omega))
 have OH8_15 := Lib.hid ((OH8.out.bel (by repeat (first | exact Below.refl _ _ | assumption | (refine zAb ?_ (zAc _ _)) | exact zAb (by assumption) (by assumption) | (refine zAb ?_ (zAa _ _)) | (refine zAb ?_ (by assumption)) | (refine Below.setCell ?_ (by simp <;> omega) _) | refine Below.drew ?_ | (refine Below.trans ?_ (by assumption))))).fr fr15 (fun k h1 h2 => by have q1 := HG8.out k h1; have q2 := RX9.out k h2; omega))
 have TOT := mk15.tot
 clear mk15
 obtain ⟨K15, htot⟩ : ∃ y, y = rmTot ⟨A6, B6, U6, R6, L6, n6, m6, nu6, np6, nl6, c6, d6, cu6, cp6, cl6⟩ r := ⟨_, rfl⟩
 rw [← htot] at TOT ⊢
 clear htot
 obtain ⟨hK15, hL15⟩ := TOT
 go_wp2_with fail
 refine (markJobF V7 k d7 _ K15 _ (Nat.le_trans HK.out (by decide)) hK15 hL15 (own_wr2 (zAe OI7_15.out (by repeat (first | exact Below.refl _ _ | assumption | (refine zAb ?_ (zAc _ _)) | exact zAb (by assumption) (by assumption) | (refine zAb ?_ (zAa _ _)) | (refine zAb ?_ (by assumption)) | (refine Below.setCell ?_ (by simp <;> omega) _) | refine Below.drew ?_ | (refine Below.trans ?_ (by assumption))))))).mono ?_
 rintro e w16 ⟨rfl, rd16, fr16⟩
 have hs16 := fr16.size
 (try simp at hs16)
 have hB16 : Below w.heap.size _ w16 := fr16.below (fun k hk => by have q9 := IG7.out _ hk; omega) zOm
 have hy16_0 : w.heap.size < w16.heap.size := by omega
 have hk16_0 := fun o => fr16.cell (b := w.heap.size) zOm (fun h => by have q9 := IG7.out _ h; omega) o
 have hg16_0 := fun o => fr16.frozen (b := w.heap.size) zOm (fun h => by have q9 := IG7.out _ h; omega) o
 have hy16_1 : w6.heap.size < w16.heap.size := by omega
 have hk16_1 := fun o => fr16.cell (b := w6.heap.size) zOm (fun h => by have q9 := IG7.out _ h; omega) o
 have hg16_1 := fun o => fr16.frozen (b := w6.heap.size) zOm (fun h => by have q9 := IG7.out _ h; omega) o
 have OH5_16 := Lib.hid ((OH5_15.out.bel (by repeat (first | exact Below.refl _ _ | assumption | (refine zAb ?_ (zAc _ _)) | exact zAb (by assumption) (by assumption) | (refine zAb ?_ (zAa _ _)) | (refine zAb ?_ (by assumption)) | (refine Below.setCell ?_ (by simp <;> omega) _) | refine Below.drew ?_ | (refine Below.trans ?_ (by assumption))))).fr fr16 (fun k h1 h2 => by have q1 := HG5.out k h1; have q2 := IG7.out k h2; omega))
 have OH8_16 := Lib.hid ((OH8_15.out.bel (by repeat (first | exact Below.refl _ _ | assumption | (refine zAb ?_ (zAc _ _)) | exact zAb (by assumption) (by assumption) | (refine zAb ?_ (zAa _ _)) | (refine zAb ?_ (by assumption)) | (refine Below.setCell ?_ (by simp <;> omega) _) | refine Below.drew ?_ | (refine Below.trans ?_ (by assumption))))).fr fr16 (fun k h1 h2 => by have q1 := HG8.out k h1; have q2 := IG7.out k h2; omega))
 clear rd16
 have hKK : ¬ K15 + 11 * (k : Int) < 0 := by have := HK.out; omega
 go_wp2_with fail
 refine (eqHeldS_any X8 X5 PV.a.length e8 e5 _ _ ss8 ss5 PV.a _ (Nat.le_trans HP.out.1 (by decide)) (OH8_16.out.bel (by repeat (first | exact Below.refl _ _ | assumption | (refine zAb ?_ (zAc _ _)) | exact zAb (by assumption) (by assumption) | (refine zAb ?_ (zAa _ _)) | (refine zAb ?_ (by assumption)) | (refine Below.setCell ?_ (by simp <;> omega) _) | refine Below.drew ?_ | (refine Below.trans ?_ (by assumption))))).st (OH5_16.out.bel (by repeat (first | exact Below.refl _ _ | assumption | (refine zAb ?_ (zAc _ _)) | exact zAb (by assumption) (by assumption) | (refine zAb ?_ (zAa _ _)) | (refine zAb ?_ (by assumption)) | (refine Below.setCell ?_ (by simp <;> omega) _) | refine Below.drew ?_ | (refine Below.trans ?_ (by assumption))))).st).mono ?_
 rintro e w17 ⟨rfl, hb17⟩
 have hs17 := hb17.size
 (try simp at hs17)
 have hy17_0 : w.heap.size < w17.heap.size := by omega
 have hk17_0 := fun o => hb17.cell (p := ⟨w.heap.size, o, none⟩) zOm
 have hg17_0 := fun o => hb17.frozen (p := ⟨w.heap.size, o, none⟩) zOm
 have hy17_1 : w6.heap.size < w17.heap.size := by omega
 have hk17_1 := fun o => hb17.cell (p := ⟨w6.heap.size, o, none⟩) zOm
 have hg17_1 := fun o => hb17.frozen (p := ⟨w6.heap.size, o, none⟩) zOm
 go_wp2_with fail
 refine (eqHeldS_any Y8 Y5 PV.b.length f8 f5 _ _ tt8 tt5 PV.b _ (Nat.le_trans HP.out.2 (by decide)) (OH8_16.out.bel (by repeat (first | exact Below.refl _ _ | assumption | (refine zAb ?_ (zAc _ _)) | exact zAb (by assumption) (by assumption) | (refine zAb ?_ (zAa _ _)) | (refine zAb ?_ (by assumption)) | (refine Below.setCell ?_ (by simp <;> omega) _) | refine Below.drew ?_ | (refine Below.trans ?_ (by assumption))))).la (OH5_16.out.bel (by repeat (first | exact Below.refl _ _ | assumption | (refine zAb ?_ (zAc _ _)) | exact zAb (by assumption) (by assumption) | (refine zAb ?_ (zAa _ _)) | (refine zAb ?_ (by assumption)) | (refine Below.setCell ?_ (by simp <;> omega) _) | refine Below.drew ?_ | (refine Below.trans ?_ (by assumption))))).la).mono ?_
 rintro e w18 ⟨rfl, hb18⟩
 have hs18 := hb18.size
 (try simp at hs18)
 have hy18_0 : w.heap.size < w18.heap.size := by omega
 have hk18_0 := fun o => hb18.cell (p := ⟨w.heap.size, o, none⟩) zOm
 have hg18_0 := fun o => hb18.frozen (p := ⟨w.heap.size, o, none⟩) zOm
 have hy18_1 : w6.heap.size < w18.heap.size := by omega
 have hk18_1 := fun o => hb18.cell (p := ⟨w6.heap.size, o, none⟩) zOm
 have hg18_1 := fun o => hb18.frozen (p := ⟨w6.heap.size, o, none⟩) zOm
 have OGB : Hid (HH w18 _ X8 e8 Y8 f8 ss8 tt8 PV) := Lib.hid (OH8_16.out.bel (by repeat (first | exact Below.refl _ _ | assumption | (refine zAb ?_ (zAc _ _)) | exact zAb (by assumption) (by assumption) | (refine zAb ?_ (zAa _ _)) | (refine zAb ?_ (by assumption)) | (refine Below.setCell ?_ (by simp <;> omega) _) | refine Below.drew ?_ | (refine Below.trans ?_ (by assumption)))))
 have RXa : Hid (∀ k, (atB X8 k ∨ atX ss8 PV.a.length k) → w7.heap.size ≤ k ∧ k < w8.heap.size) := Lib.hid (fun k hk => HG8.out k (Or.inl hk))
 have RXb : Hid (∀ k, (atB Y8 k ∨ atX tt8 PV.b.length k) → w7.heap.size ≤ k ∧ k < w8.heap.size) := Lib.hid (fun k hk => HG8.out k (Or.inr hk))
 go_wp2_with fail
 refine (markHeldS_rd X8 PV.a.length e8 _ 1 ss8 PV.a _ (Nat.le_trans HP.out.1 (by decide)) (by omega) HPC.out.1 OGB.out.st).mono ?_
 rintro e w19 ⟨rfl, hm19, fr19⟩
 have hs19 := fr19.size
 (try simp at hs19)
 have hB19 : Below w.heap.size _ w19 := fr19.below (fun k hk => by have q9 := RXa.out _ hk; omega) zOm
 have hy19_0 : w.heap.size < w19.heap.size := by omega
 have hk19_0 := fun o => fr19.cell (b := w.heap.size) zOm (fun h => by have q9 := RXa.out _ h; omega) o
 have hg19_0 := fun o => fr19.frozen (b := w.heap.size) zOm (fun h => by have q9 := RXa.out _ h; omega) o
 have hy19_1 : w6.heap.size < w19.heap.size := by omega
 have hk19_1 := fun o => fr19.cell (b := w6.heap.size) zOm (fun h => by have q9 := RXa.out _ h; omega) o
 have hg19_1 := fun o => fr19.frozen (b := w6.heap.size) zOm (fun h => by have q9 := RXa.out _ h; omega) o
 have OH5_19 := Lib.hid ((OH5_16.out.bel (by repeat (first | exact Below.refl _ _ | assumption | (refine zAb ?_ (zAc _ _)) | exact zAb (by assumption) (by assumption) | (refine zAb ?_ (zAa _ _)) | (refine zAb ?_ (by assumption)) | (refine Below.setCell ?_ (by simp <;> omega) _) | refine Below.drew ?_ | (refine Below.trans ?_ (by assumption))))).fr fr19 (fun k h1 h2 => by have q1 := HG5.out k h1; have q2 := RXa.out k h2; omega))
 have HMa := Lib.hid hm19
 have OGC := Lib.hid (OGB.out.second fr19)
 clear hm19
 go_wp2_with fail
 refine (markHeldS_rd Y8 PV.b.length f8 _ (1 + (hcnt PV.a : Int)) tt8 PV.b _ (Nat.le_trans HP.out.2 (by decide)) hq1 HPC.out.2 (OGC.out.bel (by repeat (first | exact Below.refl _ _ | assumption | (refine zAb ?_ (zAc _ _)) | exact zAb (by assumption) (by assumption) | (refine zAb ?_ (zAa _ _)) | (refine zAb ?_ (by assumption)) | (refine Below.setCell ?_ (by simp <;> omega) _) | refine Below.drew ?_ | (refine Below.trans ?_ (by assumption)))))).mono ?_
 rintro e w20 ⟨rfl, hm20, fr20⟩
 have hs20 := fr20.size
 (try simp at hs20)
 have hB20 : Below w.heap.size _ w20 := fr20.below (fun k hk => by have q9 := RXb.out _ hk; omega) zOm
 have hy20_0 : w.heap.size < w20.heap.size := by omega
 have hk20_0 := fun o => fr20.cell (b := w.heap.size) zOm (fun h => by have q9 := RXb.out _ h; omega) o
 have hg20_0 := fun o => fr20.frozen (b := w.heap.size) zOm (fun h => by have q9 := RXb.out _ h; omega) o
 have hy20_1 : w6.heap.size < w20.heap.size := by omega
 have hk20_1 := fun o => fr20.cell (b := w6.heap.size) zOm (fun h => by have q9 := RXb.out _ h; omega) o
 have hg20_1 := fun o => fr20.frozen (b := w6.heap.size) zOm (fun h => by have q9 := RXb.out _ h; omega) o
 have OH5_20 := Lib.hid ((OH5_19.out.bel (by repeat (first | exact Below.refl _ _ | assumption | (refine zAb ?_ (zAc _ _)) | exact zAb (by assumption) (by assumption) | (refine zAb ?_ (zAa _ _)) | (refine zAb ?_ (by assumption)) | (refine Below.setCell ?_ (by simp <;> omega) _) | refine Below.drew ?_ | (refine Below.trans ?_ (by assumption))))).fr fr20 (fun k h1 h2 => by have q1 := HG5.out k h1; have q2 := RXb.out k h2; omega))
 have HMg := Lib.hid (OGB.out.marked (HMa.out.bel (by repeat (first | exact Below.refl _ _ | assumption | (refine zAb ?_ (zAc _ _)) | exact zAb (by assumption) (by assumption) | (refine zAb ?_ (zAa _ _)) | (refine zAb ?_ (by assumption)) | (refine Below.setCell ?_ (by simp <;> omega) _) | refine Below.drew ?_ | (refine Below.trans ?_ (by assumption))))) hm20 fr20)
 clear hm20
 go_wp2_with fail
 refine (heldHeldS_rd X8 PV.a.length e8 1 ss8 PV.a _ (Nat.le_trans HP.out.1 (by decide)) (by omega) HPC.out.1 (HMg.out.bel (by repeat (first | exact Below.refl _ _ | assumption | (refine zAb ?_ (zAc _ _)) | exact zAb (by assumption) (by assumption) | (refine zAb ?_ (zAa _ _)) | (refine zAb ?_ (by assumption)) | (refine Below.setCell ?_ (by simp <;> omega) _) | refine Below.drew ?_ | (refine Below.trans ?_ (by assumption))))).a).mono ?_
 rintro e w21 ⟨rfl, hw21⟩
 have hb21 := below_same hw21
 clear hw21
 have hs21 := hb21.size
 (try simp at hs21)
 have hy21_0 : w.heap.size < w21.heap.size := by omega
 have hk21_0 := fun o => hb21.cell (p := ⟨w.heap.size, o, none⟩) zOm
 have hg21_0 := fun o => hb21.frozen (p := ⟨w.heap.size, o, none⟩) zOm
 have hy21_1 : w6.heap.size < w21.heap.size := by omega
 have hk21_1 := fun o => hb21.cell (p := ⟨w6.heap.size, o, none⟩) zOm
 have hg21_1 := fun o => hb21.frozen (p := ⟨w6.heap.size, o, none⟩) zOm
 go_wp2_with fail
 refine (heldHeldS_rd Y8 PV.b.length f8 (1 + (hcnt PV.a : Int)) tt8 PV.b _ (Nat.le_trans HP.out.2 (by decide)) hq1 HPC.out.2 (HMg.out.bel (by repeat (first | exact Below.refl _ _ | assumption | (refine zAb ?_ (zAc _ _)) | exact zAb (by assumption) (by assumption) | (refine zAb ?_ (zAa _ _)) | (refine zAb ?_ (by assumption)) | (refine Below.setCell ?_ (by simp <;> omega) _) | refine Below.drew ?_ | (refine Below.trans ?_ (by assumption))))).b).mono ?_
 rintro e w22 ⟨rfl, hw22⟩
 have hb22 := below_same hw22
 clear hw22
 have hs22 := hb22.size
 (try simp at hs22)
 have hy22_0 : w.heap.size < w22.heap.size := by omega
 have hk22_0 := fun o => hb22.cell (p := ⟨w.heap.size, o, none⟩) zOm
 have hg22_0 := fun o => hb22.frozen (p := ⟨w.heap.size, o, none⟩) zOm
 have hy22_1 : w6.heap.size < w22.heap.size := by omega
 have hk22_1 := fun o => hb22.cell (p := ⟨w6.heap.size, o, none⟩) zOm
 have hg22_1 := fun o => hb22.frozen (p := ⟨w6.heap.size, o, none⟩) zOm
 go_wp2_with fail
 refine (toRoom_any ⟨A, B, U, R, L, n, m, nu, np, nl, c, d, cu, cp, cl⟩ r _ SZ.out (HR.out.below (by repeat (first | exact Below.refl _ _ | assumption | (refine zAb ?_ (zAc _ _)) | exact zAb (by assumption) (by assumption) | (refine zAb ?_ (zAa _ _)) | (refine zAb ?_ (by assumption)) | (refine Below.setCell ?_ (by simp <;> omega) _) | refine Below.drew ?_ | (refine Below.trans ?_ (by assumption)))))).mono ?_
 rintro e w23 ⟨⟨A23, B23, U23, R23, L23, n23, m23, nu23, np23, nl23, c23, d23, cu23, cp23, cl23⟩, xs23, rfl, own23, hb23⟩
 have hs23 := hb23.size
 (try simp at hs23)
 have hy23_0 : w.heap.size < w23.heap.size := by omega
 have hk23_0 := fun o => hb23.cell (p := ⟨w.heap.size, o, none⟩) zOm
 have hg23_0 := fun o => hb23.frozen (p := ⟨w.heap.size, o, none⟩) zOm
 have hy23_1 : w6.heap.size < w23.heap.size := by omega
 have hk23_1 := fun o => hb23.cell (p := ⟨w6.heap.size, o, none⟩) zOm
 have hg23_1 := fun o => hb23.frozen (p := ⟨w6.heap.size, o, none⟩) zOm
 have OR23 := Lib.hid own23
 have RG23 : Hid (∀ k, atQ ⟨A23, B23, U23, R23, L23, n23, m23, nu23, np23, nl23, c23, d23, cu23, cp23, cl23⟩ xs23 k → w22.heap.size ≤ k ∧ k < w23.heap.size) := Lib.hid (fun k hk => by have h9 := room_rng2 own23 k hk; (try simp at h9); omega)
 clear own23
 dsimp only [RA.v]
 go_wp2_with fail
 refine (toJobS_any D k e js _ HK.out (HD.out.below (by repeat (first | exact Below.refl _ _ | assumption | (refine zAb ?_ (zAc _ _)) | exact zAb (by assumption) (by assumption) | (refine zAb ?_ (zAa _ _)) | (refine zAb ?_ (by assumption)) | (refine Below.setCell ?_ (by simp <;> omega) _) | refine Below.drew ?_ | (refine Below.trans ?_ (by assumption)))))).mono ?_
 rintro e w24 ⟨v24, rfl, own24, hb24⟩
 have hs24 := hb24.size
 (try simp at hs24)
 have hy24_0 : w.heap.size < w24.heap.size := by omega
 have hk24_0 := fun o => hb24.cell (p := ⟨w.heap.size, o, none⟩) zOm
 have hg24_0 := fun o => hb24.frozen (p := ⟨w.heap.size, o, none⟩) zOm
 have hy24_1 : w6.heap.size < w24.heap.size := by omega
 have hk24_1 := fun o => hb24.cell (p := ⟨w6.heap.size, o, none⟩) zOm
 have hg24_1 := fun o => hb24.frozen (p := ⟨w6.heap.size, o, none⟩) zOm
 obtain ⟨V24, d24, rfl, _⟩ := zAm own24
 have OI24 := Lib.hid own24
 have IG24 : Hid (∀ k, atB V24 k → w23.heap.size ≤ k ∧ k < w24.heap.size) := Lib.hid (fun k hk => by have h9 := own_rng own24 k hk; (try simp at h9); omega)
 clear own24
 go_wp2_with fail
 refine (HIC.out HK.out ⟨A23, B23, U23, R23, L23, n23, m23, nu23, np23, nl23, c23, d23, cu23, cp23, cl23⟩ xs23 _ V24 d24 _ _ (OR23.out.bel (by repeat (first | exact Below.refl _ _ | assumption | (refine zAb ?_ (zAc _ _)) | exact zAb (by assumption) (by assumption) | (refine zAb ?_ (zAa _ _)) | (refine zAb ?_ (by assumption)) | (refine Below.setCell ?_ (by simp <;> omega) _) | refine Below.drew ?_ | (refine Below.trans ?_ (by assumption))))) (zAe OI24.out (by repeat (first | exact Below.refl _ _ | assumption | (refine zAb ?_ (zAc _ _)) | exact zAb (by assumption) (by assumption) | (refine zAb ?_ (zAa _ _)) | (refine zAb ?_ (by assumption)) | (refine Below.setCell ?_ (by simp <;> omega) _) | refine Below.drew ?_ | (refine Below.trans ?_ (by assumption)))))).mono ?_
 rintro e w25 ⟨X25, e25, Y25, f25, ss25, tt25, rfl, own25, hb25⟩
 have hs25 := hb25.size
 (try simp at hs25)
 have hy25_0 : w.heap.size < w25.heap.size := by omega
 have hk25_0 := fun o => hb25.cell (p := ⟨w.heap.size, o, none⟩) zOm
 have hg25_0 := fun o => hb25.frozen (p := ⟨w.heap.size, o, none⟩) zOm
 have hy25_1 : w6.heap.size < w25.heap.size := by omega
 have hk25_1 := fun o => hb25.cell (p := ⟨w6.heap.size, o, none⟩) zOm
 have hg25_1 := fun o => hb25.frozen (p := ⟨w6.heap.size, o, none⟩) zOm
 have OH25 := Lib.hid own25
 have HG25 : Hid (∀ k, atHH X25 Y25 ss25 tt25 PV k → w24.heap.size ≤ k ∧ k < w25.heap.size) := Lib.hid (fun k hk => by have h9 := own25.rng k hk; (try simp at h9); omega)
 clear own25
 go_wp2_with fail
 refine (eqHeldS_any X25 X5 PV.a.length e25 e5 _ _ ss25 ss5 PV.a _ (Nat.le_trans HP.out.1 (by decide)) (OH25.out.bel (by repeat (first | exact Below.refl _ _ | assumption | (refine zAb ?_ (zAc _ _)) | exact zAb (by assumption) (by assumption) | (refine zAb ?_ (zAa _ _)) | (refine zAb ?_ (by assumption)) | (refine Below.setCell ?_ (by simp <;> omega) _) | refine Below.drew ?_ | (refine Below.trans ?_ (by assumption))))).st (OH5_20.out.bel (by repeat (first | exact Below.refl _ _ | assumption | (refine zAb ?_ (zAc _ _)) | exact zAb (by assumption) (by assumption) | (refine zAb ?_ (zAa _ _)) | (refine zAb ?_ (by assumption)) | (refine Below.setCell ?_ (by simp <;> omega) _) | refine Below.drew ?_ | (refine Below.trans ?_ (by assumption))))).st).mono ?_
 rintro e w26 ⟨rfl, hb26⟩
 have hs26 := hb26.size
 (try simp at hs26)
 have hy26_0 : w.heap.size < w26.heap.size := by omega
 have hk26_0 := fun o => hb26.cell (p := ⟨w.heap.size, o, none⟩) zOm
 have hg26_0 := fun o => hb26.frozen (p := ⟨w.heap.size, o, none⟩) zOm
 have hy26_1 : w6.heap.size < w26.heap.size := by omega
 have hk26_1 := fun o => hb26.cell (p := ⟨w6.heap.size, o, none⟩) zOm
 have hg26_1 := fun o => hb26.frozen (p := ⟨w6.heap.size, o, none⟩) zOm
 go_wp2_with fail
 refine (eqHeldS_any Y25 Y5 PV.b.length f25 f5 _ _ tt25 tt5 PV.b _ (Nat.le_trans HP.out.2 (by decide)) (OH25.out.bel (by repeat (first | exact Below.refl _ _ | assumption | (refine zAb ?_ (zAc _ _)) | exact zAb (by assumption) (by assumption) | (refine zAb ?_ (zAa _ _)) | (refine zAb ?_ (by assumption)) | (refine Below.setCell ?_ (by simp <;> omega) _) | refine Below.drew ?_ | (refine Below.trans ?_ (by assumption))))).la (OH5_20.out.bel (by repeat (first | exact Below.refl _ _ | assumption | (refine zAb ?_ (zAc _ _)) | exact zAb (by assumption) (by assumption) | (refine zAb ?_ (zAa _ _)) | (refine zAb ?_ (by assumption)) | (refine Below.setCell ?_ (by simp <;> omega) _) | refine Below.drew ?_ | (refine Below.trans ?_ (by assumption))))).la).mono ?_
 rintro e w27 ⟨rfl, hb27⟩
 have hs27 := hb27.size
 (try simp at hs27)
 have hy27_0 : w.heap.size < w27.heap.size := by omega
 have hk27_0 := fun o => hb27.cell (p := ⟨w.heap.size, o, none⟩) zOm
 have hg27_0 := fun o => hb27.frozen (p := ⟨w.heap.size, o, none⟩) zOm
 have hy27_1 : w6.heap.size < w27.heap.size := by omega
 have hk27_1 := fun o => hb27.cell (p := ⟨w6.heap.size, o, none⟩) zOm
 have hg27_1 := fun o => hb27.frozen (p := ⟨w6.heap.size, o, none⟩) zOm
 go_wp2_with fail
 refine (heldHeldS_rd X8 PV.a.length e8 1 ss8 PV.a _ (Nat.le_trans HP.out.1 (by decide)) (by omega) HPC.out.1 (HMg.out.bel (by repeat (first | exact Below.refl _ _ | assumption | (refine zAb ?_ (zAc _ _)) | exact zAb (by assumption) (by assumption) | (refine zAb ?_ (zAa _ _)) | (refine zAb ?_ (by assumption)) | (refine Below.setCell ?_ (by simp <;> omega) _) | refine Below.drew ?_ | (refine Below.trans ?_ (by assumption))))).a).mono ?_
 rintro e w28 ⟨rfl, hw28⟩
 have hb28 := below_same hw28
 clear hw28
 have hs28 := hb28.size
 (try simp at hs28)
 have hy28_0 : w.heap.size < w28.heap.size := by omega
 have hk28_0 := fun o => hb28.cell (p := ⟨w.heap.size, o, none⟩) zOm
 have hg28_0 := fun o => hb28.frozen (p := ⟨w.heap.size, o, none⟩) zOm
 have hy28_1 : w6.heap.size < w28.heap.size := by omega
 have hk28_1 := fun o => hb28.cell (p := ⟨w6.heap.size, o, none⟩) zOm
 have hg28_1 := fun o => hb28.frozen (p := ⟨w6.heap.size, o, none⟩) zOm
 go_wp2_with fail
 refine (heldHeldS_rd Y8 PV.b.length f8 (1 + (hcnt PV.a : Int)) tt8 PV.b _ (Nat.le_trans HP.out.2 (by decide)) hq1 HPC.out.2 (HMg.out.bel (by repeat (first | exact Below.refl _ _ | assumption | (refine zAb ?_ (zAc _ _)) | exact zAb (by assumption) (by assumption) | (refine zAb ?_ (zAa _ _)) | (refine zAb ?_ (by assumption)) | (refine Below.setCell ?_ (by simp <;> omega) _) | refine Below.drew ?_ | (refine Below.trans ?_ (by assumption))))).b).mono ?_
 rintro e w29 ⟨rfl, hw29⟩
 have hb29 := below_same hw29
 clear hw29
 have hs29 := hb29.size
 (try simp at hs29)
 have hy29_0 : w.heap.size < w29.heap.size := by omega
 have hk29_0 := fun o => hb29.cell (p := ⟨w.heap.size, o, none⟩) zOm
 have hg29_0 := fun o => hb29.frozen (p := ⟨w.heap.size, o, none⟩) zOm
 have hy29_1 : w6.heap.size < w29.heap.size := by omega
 have hk29_1 := fun o => hb29.cell (p := ⟨w6.heap.size, o, none⟩) zOm
 have hg29_1 := fun o => hb29.frozen (p := ⟨w6.heap.size, o, none⟩) zOm
 go_wp2
 go_ret
 exact ⟨rfl, (by repeat (first | exact Below.refl _ _ | assumption | (refine zAb ?_ (zAc _ _)) | exact zAb (by assumption) (by assumption) | (refine zAb ?_ (zAa _ _)) | (refine zAb ?_ (by assumption)) | (refine Below.setCell ?_ (by simp <;> omega) _) | refine Below.drew ?_ | (refine Below.trans ?_ (by assumption))))⟩
end Go.Proofs.YtnphjhbfpoekpaaGreat
