/-
  The law of Kept.
-/
import Derived.Test.YtnphjhbfpoekpaaGreatIdPe
import Derived.Test.YtnphjhbfpoekpaaGreatIbPe
import Derived.Test.YtnphjhbfpoekpaaGreatVkPe
import Derived.Deep.RegionHeld3
namespace Go.Proofs.YtnphjhbfpoekpaaGreat
set_option linter.unusedSimpArgs false
set_option linter.unusedVariables false
set_option linter.unnecessarySimpa false
open Go.RowKit

set_option maxHeartbeats 16000000 in
set_option maxRecDepth 20000 in
theorem law_kept (a : RA) (r : Rm) (D : Option Addr) (k e : Nat) (js : List J) (Z : Option Addr) (z cz : Nat) (hs : List Hd) (w : World) (hx : RmMax a) (hk9 : k ≤ maxLen) (hz9 : z ≤ maxLen) (hr : RoomIn w a r) (hd : RdJ w D k js) (hh : RdHI w Z z hs) :
    Calls Tryz.prog 4 #[a.v, .slice D k e, .slice Z z cz] w fun e w' => e = .returned (.bool true) ∧ Below w.heap.size w w' := by
  obtain ⟨A, B, U, R, L, n, m, nu, np, nl, c, d, cu, cp, cl⟩ := a
  dsimp only [RA.v]
  have HX := Lib.hid hx
  have HR := Lib.hid hr
  have HD := Lib.hid hd
  have HZ := Lib.hid hh
  have HK9 := Lib.hid hk9
  have HZ9 := Lib.hid hz9
  obtain ⟨EB, hEB⟩ : ∃ y, y = keptB r js hs := ⟨_, rfl⟩
  have HSC : Hid (k ≤ 1048576 → z ≤ 1048576 → ∀ (a' : RA) (xs : List Value) (lo : Nat) (D' : Option Addr) (e' lo' : Nat) (Z' : Option Addr) (f' : Nat) (ss : List Value) (lo2 : Nat) (W : World), RoomOwn W lo a' r xs → W.ownsRow lo' 95 11 (.slice D' k e') k (jflat js) → OwnH W lo2 (.slice Z' z f') z ss hs → Calls Tryz.prog 18 #[a'.v, .slice D' k e', .slice Z' z f'] W fun e W' => e = .returned (.bool EB) ∧ Below W.heap.size W W') := Lib.hid (fun hkk hzz a' xs lo D' e' lo' Z' f' ss lo2 W h ho oh => by rw [hEB]; exact sKept_any a' r xs lo D' k e' js Z' z f' ss hs W h hkk (own_cap9 ho).1 (own_cap9 ho).2 (own_rdd' ho) (own_blk ho) hzz (own_cap9 oh.own).1 (own_cap9 oh.own).2 oh.rd)
  have HIC : Hid (k ≤ 1048576 → z ≤ 1048576 → ∀ (a' : RA) (xs : List Value) (lo : Nat) (D' : Option Addr) (e' lo' : Nat) (Z' : Option Addr) (f' : Nat) (ss : List Value) (lo2 : Nat) (W : World), RoomOwn W lo a' r xs → W.ownsRow lo' 95 11 (.slice D' k e') k (jflat js) → OwnH W lo2 (.slice Z' z f') z ss hs → Calls Tryz.prog 14 #[a'.v, .slice D' k e', .slice Z' z f'] W fun e W' => e = .returned (.bool EB) ∧ Below W.heap.size W W') := Lib.hid (fun hkk hzz a' xs lo D' e' lo' Z' f' ss lo2 W h ho oh => by rw [hEB]; exact Kept_any a' r xs lo D' k e' js Z' z f' ss hs W h hkk (own_cap9 ho).1 (own_cap9 ho).2 (own_rdd' ho) (own_blk ho) hzz (own_cap9 oh.own).1 (own_cap9 oh.own).2 oh.rd)
  clear hx hr hEB hd hh hk9 hz9
  go_enter Tryz.func4, Tryz.ntmps4
  go_wp2_with fail
  refine (szRoomZ_any ⟨A, B, U, R, L, n, m, nu, np, nl, c, d, cu, cp, cl⟩ r _ HX.out (HR.out.below (by repeat (first | exact Below.refl _ _ | assumption | (refine bstep ?_ (below_drewN _ _)) | exact bstep (by assumption) (by assumption) | (refine bstep ?_ (below_alloc _ _)) | (refine bstep ?_ (by assumption)) | (refine Below.setCell ?_ (by simp <;> omega) _) | refine Below.drew ?_ | (refine Below.trans ?_ (by assumption)))))).mono ?_
  rintro e w1 ⟨z1, rfl, hz1, hb1⟩
  have hs1 := hb1.size
  (try simp at hs1)
  have hy1_0 : w.heap.size < w1.heap.size := by omega
  have hk1_0 := fun o => hb1.cell (p := ⟨w.heap.size, o, none⟩) (by first | omega | (simp <;> omega))
  have hg1_0 := fun o => hb1.frozen (p := ⟨w.heap.size, o, none⟩) (by first | omega | (simp <;> omega))
  rcases hz1 with hz1 | ⟨hz1, hz1b, hsz⟩
  · go_wp2
    go_ret
    exact ⟨rfl, (by repeat (first | exact Below.refl _ _ | assumption | (refine bstep ?_ (below_drewN _ _)) | exact bstep (by assumption) (by assumption) | (refine bstep ?_ (below_alloc _ _)) | (refine bstep ?_ (by assumption)) | (refine Below.setCell ?_ (by simp <;> omega) _) | refine Below.drew ?_))⟩
  have SZ := Lib.hid hsz
  have hz1' : ¬ z1 < 0 := by omega
  clear hsz
  go_wp2_with fail
  refine (szJobS_any D k e z1 _ hz1 (by omega) HK9.out).mono ?_
  rintro e w2 ⟨rfl, hw2⟩
  have hb2 := below_same hw2
  clear hw2
  by_cases hkz : (k : Int) ≤ z1
  rotate_left
  · rw [show szOf z1 k = -1 from if_neg hkz]
    go_wp2
    go_ret
    exact ⟨rfl, (by repeat (first | exact Below.refl _ _ | assumption | (refine bstep ?_ (below_drewN _ _)) | exact bstep (by assumption) (by assumption) | (refine bstep ?_ (below_alloc _ _)) | (refine bstep ?_ (by assumption)) | (refine Below.setCell ?_ (by simp <;> omega) _) | refine Below.drew ?_))⟩
  have hzz : ¬ szOf z1 k < 0 := by unfold szOf; rw [if_pos hkz]; omega
  have HK : Hid (k ≤ 1048576) := Lib.hid (by omega)
  have hs2 := hb2.size
  (try simp at hs2)
  have hy2_0 : w.heap.size < w2.heap.size := by omega
  have hk2_0 := fun o => hb2.cell (p := ⟨w.heap.size, o, none⟩) (by first | omega | (simp <;> omega))
  have hg2_0 := fun o => hb2.frozen (p := ⟨w.heap.size, o, none⟩) (by first | omega | (simp <;> omega))
  obtain ⟨z2, hz2⟩ : ∃ y, y = szOf z1 k := ⟨_, rfl⟩
  have hz2a : 0 ≤ z2 ∧ z2 ≤ 1048576 := by rw [hz2]; unfold szOf; rw [if_pos hkz]; omega
  rw [← hz2]
  rw [← hz2] at hzz
  clear hz2
  go_wp2_with fail
  refine (szHeldS_any Z z cz z2 hs _ hz2a.1 hz2a.2 HZ9.out (HZ.out.below (by repeat (first | exact Below.refl _ _ | assumption | (refine bstep ?_ (below_drewN _ _)) | exact bstep (by assumption) (by assumption) | (refine bstep ?_ (below_alloc _ _)) | (refine bstep ?_ (by assumption)) | (refine Below.setCell ?_ (by simp <;> omega) _) | refine Below.drew ?_ | (refine Below.trans ?_ (by assumption)))))).mono ?_
  rintro e w3 ⟨z3, rfl, ha3, hc3, hd3, hb3⟩
  have hs3 := hb3.size
  (try simp at hs3)
  have hy3_0 : w.heap.size < w3.heap.size := by omega
  have hk3_0 := fun o => hb3.cell (p := ⟨w.heap.size, o, none⟩) (by first | omega | (simp <;> omega))
  have hg3_0 := fun o => hb3.frozen (p := ⟨w.heap.size, o, none⟩) (by first | omega | (simp <;> omega))
  by_cases hz3 : z3 < 0
  · go_wp2
    go_ret
    exact ⟨rfl, (by repeat (first | exact Below.refl _ _ | assumption | (refine bstep ?_ (below_drewN _ _)) | exact bstep (by assumption) (by assumption) | (refine bstep ?_ (below_alloc _ _)) | (refine bstep ?_ (by assumption)) | (refine Below.setCell ?_ (by simp <;> omega) _) | refine Below.drew ?_))⟩
  have HZZ := Lib.hid (hd3 (by omega))
  clear hd3 ha3 hc3
  go_wp2_with fail
  refine (toRoom_any ⟨A, B, U, R, L, n, m, nu, np, nl, c, d, cu, cp, cl⟩ r _ SZ.out (HR.out.below (by repeat (first | exact Below.refl _ _ | assumption | (refine bstep ?_ (below_drewN _ _)) | exact bstep (by assumption) (by assumption) | (refine bstep ?_ (below_alloc _ _)) | (refine bstep ?_ (by assumption)) | (refine Below.setCell ?_ (by simp <;> omega) _) | refine Below.drew ?_ | (refine Below.trans ?_ (by assumption)))))).mono ?_
  rintro e w4 ⟨⟨A4, B4, U4, R4, L4, n4, m4, nu4, np4, nl4, c4, d4, cu4, cp4, cl4⟩, xs4, rfl, own4, hb4⟩
  have hs4 := hb4.size
  (try simp at hs4)
  have hy4_0 : w.heap.size < w4.heap.size := by omega
  have hk4_0 := fun o => hb4.cell (p := ⟨w.heap.size, o, none⟩) (by first | omega | (simp <;> omega))
  have hg4_0 := fun o => hb4.frozen (p := ⟨w.heap.size, o, none⟩) (by first | omega | (simp <;> omega))
  have OR4 := Lib.hid own4
  have RG4 : Hid (∀ k, atQ ⟨A4, B4, U4, R4, L4, n4, m4, nu4, np4, nl4, c4, d4, cu4, cp4, cl4⟩ xs4 k → w3.heap.size ≤ k ∧ k < w4.heap.size) := Lib.hid (fun k hk => by have h9 := room_rng2 own4 k hk; (try simp at h9); omega)
  clear own4
  dsimp only [RA.v]
  go_wp2_with fail
  refine (toJobS_any D k e js _ HK.out (HD.out.below (by repeat (first | exact Below.refl _ _ | assumption | (refine bstep ?_ (below_drewN _ _)) | exact bstep (by assumption) (by assumption) | (refine bstep ?_ (below_alloc _ _)) | (refine bstep ?_ (by assumption)) | (refine Below.setCell ?_ (by simp <;> omega) _) | refine Below.drew ?_ | (refine Below.trans ?_ (by assumption)))))).mono ?_
  rintro e w5 ⟨v5, rfl, own5, hb5⟩
  have hs5 := hb5.size
  (try simp at hs5)
  have hy5_0 : w.heap.size < w5.heap.size := by omega
  have hk5_0 := fun o => hb5.cell (p := ⟨w.heap.size, o, none⟩) (by first | omega | (simp <;> omega))
  have hg5_0 := fun o => hb5.frozen (p := ⟨w.heap.size, o, none⟩) (by first | omega | (simp <;> omega))
  obtain ⟨V5, d5, rfl, _⟩ := own_rd own5
  have OI5 := Lib.hid own5
  have IG5 : Hid (∀ k, atB V5 k → w4.heap.size ≤ k ∧ k < w5.heap.size) := Lib.hid (fun k hk => by have h9 := own_rng own5 k hk; (try simp at h9); omega)
  clear own5
  go_wp2_with fail
  refine (toHeldS_any Z z cz hs _ HZZ.out.1 HZZ.out.2 (HZ.out.below (by repeat (first | exact Below.refl _ _ | assumption | (refine bstep ?_ (below_drewN _ _)) | exact bstep (by assumption) (by assumption) | (refine bstep ?_ (below_alloc _ _)) | (refine bstep ?_ (by assumption)) | (refine Below.setCell ?_ (by simp <;> omega) _) | refine Below.drew ?_ | (refine Below.trans ?_ (by assumption)))))).mono ?_
  rintro e w6 ⟨v6, ss6, rfl, own6, hb6⟩
  have hs6 := hb6.size
  (try simp at hs6)
  have hy6_0 : w.heap.size < w6.heap.size := by omega
  have hk6_0 := fun o => hb6.cell (p := ⟨w.heap.size, o, none⟩) (by first | omega | (simp <;> omega))
  have hg6_0 := fun o => hb6.frozen (p := ⟨w.heap.size, o, none⟩) (by first | omega | (simp <;> omega))
  obtain ⟨Z6, f6, rfl, _⟩ := own_rd own6.own
  have OZ6 := Lib.hid own6
  clear own6
  go_wp2_with fail
  refine (HSC.out HK.out HZZ.out.1 ⟨A4, B4, U4, R4, L4, n4, m4, nu4, np4, nl4, c4, d4, cu4, cp4, cl4⟩ xs4 _ V5 d5 _ Z6 f6 ss6 _ _ (OR4.out.bel (by repeat (first | exact Below.refl _ _ | assumption | (refine bstep ?_ (below_drewN _ _)) | exact bstep (by assumption) (by assumption) | (refine bstep ?_ (below_alloc _ _)) | (refine bstep ?_ (by assumption)) | (refine Below.setCell ?_ (by simp <;> omega) _) | refine Below.drew ?_ | (refine Below.trans ?_ (by assumption))))) (own_bel OI5.out (by repeat (first | exact Below.refl _ _ | assumption | (refine bstep ?_ (below_drewN _ _)) | exact bstep (by assumption) (by assumption) | (refine bstep ?_ (below_alloc _ _)) | (refine bstep ?_ (by assumption)) | (refine Below.setCell ?_ (by simp <;> omega) _) | refine Below.drew ?_ | (refine Below.trans ?_ (by assumption))))) (OZ6.out.bel (by repeat (first | exact Below.refl _ _ | assumption | (refine bstep ?_ (below_drewN _ _)) | exact bstep (by assumption) (by assumption) | (refine bstep ?_ (below_alloc _ _)) | (refine bstep ?_ (by assumption)) | (refine Below.setCell ?_ (by simp <;> omega) _) | refine Below.drew ?_ | (refine Below.trans ?_ (by assumption)))))).mono ?_
  rintro e w7 ⟨rfl, hb7⟩
  have hs7 := hb7.size
  (try simp at hs7)
  have hy7_0 : w.heap.size < w7.heap.size := by omega
  have hk7_0 := fun o => hb7.cell (p := ⟨w.heap.size, o, none⟩) (by first | omega | (simp <;> omega))
  have hg7_0 := fun o => hb7.frozen (p := ⟨w.heap.size, o, none⟩) (by first | omega | (simp <;> omega))
  go_wp2_with fail
  refine (toRoom_any ⟨A, B, U, R, L, n, m, nu, np, nl, c, d, cu, cp, cl⟩ r _ SZ.out (HR.out.below (by repeat (first | exact Below.refl _ _ | assumption | (refine bstep ?_ (below_drewN _ _)) | exact bstep (by assumption) (by assumption) | (refine bstep ?_ (below_alloc _ _)) | (refine bstep ?_ (by assumption)) | (refine Below.setCell ?_ (by simp <;> omega) _) | refine Below.drew ?_ | (refine Below.trans ?_ (by assumption)))))).mono ?_
  rintro e w8 ⟨⟨A8, B8, U8, R8, L8, n8, m8, nu8, np8, nl8, c8, d8, cu8, cp8, cl8⟩, xs8, rfl, own8, hb8⟩
  have hs8 := hb8.size
  (try simp at hs8)
  have hy8_0 : w.heap.size < w8.heap.size := by omega
  have hk8_0 := fun o => hb8.cell (p := ⟨w.heap.size, o, none⟩) (by first | omega | (simp <;> omega))
  have hg8_0 := fun o => hb8.frozen (p := ⟨w.heap.size, o, none⟩) (by first | omega | (simp <;> omega))
  have OR8 := Lib.hid own8
  have RG8 : Hid (∀ k, atQ ⟨A8, B8, U8, R8, L8, n8, m8, nu8, np8, nl8, c8, d8, cu8, cp8, cl8⟩ xs8 k → w7.heap.size ≤ k ∧ k < w8.heap.size) := Lib.hid (fun k hk => by have h9 := room_rng2 own8 k hk; (try simp at h9); omega)
  clear own8
  dsimp only [RA.v]
  go_wp2_with fail
  refine (toJobS_any D k e js _ HK.out (HD.out.below (by repeat (first | exact Below.refl _ _ | assumption | (refine bstep ?_ (below_drewN _ _)) | exact bstep (by assumption) (by assumption) | (refine bstep ?_ (below_alloc _ _)) | (refine bstep ?_ (by assumption)) | (refine Below.setCell ?_ (by simp <;> omega) _) | refine Below.drew ?_ | (refine Below.trans ?_ (by assumption)))))).mono ?_
  rintro e w9 ⟨v9, rfl, own9, hb9⟩
  have hs9 := hb9.size
  (try simp at hs9)
  have hy9_0 : w.heap.size < w9.heap.size := by omega
  have hk9_0 := fun o => hb9.cell (p := ⟨w.heap.size, o, none⟩) (by first | omega | (simp <;> omega))
  have hg9_0 := fun o => hb9.frozen (p := ⟨w.heap.size, o, none⟩) (by first | omega | (simp <;> omega))
  have hy9_1 : w8.heap.size < w9.heap.size := by omega
  have hk9_1 := fun o => hb9.cell (p := ⟨w8.heap.size, o, none⟩) (by first | omega | (simp <;> omega))
  have hg9_1 := fun o => hb9.frozen (p := ⟨w8.heap.size, o, none⟩) (by first | omega | (simp <;> omega))
  obtain ⟨V9, d9, rfl, _⟩ := own_rd own9
  have OI9 := Lib.hid own9
  have IG9 : Hid (∀ k, atB V9 k → w8.heap.size + 1 ≤ k ∧ k < w9.heap.size) := Lib.hid (fun k hk => by have h9 := own_rng own9 k hk; (try simp at h9); omega)
  clear own9
  go_wp2_with fail
  refine (toHeldS_any Z z cz hs _ HZZ.out.1 HZZ.out.2 (HZ.out.below (by repeat (first | exact Below.refl _ _ | assumption | (refine bstep ?_ (below_drewN _ _)) | exact bstep (by assumption) (by assumption) | (refine bstep ?_ (below_alloc _ _)) | (refine bstep ?_ (by assumption)) | (refine Below.setCell ?_ (by simp <;> omega) _) | refine Below.drew ?_ | (refine Below.trans ?_ (by assumption)))))).mono ?_
  rintro e w10 ⟨v10, ss10, rfl, own10, hb10⟩
  have hs10 := hb10.size
  (try simp at hs10)
  have hy10_0 : w.heap.size < w10.heap.size := by omega
  have hk10_0 := fun o => hb10.cell (p := ⟨w.heap.size, o, none⟩) (by first | omega | (simp <;> omega))
  have hg10_0 := fun o => hb10.frozen (p := ⟨w.heap.size, o, none⟩) (by first | omega | (simp <;> omega))
  have hy10_1 : w8.heap.size < w10.heap.size := by omega
  have hk10_1 := fun o => hb10.cell (p := ⟨w8.heap.size, o, none⟩) (by first | omega | (simp <;> omega))
  have hg10_1 := fun o => hb10.frozen (p := ⟨w8.heap.size, o, none⟩) (by first | omega | (simp <;> omega))
  obtain ⟨Z10, f10, rfl, _⟩ := own_rd own10.own
  have OZ10 := Lib.hid own10
  clear own10
  go_wp2_with fail
  refine (HIC.out HK.out HZZ.out.1 ⟨A8, B8, U8, R8, L8, n8, m8, nu8, np8, nl8, c8, d8, cu8, cp8, cl8⟩ xs8 _ V9 d9 _ Z10 f10 ss10 _ _ (OR8.out.bel (by repeat (first | exact Below.refl _ _ | assumption | (refine bstep ?_ (below_drewN _ _)) | exact bstep (by assumption) (by assumption) | (refine bstep ?_ (below_alloc _ _)) | (refine bstep ?_ (by assumption)) | (refine Below.setCell ?_ (by simp <;> omega) _) | refine Below.drew ?_ | (refine Below.trans ?_ (by assumption))))) (own_bel OI9.out (by repeat (first | exact Below.refl _ _ | assumption | (refine bstep ?_ (below_drewN _ _)) | exact bstep (by assumption) (by assumption) | (refine bstep ?_ (below_alloc _ _)) | (refine bstep ?_ (by assumption)) | (refine Below.setCell ?_ (by simp <;> omega) _) | refine Below.drew ?_ | (refine Below.trans ?_ (by assumption))))) (OZ10.out.bel (by repeat (first | exact Below.refl _ _ | assumption | (refine bstep ?_ (below_drewN _ _)) | exact bstep (by assumption) (by assumption) | (refine bstep ?_ (below_alloc _ _)) | (refine bstep ?_ (by assumption)) | (refine Below.setCell ?_ (by simp <;> omega) _) | refine Below.drew ?_ | (refine Below.trans ?_ (by assumption)))))).mono ?_
  rintro e w11 ⟨rfl, hb11⟩
  have hs11 := hb11.size
  (try simp at hs11)
  have hy11_0 : w.heap.size < w11.heap.size := by omega
  have hk11_0 := fun o => hb11.cell (p := ⟨w.heap.size, o, none⟩) (by first | omega | (simp <;> omega))
  have hg11_0 := fun o => hb11.frozen (p := ⟨w.heap.size, o, none⟩) (by first | omega | (simp <;> omega))
  have hy11_1 : w8.heap.size < w11.heap.size := by omega
  have hk11_1 := fun o => hb11.cell (p := ⟨w8.heap.size, o, none⟩) (by first | omega | (simp <;> omega))
  have hg11_1 := fun o => hb11.frozen (p := ⟨w8.heap.size, o, none⟩) (by first | omega | (simp <;> omega))
  go_wp2_with fail
  go_region_held3 (fun w' => w'.cell? ⟨w.heap.size, 0, none⟩ = some (.slice A n c) ∧ w'.cell? ⟨w.heap.size, 1, none⟩ = some (.slice B m d) ∧ w'.cell? ⟨w.heap.size, 2, none⟩ = some (.slice U nu cu) ∧ w'.cell? ⟨w.heap.size, 3, none⟩ = some (.slice R np cp) ∧ w'.cell? ⟨w.heap.size, 4, none⟩ = some (.slice L nl cl) ∧ w'.cell? ⟨w8.heap.size, 0, none⟩ = some (.slice A8 n8 c8) ∧ w'.cell? ⟨w8.heap.size, 1, none⟩ = some (.slice B8 m8 d8) ∧ w'.cell? ⟨w8.heap.size, 2, none⟩ = some (.slice U8 nu8 cu8) ∧ w'.cell? ⟨w8.heap.size, 3, none⟩ = some (.slice R8 np8 cp8) ∧ w'.cell? ⟨w8.heap.size, 4, none⟩ = some (.slice L8 nl8 cl8)) (simp [go_sem, *, World.cell?_alloc_some, World.cell?_setCell_far, Nat.lt_add_right, Nat.ne_of_gt]) (first | (go_at_call 19; refine (toRoom_any ⟨A, B, U, R, L, n, m, nu, np, nl, c, d, cu, cp, cl⟩ r _ SZ.out (HR.out.below (by repeat (first | exact Below.refl _ _ | assumption | (refine bstep ?_ (below_drewN _ _)) | exact bstep (by assumption) (by assumption) | (refine bstep ?_ (below_alloc _ _)) | (refine bstep ?_ (by assumption)) | (refine Below.setCell ?_ (by simp <;> omega) _) | refine Below.drew ?_ | (refine Below.trans ?_ (by assumption)))))).mono ?_; rintro e w12 ⟨⟨A12, B12, U12, R12, L12, n12, m12, nu12, np12, nl12, c12, d12, cu12, cp12, cl12⟩, xs12, rfl, own12, hb12⟩; have hs12 := hb12.size; (try simp at hs12); have hy12_0 : w.heap.size < w12.heap.size := (by omega); have hk12_0 := fun o => hb12.cell (p := ⟨w.heap.size, o, none⟩) (by first | omega | (simp <;> omega)); have hg12_0 := fun o => hb12.frozen (p := ⟨w.heap.size, o, none⟩) (by first | omega | (simp <;> omega)); have hy12_1 : w8.heap.size < w12.heap.size := (by omega); have hk12_1 := fun o => hb12.cell (p := ⟨w8.heap.size, o, none⟩) (by first | omega | (simp <;> omega)); have hg12_1 := fun o => hb12.frozen (p := ⟨w8.heap.size, o, none⟩) (by first | omega | (simp <;> omega)); have OR12 := Lib.hid own12; have RG12 : Hid (∀ k, atQ ⟨A12, B12, U12, R12, L12, n12, m12, nu12, np12, nl12, c12, d12, cu12, cp12, cl12⟩ xs12 k → w11.heap.size ≤ k ∧ k < w12.heap.size) := Lib.hid (fun k hk => by have h9 := room_rng2 own12 k hk; (try simp at h9); omega); clear own12; dsimp only [RA.v]) | (go_at_call 22; refine (eqRoom_any ⟨A8, B8, U8, R8, L8, n8, m8, nu8, np8, nl8, c8, d8, cu8, cp8, cl8⟩ ⟨A12, B12, U12, R12, L12, n12, m12, nu12, np12, nl12, c12, d12, cu12, cp12, cl12⟩ r _ (OR8.out.bel (by repeat (first | exact Below.refl _ _ | assumption | (refine bstep ?_ (below_drewN _ _)) | exact bstep (by assumption) (by assumption) | (refine bstep ?_ (below_alloc _ _)) | (refine bstep ?_ (by assumption)) | (refine Below.setCell ?_ (by simp <;> omega) _) | refine Below.drew ?_ | (refine Below.trans ?_ (by assumption))))).rd (OR12.out.bel (by repeat (first | exact Below.refl _ _ | assumption | (refine bstep ?_ (below_drewN _ _)) | exact bstep (by assumption) (by assumption) | (refine bstep ?_ (below_alloc _ _)) | (refine bstep ?_ (by assumption)) | (refine Below.setCell ?_ (by simp <;> omega) _) | refine Below.drew ?_ | (refine Below.trans ?_ (by assumption))))).rd).mono ?_; rintro e w13 ⟨rfl, hb13⟩; have hs13 := hb13.size; (try simp at hs13); have hy13_0 : w.heap.size < w13.heap.size := (by omega); have hk13_0 := fun o => hb13.cell (p := ⟨w.heap.size, o, none⟩) (by first | omega | (simp <;> omega)); have hg13_0 := fun o => hb13.frozen (p := ⟨w.heap.size, o, none⟩) (by first | omega | (simp <;> omega)); have hy13_1 : w8.heap.size < w13.heap.size := (by omega); have hk13_1 := fun o => hb13.cell (p := ⟨w8.heap.size, o, none⟩) (by first | omega | (simp <;> omega)); have hg13_1 := fun o => hb13.frozen (p := ⟨w8.heap.size, o, none⟩) (by first | omega | (simp <;> omega))))
  go_wp2_with fail
  refine (toJobS_any D k e js _ HK.out (HD.out.below (by repeat (first | exact Below.refl _ _ | assumption | (refine bstep ?_ (below_drewN _ _)) | exact bstep (by assumption) (by assumption) | (refine bstep ?_ (below_alloc _ _)) | (refine bstep ?_ (by assumption)) | (refine Below.setCell ?_ (by simp <;> omega) _) | refine Below.drew ?_ | (refine Below.trans ?_ (by assumption)))))).mono ?_
  rintro e w14 ⟨v14, rfl, own14, hb14⟩
  have hs14 := hb14.size
  (try simp at hs14)
  have hy14_0 : w.heap.size < w14.heap.size := by omega
  have hk14_0 := fun o => hb14.cell (p := ⟨w.heap.size, o, none⟩) (by first | omega | (simp <;> omega))
  have hg14_0 := fun o => hb14.frozen (p := ⟨w.heap.size, o, none⟩) (by first | omega | (simp <;> omega))
  have hy14_1 : w8.heap.size < w14.heap.size := by omega
  have hk14_1 := fun o => hb14.cell (p := ⟨w8.heap.size, o, none⟩) (by first | omega | (simp <;> omega))
  have hg14_1 := fun o => hb14.frozen (p := ⟨w8.heap.size, o, none⟩) (by first | omega | (simp <;> omega))
  obtain ⟨V14, d14, rfl, _⟩ := own_rd own14
  have OI14 := Lib.hid own14
  have IG14 : Hid (∀ k, atB V14 k → w13.heap.size ≤ k ∧ k < w14.heap.size) := Lib.hid (fun k hk => by have h9 := own_rng own14 k hk; (try simp at h9); omega)
  clear own14
  go_wp2_with fail
  refine (eqJobS_any V9 V14 k d9 d14 js _ (Nat.le_trans HK.out (by decide)) (own_rdd' (own_bel OI9.out (by repeat (first | exact Below.refl _ _ | assumption | (refine bstep ?_ (below_drewN _ _)) | exact bstep (by assumption) (by assumption) | (refine bstep ?_ (below_alloc _ _)) | (refine bstep ?_ (by assumption)) | (refine Below.setCell ?_ (by simp <;> omega) _) | refine Below.drew ?_ | (refine Below.trans ?_ (by assumption)))))) (own_rdd' (own_bel OI14.out (by repeat (first | exact Below.refl _ _ | assumption | (refine bstep ?_ (below_drewN _ _)) | exact bstep (by assumption) (by assumption) | (refine bstep ?_ (below_alloc _ _)) | (refine bstep ?_ (by assumption)) | (refine Below.setCell ?_ (by simp <;> omega) _) | refine Below.drew ?_ | (refine Below.trans ?_ (by assumption)))))) (own_blk (own_bel OI9.out (by repeat (first | exact Below.refl _ _ | assumption | (refine bstep ?_ (below_drewN _ _)) | exact bstep (by assumption) (by assumption) | (refine bstep ?_ (below_alloc _ _)) | (refine bstep ?_ (by assumption)) | (refine Below.setCell ?_ (by simp <;> omega) _) | refine Below.drew ?_ | (refine Below.trans ?_ (by assumption)))))) (own_blk (own_bel OI14.out (by repeat (first | exact Below.refl _ _ | assumption | (refine bstep ?_ (below_drewN _ _)) | exact bstep (by assumption) (by assumption) | (refine bstep ?_ (below_alloc _ _)) | (refine bstep ?_ (by assumption)) | (refine Below.setCell ?_ (by simp <;> omega) _) | refine Below.drew ?_ | (refine Below.trans ?_ (by assumption))))))).mono ?_
  rintro e w15 ⟨rfl, hb15⟩
  have hs15 := hb15.size
  (try simp at hs15)
  have hy15_0 : w.heap.size < w15.heap.size := by omega
  have hk15_0 := fun o => hb15.cell (p := ⟨w.heap.size, o, none⟩) (by first | omega | (simp <;> omega))
  have hg15_0 := fun o => hb15.frozen (p := ⟨w.heap.size, o, none⟩) (by first | omega | (simp <;> omega))
  have hy15_1 : w8.heap.size < w15.heap.size := by omega
  have hk15_1 := fun o => hb15.cell (p := ⟨w8.heap.size, o, none⟩) (by first | omega | (simp <;> omega))
  have hg15_1 := fun o => hb15.frozen (p := ⟨w8.heap.size, o, none⟩) (by first | omega | (simp <;> omega))
  go_wp2_with fail
  refine (toHeldS_any Z z cz hs _ HZZ.out.1 HZZ.out.2 (HZ.out.below (by repeat (first | exact Below.refl _ _ | assumption | (refine bstep ?_ (below_drewN _ _)) | exact bstep (by assumption) (by assumption) | (refine bstep ?_ (below_alloc _ _)) | (refine bstep ?_ (by assumption)) | (refine Below.setCell ?_ (by simp <;> omega) _) | refine Below.drew ?_ | (refine Below.trans ?_ (by assumption)))))).mono ?_
  rintro e w16 ⟨v16, ss16, rfl, own16, hb16⟩
  have hs16 := hb16.size
  (try simp at hs16)
  have hy16_0 : w.heap.size < w16.heap.size := by omega
  have hk16_0 := fun o => hb16.cell (p := ⟨w.heap.size, o, none⟩) (by first | omega | (simp <;> omega))
  have hg16_0 := fun o => hb16.frozen (p := ⟨w.heap.size, o, none⟩) (by first | omega | (simp <;> omega))
  have hy16_1 : w8.heap.size < w16.heap.size := by omega
  have hk16_1 := fun o => hb16.cell (p := ⟨w8.heap.size, o, none⟩) (by first | omega | (simp <;> omega))
  have hg16_1 := fun o => hb16.frozen (p := ⟨w8.heap.size, o, none⟩) (by first | omega | (simp <;> omega))
  obtain ⟨Z16, f16, rfl, _⟩ := own_rd own16.own
  have OZ16 := Lib.hid own16
  clear own16
  go_wp2_with fail
  refine (eqHeldS_any Z10 Z16 z f10 f16 _ _ ss10 ss16 hs _ (Nat.le_trans HZZ.out.1 (by decide)) (OZ10.out.bel (by repeat (first | exact Below.refl _ _ | assumption | (refine bstep ?_ (below_drewN _ _)) | exact bstep (by assumption) (by assumption) | (refine bstep ?_ (below_alloc _ _)) | (refine bstep ?_ (by assumption)) | (refine Below.setCell ?_ (by simp <;> omega) _) | refine Below.drew ?_ | (refine Below.trans ?_ (by assumption))))) (OZ16.out.bel (by repeat (first | exact Below.refl _ _ | assumption | (refine bstep ?_ (below_drewN _ _)) | exact bstep (by assumption) (by assumption) | (refine bstep ?_ (below_alloc _ _)) | (refine bstep ?_ (by assumption)) | (refine Below.setCell ?_ (by simp <;> omega) _) | refine Below.drew ?_ | (refine Below.trans ?_ (by assumption)))))).mono ?_
  rintro e w17 ⟨rfl, hb17⟩
  have hs17 := hb17.size
  (try simp at hs17)
  have hy17_0 : w.heap.size < w17.heap.size := by omega
  have hk17_0 := fun o => hb17.cell (p := ⟨w.heap.size, o, none⟩) (by first | omega | (simp <;> omega))
  have hg17_0 := fun o => hb17.frozen (p := ⟨w.heap.size, o, none⟩) (by first | omega | (simp <;> omega))
  have hy17_1 : w8.heap.size < w17.heap.size := by omega
  have hk17_1 := fun o => hb17.cell (p := ⟨w8.heap.size, o, none⟩) (by first | omega | (simp <;> omega))
  have hg17_1 := fun o => hb17.frozen (p := ⟨w8.heap.size, o, none⟩) (by first | omega | (simp <;> omega))
  go_wp2
  go_ret
  exact ⟨rfl, (by repeat (first | exact Below.refl _ _ | assumption | (refine bstep ?_ (below_drewN _ _)) | exact bstep (by assumption) (by assumption) | (refine bstep ?_ (below_alloc _ _)) | (refine bstep ?_ (by assumption)) | (refine Below.setCell ?_ (by simp <;> omega) _) | refine Below.drew ?_ | (refine Below.trans ?_ (by assumption))))⟩
end Go.Proofs.YtnphjhbfpoekpaaGreat
