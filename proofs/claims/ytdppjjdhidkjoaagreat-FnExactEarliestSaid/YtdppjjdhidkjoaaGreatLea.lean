/-
  The law of Earliest.
-/
import Derived.Test.YtdppjjdhidkjoaaGreatEd
import Derived.Test.YtdppjjdhidkjoaaGreatVk
import Derived.Test.YtdppjjdhidkjoaaGreatA22
import Derived.Test.YtdppjjdhidkjoaaGreatA3
import Derived.Test.YtdppjjdhidkjoaaGreatA0
import Derived.Deep.RegionHeld3
namespace Go.Proofs.YtdppjjdhidkjoaaGreat
set_option linter.unusedSimpArgs false
set_option linter.unusedVariables false
set_option linter.unnecessarySimpa false
open Go.RowKit
theorem earl_len (r : Rm) (j : J) (f : Int) : (eL (earlV r j f)).length ≤ 24 := by
  unfold eL
  cases h : earlV r j f with
  | none => simp
  | some p =>
    obtain ⟨t, nd⟩ := p
    obtain ⟨hr, hj, _, _, ht, _⟩ := earl_some h
    obtain ⟨_, _, n1, n2, _, _⟩ := job_wl hj
    unfold tryV at ht
    split at ht
    · obtain ⟨_, _, _, _, hlen, _⟩ := choose_some (elig_in hr).2.1 ht
      show nd.length ≤ 24
      omega
    · cases ht

set_option maxHeartbeats 16000000 in
set_option maxRecDepth 20000 in
theorem law_earliest (a : RA) (r : Rm) (j : J) (f : Int) (w : World) (hx : RmMax a) (hr : RoomIn w a r) :
    Calls Tryz.prog 11 #[a.v, .agg #[.int .i64 j.id, .int .i64 j.pr, .int .i64 j.nn, .int .i64 j.na, .int .i64 j.nb, .int .i64 j.nc, .int .i64 j.la, .int .i64 j.lb, .int .i64 j.lc, .int .i64 j.wl, .int .i64 j.lv], .int .i64 f] w fun e w' => e = .returned (.bool true) ∧ Below w.heap.size w w' := by
  obtain ⟨A, B, U, R, L, n, m, nu, np, nl, c, d, cu, cp, cl⟩ := a
  dsimp only [RA.v]
  have HX := Lib.hid hx
  have HR := Lib.hid hr
  obtain ⟨EV, hEV⟩ : ∃ y, y = eL (earlV r j f) := ⟨_, rfl⟩
  obtain ⟨ET, hET⟩ : ∃ y, y = eT (earlV r j f) := ⟨_, rfl⟩
  obtain ⟨EB, hEB⟩ : ∃ y, y = (earlV r j f).isSome := ⟨_, rfl⟩
  have hlen : EV.length ≤ 1048577 := by rw [hEV]; have := earl_len r j f; omega
  have hq1 : 0 ≤ 1 + 1 * (EV.length : Int) := by omega
  have hq3 : 0 ≤ 1 + (EV.length : Int) := by omega
  have HLE := Lib.hid hlen
  have HSC : Hid (∀ (a' : RA) (xs : List Value) (lo : Nat) (W : World), RoomOwn W lo a' r xs → Calls Tryz.prog 18 #[a'.v, .agg #[.int .i64 j.id, .int .i64 j.pr, .int .i64 j.nn, .int .i64 j.na, .int .i64 j.nb, .int .i64 j.nc, .int .i64 j.la, .int .i64 j.lb, .int .i64 j.lc, .int .i64 j.wl, .int .i64 j.lv], .int .i64 f] W fun e W' => ∃ v, e = .returned (.tuple #[.int .i64 ET, v, .bool EB]) ∧ W'.ownsRow W.heap.size 3 1 v EV.length (ints EV) ∧ Below W.heap.size W W') := Lib.hid (fun a' xs lo W h => by rw [hET, hEV, hEB]; exact sEarliest_any a' r xs lo j f W h)
  have HIC : Hid (∀ (a' : RA) (xs : List Value) (lo : Nat) (W : World), RoomOwn W lo a' r xs → Calls Tryz.prog 17 #[a'.v, .agg #[.int .i64 j.id, .int .i64 j.pr, .int .i64 j.nn, .int .i64 j.na, .int .i64 j.nb, .int .i64 j.nc, .int .i64 j.la, .int .i64 j.lb, .int .i64 j.lc, .int .i64 j.wl, .int .i64 j.lv], .int .i64 f] W fun e W' => ∃ v, e = .returned (.tuple #[.int .i64 ET, v, .bool EB]) ∧ W'.ownsRow W.heap.size 3 1 v EV.length (ints EV) ∧ Below W.heap.size W W') := Lib.hid (fun a' xs lo W h => by rw [hET, hEV, hEB]; exact Earliest_any a' r xs lo j f W h)
  clear hx hr hEV hET hEB hlen
  go_enter Tryz.func11, Tryz.ntmps11
  go_wp2_with fail
  refine (szRoom_any ⟨A, B, U, R, L, n, m, nu, np, nl, c, d, cu, cp, cl⟩ r _ HX.out (HR.out.below (by repeat (first | exact Below.refl _ _ | assumption | (refine bstep ?_ (below_drewN _ _)) | exact bstep (by assumption) (by assumption) | (refine bstep ?_ (below_alloc _ _)) | (refine bstep ?_ (by assumption)) | (refine Below.setCell ?_ (by simp <;> omega) _) | refine Below.drew ?_ | (refine Below.trans ?_ (by assumption)))))).mono ?_
  rintro e w1 ⟨z1, rfl, hz1, hb1⟩
  have hs1 := hb1.size
  (try simp at hs1)
  have hy1_0 : w.heap.size < w1.heap.size := by omega
  have hk1_0 := fun o => hb1.cell (p := ⟨w.heap.size, o, none⟩) (by first | omega | (simp <;> omega))
  have hg1_0 := fun o => hb1.frozen (p := ⟨w.heap.size, o, none⟩) (by first | omega | (simp <;> omega))
  have hy1_1 : w.heap.size + 1 < w1.heap.size := by omega
  have hk1_1 := fun o => hb1.cell (p := ⟨w.heap.size + 1, o, none⟩) (by first | omega | (simp <;> omega))
  have hg1_1 := fun o => hb1.frozen (p := ⟨w.heap.size + 1, o, none⟩) (by first | omega | (simp <;> omega))
  rcases hz1 with hz1 | ⟨hz1, hsz⟩
  · go_wp2
    go_ret
    exact ⟨rfl, (by repeat (first | exact Below.refl _ _ | assumption | (refine bstep ?_ (below_drewN _ _)) | exact bstep (by assumption) (by assumption) | (refine bstep ?_ (below_alloc _ _)) | (refine bstep ?_ (by assumption)) | (refine Below.setCell ?_ (by simp <;> omega) _) | refine Below.drew ?_))⟩
  have SZ := Lib.hid hsz
  have hz1' : ¬ z1 < 0 := by omega
  clear hsz
  go_wp2_with fail
  go_region_held3 (fun w' => w'.cell? ⟨w.heap.size, 0, none⟩ = some (.slice A n c) ∧ w'.cell? ⟨w.heap.size, 1, none⟩ = some (.slice B m d) ∧ w'.cell? ⟨w.heap.size, 2, none⟩ = some (.slice U nu cu) ∧ w'.cell? ⟨w.heap.size, 3, none⟩ = some (.slice R np cp) ∧ w'.cell? ⟨w.heap.size, 4, none⟩ = some (.slice L nl cl) ∧ w'.cell? ⟨w.heap.size + 1, 0, none⟩ = some (.int .i64 j.id) ∧ w'.cell? ⟨w.heap.size + 1, 1, none⟩ = some (.int .i64 j.pr) ∧ w'.cell? ⟨w.heap.size + 1, 2, none⟩ = some (.int .i64 j.nn) ∧ w'.cell? ⟨w.heap.size + 1, 3, none⟩ = some (.int .i64 j.na) ∧ w'.cell? ⟨w.heap.size + 1, 4, none⟩ = some (.int .i64 j.nb) ∧ w'.cell? ⟨w.heap.size + 1, 5, none⟩ = some (.int .i64 j.nc) ∧ w'.cell? ⟨w.heap.size + 1, 6, none⟩ = some (.int .i64 j.la) ∧ w'.cell? ⟨w.heap.size + 1, 7, none⟩ = some (.int .i64 j.lb) ∧ w'.cell? ⟨w.heap.size + 1, 8, none⟩ = some (.int .i64 j.lc) ∧ w'.cell? ⟨w.heap.size + 1, 9, none⟩ = some (.int .i64 j.wl) ∧ w'.cell? ⟨w.heap.size + 1, 10, none⟩ = some (.int .i64 j.lv)) (simp [go_sem, *, World.cell?_alloc_some, World.cell?_setCell_far, Nat.lt_add_right, Nat.ne_of_gt]) (first | (go_at_call 37; refine (toRoom_any ⟨A, B, U, R, L, n, m, nu, np, nl, c, d, cu, cp, cl⟩ r _ SZ.out (HR.out.below (by repeat (first | exact Below.refl _ _ | assumption | (refine bstep ?_ (below_drewN _ _)) | exact bstep (by assumption) (by assumption) | (refine bstep ?_ (below_alloc _ _)) | (refine bstep ?_ (by assumption)) | (refine Below.setCell ?_ (by simp <;> omega) _) | refine Below.drew ?_ | (refine Below.trans ?_ (by assumption)))))).mono ?_; rintro e w2 ⟨⟨A2, B2, U2, R2, L2, n2, m2, nu2, np2, nl2, c2, d2, cu2, cp2, cl2⟩, xs2, rfl, own2, hb2⟩; have hs2 := hb2.size; (try simp at hs2); have hy2_0 : w.heap.size < w2.heap.size := (by omega); have hk2_0 := fun o => hb2.cell (p := ⟨w.heap.size, o, none⟩) (by first | omega | (simp <;> omega)); have hg2_0 := fun o => hb2.frozen (p := ⟨w.heap.size, o, none⟩) (by first | omega | (simp <;> omega)); have hy2_1 : w.heap.size + 1 < w2.heap.size := (by omega); have hk2_1 := fun o => hb2.cell (p := ⟨w.heap.size + 1, o, none⟩) (by first | omega | (simp <;> omega)); have hg2_1 := fun o => hb2.frozen (p := ⟨w.heap.size + 1, o, none⟩) (by first | omega | (simp <;> omega)); have OR2 := Lib.hid own2; clear own2; dsimp only [RA.v]) | (go_at_call 38; refine (toJob_any j _).mono ?_; rintro e w3 ⟨rfl, hb3⟩; have hs3 := hb3.size; (try simp at hs3); have hy3_0 : w.heap.size < w3.heap.size := (by omega); have hk3_0 := fun o => hb3.cell (p := ⟨w.heap.size, o, none⟩) (by first | omega | (simp <;> omega)); have hg3_0 := fun o => hb3.frozen (p := ⟨w.heap.size, o, none⟩) (by first | omega | (simp <;> omega)); have hy3_1 : w.heap.size + 1 < w3.heap.size := (by omega); have hk3_1 := fun o => hb3.cell (p := ⟨w.heap.size + 1, o, none⟩) (by first | omega | (simp <;> omega)); have hg3_1 := fun o => hb3.frozen (p := ⟨w.heap.size + 1, o, none⟩) (by first | omega | (simp <;> omega))) | (go_at_call 18; refine (HSC.out ⟨A2, B2, U2, R2, L2, n2, m2, nu2, np2, nl2, c2, d2, cu2, cp2, cl2⟩ xs2 _ _ (OR2.out.bel (by repeat (first | exact Below.refl _ _ | assumption | (refine bstep ?_ (below_drewN _ _)) | exact bstep (by assumption) (by assumption) | (refine bstep ?_ (below_alloc _ _)) | (refine bstep ?_ (by assumption)) | (refine Below.setCell ?_ (by simp <;> omega) _) | refine Below.drew ?_ | (refine Below.trans ?_ (by assumption)))))).mono ?_; rintro e w4 ⟨v4, rfl, own4, hb4⟩; have hs4 := hb4.size; (try simp at hs4); have hy4_0 : w.heap.size < w4.heap.size := (by omega); have hk4_0 := fun o => hb4.cell (p := ⟨w.heap.size, o, none⟩) (by first | omega | (simp <;> omega)); have hg4_0 := fun o => hb4.frozen (p := ⟨w.heap.size, o, none⟩) (by first | omega | (simp <;> omega)); have hy4_1 : w.heap.size + 1 < w4.heap.size := (by omega); have hk4_1 := fun o => hb4.cell (p := ⟨w.heap.size + 1, o, none⟩) (by first | omega | (simp <;> omega)); have hg4_1 := fun o => hb4.frozen (p := ⟨w.heap.size + 1, o, none⟩) (by first | omega | (simp <;> omega)); obtain ⟨G4, h4, rfl, rd_G4⟩ := own_rd own4; have RDG4 := Lib.hid rd_G4; have HLG4 := Lib.hid (own_blk own4); have RGG4 : Hid (∀ k, atB G4 k → w3.heap.size ≤ k ∧ k < w4.heap.size) := Lib.hid (fun k hk => ⟨by have h9 := (own_rng own4 k hk).1; (try simp at h9); omega, (own_rng own4 k hk).2⟩); have OWG4 := Lib.hid own4; clear rd_G4 own4))
  go_wp2_with fail
  refine (toRoom_any ⟨A, B, U, R, L, n, m, nu, np, nl, c, d, cu, cp, cl⟩ r _ SZ.out (HR.out.below (by repeat (first | exact Below.refl _ _ | assumption | (refine bstep ?_ (below_drewN _ _)) | exact bstep (by assumption) (by assumption) | (refine bstep ?_ (below_alloc _ _)) | (refine bstep ?_ (by assumption)) | (refine Below.setCell ?_ (by simp <;> omega) _) | refine Below.drew ?_ | (refine Below.trans ?_ (by assumption)))))).mono ?_
  rintro e w5 ⟨⟨A5, B5, U5, R5, L5, n5, m5, nu5, np5, nl5, c5, d5, cu5, cp5, cl5⟩, xs5, rfl, own5, hb5⟩
  have hs5 := hb5.size
  (try simp at hs5)
  have hy5_0 : w.heap.size < w5.heap.size := by omega
  have hk5_0 := fun o => hb5.cell (p := ⟨w.heap.size, o, none⟩) (by first | omega | (simp <;> omega))
  have hg5_0 := fun o => hb5.frozen (p := ⟨w.heap.size, o, none⟩) (by first | omega | (simp <;> omega))
  have hy5_1 : w.heap.size + 1 < w5.heap.size := by omega
  have hk5_1 := fun o => hb5.cell (p := ⟨w.heap.size + 1, o, none⟩) (by first | omega | (simp <;> omega))
  have hg5_1 := fun o => hb5.frozen (p := ⟨w.heap.size + 1, o, none⟩) (by first | omega | (simp <;> omega))
  have OR5 := Lib.hid own5
  clear own5
  dsimp only [RA.v]
  have RGX : Hid (∀ k, atR ⟨A5, B5, U5, R5, L5, n5, m5, nu5, np5, nl5, c5, d5, cu5, cp5, cl5⟩ xs5 k → w4.heap.size ≤ k ∧ k < w5.heap.size) := Lib.hid (fun k hk => by have h9 := room_rng OR5.out k hk; (try simp at h9); omega)
  go_wp2_with fail
  go_region_held3 (fun w' => w'.cell? ⟨w5.heap.size, 0, none⟩ = some (.slice A5 n5 c5) ∧ w'.cell? ⟨w5.heap.size, 1, none⟩ = some (.slice B5 m5 d5) ∧ w'.cell? ⟨w5.heap.size, 2, none⟩ = some (.slice U5 nu5 cu5) ∧ w'.cell? ⟨w5.heap.size, 3, none⟩ = some (.slice R5 np5 cp5) ∧ w'.cell? ⟨w5.heap.size, 4, none⟩ = some (.slice L5 nl5 cl5) ∧ w'.cell? ⟨w.heap.size + 1, 0, none⟩ = some (.int .i64 j.id) ∧ w'.cell? ⟨w.heap.size + 1, 1, none⟩ = some (.int .i64 j.pr) ∧ w'.cell? ⟨w.heap.size + 1, 2, none⟩ = some (.int .i64 j.nn) ∧ w'.cell? ⟨w.heap.size + 1, 3, none⟩ = some (.int .i64 j.na) ∧ w'.cell? ⟨w.heap.size + 1, 4, none⟩ = some (.int .i64 j.nb) ∧ w'.cell? ⟨w.heap.size + 1, 5, none⟩ = some (.int .i64 j.nc) ∧ w'.cell? ⟨w.heap.size + 1, 6, none⟩ = some (.int .i64 j.la) ∧ w'.cell? ⟨w.heap.size + 1, 7, none⟩ = some (.int .i64 j.lb) ∧ w'.cell? ⟨w.heap.size + 1, 8, none⟩ = some (.int .i64 j.lc) ∧ w'.cell? ⟨w.heap.size + 1, 9, none⟩ = some (.int .i64 j.wl) ∧ w'.cell? ⟨w.heap.size + 1, 10, none⟩ = some (.int .i64 j.lv)) (simp [go_sem, *, World.cell?_alloc_some, World.cell?_setCell_far, Nat.lt_add_right, Nat.ne_of_gt]) (first | (go_at_call 38; refine (toJob_any j _).mono ?_; rintro e w6 ⟨rfl, hb6⟩; have hs6 := hb6.size; (try simp at hs6); have hy6_0 : w.heap.size < w6.heap.size := (by omega); have hk6_0 := fun o => hb6.cell (p := ⟨w.heap.size, o, none⟩) (by first | omega | (simp <;> omega)); have hg6_0 := fun o => hb6.frozen (p := ⟨w.heap.size, o, none⟩) (by first | omega | (simp <;> omega)); have hy6_1 : w.heap.size + 1 < w6.heap.size := (by omega); have hk6_1 := fun o => hb6.cell (p := ⟨w.heap.size + 1, o, none⟩) (by first | omega | (simp <;> omega)); have hg6_1 := fun o => hb6.frozen (p := ⟨w.heap.size + 1, o, none⟩) (by first | omega | (simp <;> omega)); have hy6_2 : w5.heap.size < w6.heap.size := (by omega); have hk6_2 := fun o => hb6.cell (p := ⟨w5.heap.size, o, none⟩) (by first | omega | (simp <;> omega)); have hg6_2 := fun o => hb6.frozen (p := ⟨w5.heap.size, o, none⟩) (by first | omega | (simp <;> omega))) | (go_at_call 17; refine (HIC.out ⟨A5, B5, U5, R5, L5, n5, m5, nu5, np5, nl5, c5, d5, cu5, cp5, cl5⟩ xs5 _ _ (OR5.out.bel (by repeat (first | exact Below.refl _ _ | assumption | (refine bstep ?_ (below_drewN _ _)) | exact bstep (by assumption) (by assumption) | (refine bstep ?_ (below_alloc _ _)) | (refine bstep ?_ (by assumption)) | (refine Below.setCell ?_ (by simp <;> omega) _) | refine Below.drew ?_ | (refine Below.trans ?_ (by assumption)))))).mono ?_; rintro e w7 ⟨v7, rfl, own7, hb7⟩; have hs7 := hb7.size; (try simp at hs7); have hy7_0 : w.heap.size < w7.heap.size := (by omega); have hk7_0 := fun o => hb7.cell (p := ⟨w.heap.size, o, none⟩) (by first | omega | (simp <;> omega)); have hg7_0 := fun o => hb7.frozen (p := ⟨w.heap.size, o, none⟩) (by first | omega | (simp <;> omega)); have hy7_1 : w.heap.size + 1 < w7.heap.size := (by omega); have hk7_1 := fun o => hb7.cell (p := ⟨w.heap.size + 1, o, none⟩) (by first | omega | (simp <;> omega)); have hg7_1 := fun o => hb7.frozen (p := ⟨w.heap.size + 1, o, none⟩) (by first | omega | (simp <;> omega)); have hy7_2 : w5.heap.size < w7.heap.size := (by omega); have hk7_2 := fun o => hb7.cell (p := ⟨w5.heap.size, o, none⟩) (by first | omega | (simp <;> omega)); have hg7_2 := fun o => hb7.frozen (p := ⟨w5.heap.size, o, none⟩) (by first | omega | (simp <;> omega)); obtain ⟨G7, h7, rfl, rd_G7⟩ := own_rd own7; have RDG7 := Lib.hid rd_G7; have HLG7 := Lib.hid (own_blk own7); have RGG7 : Hid (∀ k, atB G7 k → w6.heap.size ≤ k ∧ k < w7.heap.size) := Lib.hid (fun k hk => ⟨by have h9 := (own_rng own7 k hk).1; (try simp at h9); omega, (own_rng own7 k hk).2⟩); have OWG7 := Lib.hid own7; clear rd_G7 own7))
  go_wp2_with fail
  refine (eqIntS_any G7 G4 _ h7 h4 (EV) _ HLE.out (RDG7.out.below HLG7.out (by repeat (first | exact Below.refl _ _ | assumption | (refine bstep ?_ (below_drewN _ _)) | exact bstep (by assumption) (by assumption) | (refine bstep ?_ (below_alloc _ _)) | (refine bstep ?_ (by assumption)) | (refine Below.setCell ?_ (by simp <;> omega) _) | refine Below.drew ?_))) (RDG4.out.below HLG4.out (by repeat (first | exact Below.refl _ _ | assumption | (refine bstep ?_ (below_drewN _ _)) | exact bstep (by assumption) (by assumption) | (refine bstep ?_ (below_alloc _ _)) | (refine bstep ?_ (by assumption)) | (refine Below.setCell ?_ (by simp <;> omega) _) | refine Below.drew ?_)))).mono ?_
  rintro e w8 ⟨rfl, k8, hw8⟩
  have hb8 := below_eqN hw8
  clear hw8
  have hs8 := hb8.size
  (try simp at hs8)
  have hy8_0 : w.heap.size < w8.heap.size := by omega
  have hk8_0 := fun o => hb8.cell (p := ⟨w.heap.size, o, none⟩) (by first | omega | (simp <;> omega))
  have hg8_0 := fun o => hb8.frozen (p := ⟨w.heap.size, o, none⟩) (by first | omega | (simp <;> omega))
  have hy8_1 : w.heap.size + 1 < w8.heap.size := by omega
  have hk8_1 := fun o => hb8.cell (p := ⟨w.heap.size + 1, o, none⟩) (by first | omega | (simp <;> omega))
  have hg8_1 := fun o => hb8.frozen (p := ⟨w.heap.size + 1, o, none⟩) (by first | omega | (simp <;> omega))
  have hy8_2 : w5.heap.size < w8.heap.size := by omega
  have hk8_2 := fun o => hb8.cell (p := ⟨w5.heap.size, o, none⟩) (by first | omega | (simp <;> omega))
  have hg8_2 := fun o => hb8.frozen (p := ⟨w5.heap.size, o, none⟩) (by first | omega | (simp <;> omega))
  go_wp2_with fail
  go_region_held3 (fun w' => w'.cell? ⟨w.heap.size, 0, none⟩ = some (.slice A n c) ∧ w'.cell? ⟨w.heap.size, 1, none⟩ = some (.slice B m d) ∧ w'.cell? ⟨w.heap.size, 2, none⟩ = some (.slice U nu cu) ∧ w'.cell? ⟨w.heap.size, 3, none⟩ = some (.slice R np cp) ∧ w'.cell? ⟨w.heap.size, 4, none⟩ = some (.slice L nl cl) ∧ w'.cell? ⟨w5.heap.size, 0, none⟩ = some (.slice A5 n5 c5) ∧ w'.cell? ⟨w5.heap.size, 1, none⟩ = some (.slice B5 m5 d5) ∧ w'.cell? ⟨w5.heap.size, 2, none⟩ = some (.slice U5 nu5 cu5) ∧ w'.cell? ⟨w5.heap.size, 3, none⟩ = some (.slice R5 np5 cp5) ∧ w'.cell? ⟨w5.heap.size, 4, none⟩ = some (.slice L5 nl5 cl5)) (simp [go_sem, *, World.cell?_alloc_some, World.cell?_setCell_far, Nat.lt_add_right, Nat.ne_of_gt]) (first | (go_at_call 37; refine (toRoom_any ⟨A, B, U, R, L, n, m, nu, np, nl, c, d, cu, cp, cl⟩ r _ SZ.out (HR.out.below (by repeat (first | exact Below.refl _ _ | assumption | (refine bstep ?_ (below_drewN _ _)) | exact bstep (by assumption) (by assumption) | (refine bstep ?_ (below_alloc _ _)) | (refine bstep ?_ (by assumption)) | (refine Below.setCell ?_ (by simp <;> omega) _) | refine Below.drew ?_ | (refine Below.trans ?_ (by assumption)))))).mono ?_; rintro e w9 ⟨⟨A9, B9, U9, R9, L9, n9, m9, nu9, np9, nl9, c9, d9, cu9, cp9, cl9⟩, xs9, rfl, own9, hb9⟩; have hs9 := hb9.size; (try simp at hs9); have hy9_0 : w.heap.size < w9.heap.size := (by omega); have hk9_0 := fun o => hb9.cell (p := ⟨w.heap.size, o, none⟩) (by first | omega | (simp <;> omega)); have hg9_0 := fun o => hb9.frozen (p := ⟨w.heap.size, o, none⟩) (by first | omega | (simp <;> omega)); have hy9_1 : w.heap.size + 1 < w9.heap.size := (by omega); have hk9_1 := fun o => hb9.cell (p := ⟨w.heap.size + 1, o, none⟩) (by first | omega | (simp <;> omega)); have hg9_1 := fun o => hb9.frozen (p := ⟨w.heap.size + 1, o, none⟩) (by first | omega | (simp <;> omega)); have hy9_2 : w5.heap.size < w9.heap.size := (by omega); have hk9_2 := fun o => hb9.cell (p := ⟨w5.heap.size, o, none⟩) (by first | omega | (simp <;> omega)); have hg9_2 := fun o => hb9.frozen (p := ⟨w5.heap.size, o, none⟩) (by first | omega | (simp <;> omega)); have OR9 := Lib.hid own9; clear own9; dsimp only [RA.v]) | (go_at_call 40; refine (eqRoom_any ⟨A5, B5, U5, R5, L5, n5, m5, nu5, np5, nl5, c5, d5, cu5, cp5, cl5⟩ ⟨A9, B9, U9, R9, L9, n9, m9, nu9, np9, nl9, c9, d9, cu9, cp9, cl9⟩ r _ (OR5.out.bel (by repeat (first | exact Below.refl _ _ | assumption | (refine bstep ?_ (below_drewN _ _)) | exact bstep (by assumption) (by assumption) | (refine bstep ?_ (below_alloc _ _)) | (refine bstep ?_ (by assumption)) | (refine Below.setCell ?_ (by simp <;> omega) _) | refine Below.drew ?_ | (refine Below.trans ?_ (by assumption))))).rd (OR9.out.bel (by repeat (first | exact Below.refl _ _ | assumption | (refine bstep ?_ (below_drewN _ _)) | exact bstep (by assumption) (by assumption) | (refine bstep ?_ (below_alloc _ _)) | (refine bstep ?_ (by assumption)) | (refine Below.setCell ?_ (by simp <;> omega) _) | refine Below.drew ?_ | (refine Below.trans ?_ (by assumption))))).rd).mono ?_; rintro e w10 ⟨rfl, hb10⟩; have hs10 := hb10.size; (try simp at hs10); have hy10_0 : w.heap.size < w10.heap.size := (by omega); have hk10_0 := fun o => hb10.cell (p := ⟨w.heap.size, o, none⟩) (by first | omega | (simp <;> omega)); have hg10_0 := fun o => hb10.frozen (p := ⟨w.heap.size, o, none⟩) (by first | omega | (simp <;> omega)); have hy10_1 : w.heap.size + 1 < w10.heap.size := (by omega); have hk10_1 := fun o => hb10.cell (p := ⟨w.heap.size + 1, o, none⟩) (by first | omega | (simp <;> omega)); have hg10_1 := fun o => hb10.frozen (p := ⟨w.heap.size + 1, o, none⟩) (by first | omega | (simp <;> omega)); have hy10_2 : w5.heap.size < w10.heap.size := (by omega); have hk10_2 := fun o => hb10.cell (p := ⟨w5.heap.size, o, none⟩) (by first | omega | (simp <;> omega)); have hg10_2 := fun o => hb10.frozen (p := ⟨w5.heap.size, o, none⟩) (by first | omega | (simp <;> omega))))
  go_wp2_with fail
  refine (markRoom_any ⟨A5, B5, U5, R5, L5, n5, m5, nu5, np5, nl5, c5, d5, cu5, cp5, cl5⟩ r xs5 w4.heap.size _ ((OR5.out.bel (by repeat (first | exact Below.refl _ _ | assumption | (refine bstep ?_ (below_drewN _ _)) | exact bstep (by assumption) (by assumption) | (refine bstep ?_ (below_alloc _ _)) | (refine bstep ?_ (by assumption)) | (refine Below.setCell ?_ (by simp <;> omega) _) | refine Below.drew ?_ | (refine Below.trans ?_ (by assumption))))).mono (by first | omega | (simp <;> omega)))).mono ?_
  rintro e w11 ⟨⟨K11, rfl, hK11⟩, fr11⟩
  have hs11 := fr11.size
  (try simp at hs11)
  have hB11 : Below w.heap.size _ w11 := fr11.below (fun k hk => by have q9 := RGX.out _ hk; omega) (by first | omega | (simp <;> omega))
  have hy11_0 : w.heap.size < w11.heap.size := by omega
  have hk11_0 := fun o => fr11.cell (b := w.heap.size) (by first | omega | (simp <;> omega)) (fun h => by have q9 := RGX.out _ h; omega) o
  have hg11_0 := fun o => fr11.frozen (b := w.heap.size) (by first | omega | (simp <;> omega)) (fun h => by have q9 := RGX.out _ h; omega) o
  have hy11_1 : w.heap.size + 1 < w11.heap.size := by omega
  have hk11_1 := fun o => fr11.cell (b := w.heap.size + 1) (by first | omega | (simp <;> omega)) (fun h => by have q9 := RGX.out _ h; omega) o
  have hg11_1 := fun o => fr11.frozen (b := w.heap.size + 1) (by first | omega | (simp <;> omega)) (fun h => by have q9 := RGX.out _ h; omega) o
  have hy11_2 : w5.heap.size < w11.heap.size := by omega
  have hk11_2 := fun o => fr11.cell (b := w5.heap.size) (by first | omega | (simp <;> omega)) (fun h => by have q9 := RGX.out _ h; omega) o
  have hg11_2 := fun o => fr11.frozen (b := w5.heap.size) (by first | omega | (simp <;> omega)) (fun h => by have q9 := RGX.out _ h; omega) o
  have RDG4_11 := Lib.hid (Rd.fr (RDG4.out.below HLG4.out (by repeat (first | exact Below.refl _ _ | assumption | (refine bstep ?_ (below_drewN _ _)) | exact bstep (by assumption) (by assumption) | (refine bstep ?_ (below_alloc _ _)) | (refine bstep ?_ (by assumption)) | (refine Below.setCell ?_ (by simp <;> omega) _) | refine Below.drew ?_))) (lt_below HLG4.out (by repeat (first | exact Below.refl _ _ | assumption | (refine bstep ?_ (below_drewN _ _)) | exact bstep (by assumption) (by assumption) | (refine bstep ?_ (below_alloc _ _)) | (refine bstep ?_ (by assumption)) | (refine Below.setCell ?_ (by simp <;> omega) _) | refine Below.drew ?_))) fr11 (fun k h1 h2 => by have q1 := RGG4.out k h1; have q9 := RGX.out _ h2; omega))
  have HLG4_11 := Lib.hid (lt_fr (lt_below HLG4.out (by repeat (first | exact Below.refl _ _ | assumption | (refine bstep ?_ (below_drewN _ _)) | exact bstep (by assumption) (by assumption) | (refine bstep ?_ (below_alloc _ _)) | (refine bstep ?_ (by assumption)) | (refine Below.setCell ?_ (by simp <;> omega) _) | refine Below.drew ?_))) fr11)
  have WRG4_11 := Lib.hid (Wr.fr ((own_wr2 OWG4.out).below (by repeat (first | exact Below.refl _ _ | assumption | (refine bstep ?_ (below_drewN _ _)) | exact bstep (by assumption) (by assumption) | (refine bstep ?_ (below_alloc _ _)) | (refine bstep ?_ (by assumption)) | (refine Below.setCell ?_ (by simp <;> omega) _) | refine Below.drew ?_))) fr11 (fun k h1 h2 => by have q1 := RGG4.out k h1; have q9 := RGX.out _ h2; omega))
  have RDG7_11 := Lib.hid (Rd.fr (RDG7.out.below HLG7.out (by repeat (first | exact Below.refl _ _ | assumption | (refine bstep ?_ (below_drewN _ _)) | exact bstep (by assumption) (by assumption) | (refine bstep ?_ (below_alloc _ _)) | (refine bstep ?_ (by assumption)) | (refine Below.setCell ?_ (by simp <;> omega) _) | refine Below.drew ?_))) (lt_below HLG7.out (by repeat (first | exact Below.refl _ _ | assumption | (refine bstep ?_ (below_drewN _ _)) | exact bstep (by assumption) (by assumption) | (refine bstep ?_ (below_alloc _ _)) | (refine bstep ?_ (by assumption)) | (refine Below.setCell ?_ (by simp <;> omega) _) | refine Below.drew ?_))) fr11 (fun k h1 h2 => by have q1 := RGG7.out k h1; have q9 := RGX.out _ h2; omega))
  have HLG7_11 := Lib.hid (lt_fr (lt_below HLG7.out (by repeat (first | exact Below.refl _ _ | assumption | (refine bstep ?_ (below_drewN _ _)) | exact bstep (by assumption) (by assumption) | (refine bstep ?_ (below_alloc _ _)) | (refine bstep ?_ (by assumption)) | (refine Below.setCell ?_ (by simp <;> omega) _) | refine Below.drew ?_))) fr11)
  have WRG7_11 := Lib.hid (Wr.fr ((own_wr2 OWG7.out).below (by repeat (first | exact Below.refl _ _ | assumption | (refine bstep ?_ (below_drewN _ _)) | exact bstep (by assumption) (by assumption) | (refine bstep ?_ (below_alloc _ _)) | (refine bstep ?_ (by assumption)) | (refine Below.setCell ?_ (by simp <;> omega) _) | refine Below.drew ?_))) fr11 (fun k h1 h2 => by have q1 := RGG7.out k h1; have q9 := RGX.out _ h2; omega))
  have hKK : ¬ K11 < 0 := by omega
  go_wp2_with fail
  refine (eqIntS_any G7 G4 _ h7 h4 (EV) _ HLE.out (RDG7_11.out.below HLG7_11.out (by repeat (first | exact Below.refl _ _ | assumption | (refine bstep ?_ (below_drewN _ _)) | exact bstep (by assumption) (by assumption) | (refine bstep ?_ (below_alloc _ _)) | (refine bstep ?_ (by assumption)) | (refine Below.setCell ?_ (by simp <;> omega) _) | refine Below.drew ?_))) (RDG4_11.out.below HLG4_11.out (by repeat (first | exact Below.refl _ _ | assumption | (refine bstep ?_ (below_drewN _ _)) | exact bstep (by assumption) (by assumption) | (refine bstep ?_ (below_alloc _ _)) | (refine bstep ?_ (by assumption)) | (refine Below.setCell ?_ (by simp <;> omega) _) | refine Below.drew ?_)))).mono ?_
  rintro e w12 ⟨rfl, k12, hw12⟩
  have hb12 := below_eqN hw12
  clear hw12
  have hs12 := hb12.size
  (try simp at hs12)
  have hy12_0 : w.heap.size < w12.heap.size := by omega
  have hk12_0 := fun o => hb12.cell (p := ⟨w.heap.size, o, none⟩) (by first | omega | (simp <;> omega))
  have hg12_0 := fun o => hb12.frozen (p := ⟨w.heap.size, o, none⟩) (by first | omega | (simp <;> omega))
  have hy12_1 : w.heap.size + 1 < w12.heap.size := by omega
  have hk12_1 := fun o => hb12.cell (p := ⟨w.heap.size + 1, o, none⟩) (by first | omega | (simp <;> omega))
  have hg12_1 := fun o => hb12.frozen (p := ⟨w.heap.size + 1, o, none⟩) (by first | omega | (simp <;> omega))
  have hy12_2 : w5.heap.size < w12.heap.size := by omega
  have hk12_2 := fun o => hb12.cell (p := ⟨w5.heap.size, o, none⟩) (by first | omega | (simp <;> omega))
  have hg12_2 := fun o => hb12.frozen (p := ⟨w5.heap.size, o, none⟩) (by first | omega | (simp <;> omega))
  go_wp2_with fail
  refine (markIntF G7 _ h7 _ 1 _ HLE.out (by omega) (by omega) ((WRG7_11.out).below (by repeat (first | exact Below.refl _ _ | assumption | (refine bstep ?_ (below_drewN _ _)) | exact bstep (by assumption) (by assumption) | (refine bstep ?_ (below_alloc _ _)) | (refine bstep ?_ (by assumption)) | (refine Below.setCell ?_ (by simp <;> omega) _) | refine Below.drew ?_)))).mono ?_
  rintro e w13 ⟨rfl, rd13, fr13⟩
  have hs13 := fr13.size
  (try simp at hs13)
  have hB13 : Below w.heap.size _ w13 := fr13.below (fun k hk => by have q9 := RGG7.out _ hk; omega) (by first | omega | (simp <;> omega))
  have hy13_0 : w.heap.size < w13.heap.size := by omega
  have hk13_0 := fun o => fr13.cell (b := w.heap.size) (by first | omega | (simp <;> omega)) (fun h => by have q9 := RGG7.out _ h; omega) o
  have hg13_0 := fun o => fr13.frozen (b := w.heap.size) (by first | omega | (simp <;> omega)) (fun h => by have q9 := RGG7.out _ h; omega) o
  have hy13_1 : w.heap.size + 1 < w13.heap.size := by omega
  have hk13_1 := fun o => fr13.cell (b := w.heap.size + 1) (by first | omega | (simp <;> omega)) (fun h => by have q9 := RGG7.out _ h; omega) o
  have hg13_1 := fun o => fr13.frozen (b := w.heap.size + 1) (by first | omega | (simp <;> omega)) (fun h => by have q9 := RGG7.out _ h; omega) o
  have hy13_2 : w5.heap.size < w13.heap.size := by omega
  have hk13_2 := fun o => fr13.cell (b := w5.heap.size) (by first | omega | (simp <;> omega)) (fun h => by have q9 := RGG7.out _ h; omega) o
  have hg13_2 := fun o => fr13.frozen (b := w5.heap.size) (by first | omega | (simp <;> omega)) (fun h => by have q9 := RGG7.out _ h; omega) o
  have RDG4_13 := Lib.hid (Rd.fr (RDG4_11.out.below HLG4_11.out (by repeat (first | exact Below.refl _ _ | assumption | (refine bstep ?_ (below_drewN _ _)) | exact bstep (by assumption) (by assumption) | (refine bstep ?_ (below_alloc _ _)) | (refine bstep ?_ (by assumption)) | (refine Below.setCell ?_ (by simp <;> omega) _) | refine Below.drew ?_))) (lt_below HLG4_11.out (by repeat (first | exact Below.refl _ _ | assumption | (refine bstep ?_ (below_drewN _ _)) | exact bstep (by assumption) (by assumption) | (refine bstep ?_ (below_alloc _ _)) | (refine bstep ?_ (by assumption)) | (refine Below.setCell ?_ (by simp <;> omega) _) | refine Below.drew ?_))) fr13 (fun k h1 h2 => by have q1 := RGG4.out k h1; have q9 := RGG7.out _ h2; omega))
  have HLG4_13 := Lib.hid (lt_fr (lt_below HLG4_11.out (by repeat (first | exact Below.refl _ _ | assumption | (refine bstep ?_ (below_drewN _ _)) | exact bstep (by assumption) (by assumption) | (refine bstep ?_ (below_alloc _ _)) | (refine bstep ?_ (by assumption)) | (refine Below.setCell ?_ (by simp <;> omega) _) | refine Below.drew ?_))) fr13)
  have WRG4_13 := Lib.hid (Wr.fr ((WRG4_11.out).below (by repeat (first | exact Below.refl _ _ | assumption | (refine bstep ?_ (below_drewN _ _)) | exact bstep (by assumption) (by assumption) | (refine bstep ?_ (below_alloc _ _)) | (refine bstep ?_ (by assumption)) | (refine Below.setCell ?_ (by simp <;> omega) _) | refine Below.drew ?_))) fr13 (fun k h1 h2 => by have q1 := RGG4.out k h1; have q9 := RGG7.out _ h2; omega))
  have RMG7 := Lib.hid rd13
  have HLG7_13 := Lib.hid (lt_fr (lt_below HLG7_11.out (by repeat (first | exact Below.refl _ _ | assumption | (refine bstep ?_ (below_drewN _ _)) | exact bstep (by assumption) (by assumption) | (refine bstep ?_ (below_alloc _ _)) | (refine bstep ?_ (by assumption)) | (refine Below.setCell ?_ (by simp <;> omega) _) | refine Below.drew ?_))) fr13)
  clear rd13
  go_wp2_with fail
  refine (heldInt_any G7 _ h7 1 _ HLE.out (by omega) (by omega) (RMG7.out.below HLG7_13.out (by repeat (first | exact Below.refl _ _ | assumption | (refine bstep ?_ (below_drewN _ _)) | exact bstep (by assumption) (by assumption) | (refine bstep ?_ (below_alloc _ _)) | (refine bstep ?_ (by assumption)) | (refine Below.setCell ?_ (by simp <;> omega) _) | refine Below.drew ?_)))).mono ?_
  rintro e w14 ⟨rfl, hw14⟩
  have hb14 := below_same hw14
  clear hw14
  have hs14 := hb14.size
  (try simp at hs14)
  have hy14_0 : w.heap.size < w14.heap.size := by omega
  have hk14_0 := fun o => hb14.cell (p := ⟨w.heap.size, o, none⟩) (by first | omega | (simp <;> omega))
  have hg14_0 := fun o => hb14.frozen (p := ⟨w.heap.size, o, none⟩) (by first | omega | (simp <;> omega))
  have hy14_1 : w.heap.size + 1 < w14.heap.size := by omega
  have hk14_1 := fun o => hb14.cell (p := ⟨w.heap.size + 1, o, none⟩) (by first | omega | (simp <;> omega))
  have hg14_1 := fun o => hb14.frozen (p := ⟨w.heap.size + 1, o, none⟩) (by first | omega | (simp <;> omega))
  have hy14_2 : w5.heap.size < w14.heap.size := by omega
  have hk14_2 := fun o => hb14.cell (p := ⟨w5.heap.size, o, none⟩) (by first | omega | (simp <;> omega))
  have hg14_2 := fun o => hb14.frozen (p := ⟨w5.heap.size, o, none⟩) (by first | omega | (simp <;> omega))
  go_wp2_with fail
  go_region_held3 (fun w' => w'.cell? ⟨w.heap.size, 0, none⟩ = some (.slice A n c) ∧ w'.cell? ⟨w.heap.size, 1, none⟩ = some (.slice B m d) ∧ w'.cell? ⟨w.heap.size, 2, none⟩ = some (.slice U nu cu) ∧ w'.cell? ⟨w.heap.size, 3, none⟩ = some (.slice R np cp) ∧ w'.cell? ⟨w.heap.size, 4, none⟩ = some (.slice L nl cl) ∧ w'.cell? ⟨w.heap.size + 1, 0, none⟩ = some (.int .i64 j.id) ∧ w'.cell? ⟨w.heap.size + 1, 1, none⟩ = some (.int .i64 j.pr) ∧ w'.cell? ⟨w.heap.size + 1, 2, none⟩ = some (.int .i64 j.nn) ∧ w'.cell? ⟨w.heap.size + 1, 3, none⟩ = some (.int .i64 j.na) ∧ w'.cell? ⟨w.heap.size + 1, 4, none⟩ = some (.int .i64 j.nb) ∧ w'.cell? ⟨w.heap.size + 1, 5, none⟩ = some (.int .i64 j.nc) ∧ w'.cell? ⟨w.heap.size + 1, 6, none⟩ = some (.int .i64 j.la) ∧ w'.cell? ⟨w.heap.size + 1, 7, none⟩ = some (.int .i64 j.lb) ∧ w'.cell? ⟨w.heap.size + 1, 8, none⟩ = some (.int .i64 j.lc) ∧ w'.cell? ⟨w.heap.size + 1, 9, none⟩ = some (.int .i64 j.wl) ∧ w'.cell? ⟨w.heap.size + 1, 10, none⟩ = some (.int .i64 j.lv)) (simp [go_sem, *, World.cell?_alloc_some, World.cell?_setCell_far, Nat.lt_add_right, Nat.ne_of_gt]) (first | (go_at_call 37; refine (toRoom_any ⟨A, B, U, R, L, n, m, nu, np, nl, c, d, cu, cp, cl⟩ r _ SZ.out (HR.out.below (by repeat (first | exact Below.refl _ _ | assumption | (refine bstep ?_ (below_drewN _ _)) | exact bstep (by assumption) (by assumption) | (refine bstep ?_ (below_alloc _ _)) | (refine bstep ?_ (by assumption)) | (refine Below.setCell ?_ (by simp <;> omega) _) | refine Below.drew ?_ | (refine Below.trans ?_ (by assumption)))))).mono ?_; rintro e w15 ⟨⟨A15, B15, U15, R15, L15, n15, m15, nu15, np15, nl15, c15, d15, cu15, cp15, cl15⟩, xs15, rfl, own15, hb15⟩; have hs15 := hb15.size; (try simp at hs15); have hy15_0 : w.heap.size < w15.heap.size := (by omega); have hk15_0 := fun o => hb15.cell (p := ⟨w.heap.size, o, none⟩) (by first | omega | (simp <;> omega)); have hg15_0 := fun o => hb15.frozen (p := ⟨w.heap.size, o, none⟩) (by first | omega | (simp <;> omega)); have hy15_1 : w.heap.size + 1 < w15.heap.size := (by omega); have hk15_1 := fun o => hb15.cell (p := ⟨w.heap.size + 1, o, none⟩) (by first | omega | (simp <;> omega)); have hg15_1 := fun o => hb15.frozen (p := ⟨w.heap.size + 1, o, none⟩) (by first | omega | (simp <;> omega)); have hy15_2 : w5.heap.size < w15.heap.size := (by omega); have hk15_2 := fun o => hb15.cell (p := ⟨w5.heap.size, o, none⟩) (by first | omega | (simp <;> omega)); have hg15_2 := fun o => hb15.frozen (p := ⟨w5.heap.size, o, none⟩) (by first | omega | (simp <;> omega)); have OR15 := Lib.hid own15; clear own15; dsimp only [RA.v]) | (go_at_call 38; refine (toJob_any j _).mono ?_; rintro e w16 ⟨rfl, hb16⟩; have hs16 := hb16.size; (try simp at hs16); have hy16_0 : w.heap.size < w16.heap.size := (by omega); have hk16_0 := fun o => hb16.cell (p := ⟨w.heap.size, o, none⟩) (by first | omega | (simp <;> omega)); have hg16_0 := fun o => hb16.frozen (p := ⟨w.heap.size, o, none⟩) (by first | omega | (simp <;> omega)); have hy16_1 : w.heap.size + 1 < w16.heap.size := (by omega); have hk16_1 := fun o => hb16.cell (p := ⟨w.heap.size + 1, o, none⟩) (by first | omega | (simp <;> omega)); have hg16_1 := fun o => hb16.frozen (p := ⟨w.heap.size + 1, o, none⟩) (by first | omega | (simp <;> omega)); have hy16_2 : w5.heap.size < w16.heap.size := (by omega); have hk16_2 := fun o => hb16.cell (p := ⟨w5.heap.size, o, none⟩) (by first | omega | (simp <;> omega)); have hg16_2 := fun o => hb16.frozen (p := ⟨w5.heap.size, o, none⟩) (by first | omega | (simp <;> omega))) | (go_at_call 17; refine (HIC.out ⟨A15, B15, U15, R15, L15, n15, m15, nu15, np15, nl15, c15, d15, cu15, cp15, cl15⟩ xs15 _ _ (OR15.out.bel (by repeat (first | exact Below.refl _ _ | assumption | (refine bstep ?_ (below_drewN _ _)) | exact bstep (by assumption) (by assumption) | (refine bstep ?_ (below_alloc _ _)) | (refine bstep ?_ (by assumption)) | (refine Below.setCell ?_ (by simp <;> omega) _) | refine Below.drew ?_ | (refine Below.trans ?_ (by assumption)))))).mono ?_; rintro e w17 ⟨v17, rfl, own17, hb17⟩; have hs17 := hb17.size; (try simp at hs17); have hy17_0 : w.heap.size < w17.heap.size := (by omega); have hk17_0 := fun o => hb17.cell (p := ⟨w.heap.size, o, none⟩) (by first | omega | (simp <;> omega)); have hg17_0 := fun o => hb17.frozen (p := ⟨w.heap.size, o, none⟩) (by first | omega | (simp <;> omega)); have hy17_1 : w.heap.size + 1 < w17.heap.size := (by omega); have hk17_1 := fun o => hb17.cell (p := ⟨w.heap.size + 1, o, none⟩) (by first | omega | (simp <;> omega)); have hg17_1 := fun o => hb17.frozen (p := ⟨w.heap.size + 1, o, none⟩) (by first | omega | (simp <;> omega)); have hy17_2 : w5.heap.size < w17.heap.size := (by omega); have hk17_2 := fun o => hb17.cell (p := ⟨w5.heap.size, o, none⟩) (by first | omega | (simp <;> omega)); have hg17_2 := fun o => hb17.frozen (p := ⟨w5.heap.size, o, none⟩) (by first | omega | (simp <;> omega)); obtain ⟨G17, h17, rfl, rd_G17⟩ := own_rd own17; have RDG17 := Lib.hid rd_G17; have HLG17 := Lib.hid (own_blk own17); have RGG17 : Hid (∀ k, atB G17 k → w16.heap.size ≤ k ∧ k < w17.heap.size) := Lib.hid (fun k hk => ⟨by have h9 := (own_rng own17 k hk).1; (try simp at h9); omega, (own_rng own17 k hk).2⟩); have OWG17 := Lib.hid own17; clear rd_G17 own17))
  go_wp2_with fail
  refine (eqIntS_any G17 G4 _ h17 h4 (EV) _ HLE.out (RDG17.out.below HLG17.out (by repeat (first | exact Below.refl _ _ | assumption | (refine bstep ?_ (below_drewN _ _)) | exact bstep (by assumption) (by assumption) | (refine bstep ?_ (below_alloc _ _)) | (refine bstep ?_ (by assumption)) | (refine Below.setCell ?_ (by simp <;> omega) _) | refine Below.drew ?_))) (RDG4_13.out.below HLG4_13.out (by repeat (first | exact Below.refl _ _ | assumption | (refine bstep ?_ (below_drewN _ _)) | exact bstep (by assumption) (by assumption) | (refine bstep ?_ (below_alloc _ _)) | (refine bstep ?_ (by assumption)) | (refine Below.setCell ?_ (by simp <;> omega) _) | refine Below.drew ?_)))).mono ?_
  rintro e w18 ⟨rfl, k18, hw18⟩
  have hb18 := below_eqN hw18
  clear hw18
  have hs18 := hb18.size
  (try simp at hs18)
  have hy18_0 : w.heap.size < w18.heap.size := by omega
  have hk18_0 := fun o => hb18.cell (p := ⟨w.heap.size, o, none⟩) (by first | omega | (simp <;> omega))
  have hg18_0 := fun o => hb18.frozen (p := ⟨w.heap.size, o, none⟩) (by first | omega | (simp <;> omega))
  have hy18_1 : w.heap.size + 1 < w18.heap.size := by omega
  have hk18_1 := fun o => hb18.cell (p := ⟨w.heap.size + 1, o, none⟩) (by first | omega | (simp <;> omega))
  have hg18_1 := fun o => hb18.frozen (p := ⟨w.heap.size + 1, o, none⟩) (by first | omega | (simp <;> omega))
  have hy18_2 : w5.heap.size < w18.heap.size := by omega
  have hk18_2 := fun o => hb18.cell (p := ⟨w5.heap.size, o, none⟩) (by first | omega | (simp <;> omega))
  have hg18_2 := fun o => hb18.frozen (p := ⟨w5.heap.size, o, none⟩) (by first | omega | (simp <;> omega))
  go_wp2_with fail
  refine (heldInt_any G7 _ h7 1 _ HLE.out (by omega) (by omega) (RMG7.out.below HLG7_13.out (by repeat (first | exact Below.refl _ _ | assumption | (refine bstep ?_ (below_drewN _ _)) | exact bstep (by assumption) (by assumption) | (refine bstep ?_ (below_alloc _ _)) | (refine bstep ?_ (by assumption)) | (refine Below.setCell ?_ (by simp <;> omega) _) | refine Below.drew ?_)))).mono ?_
  rintro e w19 ⟨rfl, hw19⟩
  have hb19 := below_same hw19
  clear hw19
  have hs19 := hb19.size
  (try simp at hs19)
  have hy19_0 : w.heap.size < w19.heap.size := by omega
  have hk19_0 := fun o => hb19.cell (p := ⟨w.heap.size, o, none⟩) (by first | omega | (simp <;> omega))
  have hg19_0 := fun o => hb19.frozen (p := ⟨w.heap.size, o, none⟩) (by first | omega | (simp <;> omega))
  have hy19_1 : w.heap.size + 1 < w19.heap.size := by omega
  have hk19_1 := fun o => hb19.cell (p := ⟨w.heap.size + 1, o, none⟩) (by first | omega | (simp <;> omega))
  have hg19_1 := fun o => hb19.frozen (p := ⟨w.heap.size + 1, o, none⟩) (by first | omega | (simp <;> omega))
  have hy19_2 : w5.heap.size < w19.heap.size := by omega
  have hk19_2 := fun o => hb19.cell (p := ⟨w5.heap.size, o, none⟩) (by first | omega | (simp <;> omega))
  have hg19_2 := fun o => hb19.frozen (p := ⟨w5.heap.size, o, none⟩) (by first | omega | (simp <;> omega))
  go_wp2
  go_ret
  exact ⟨rfl, (by repeat (first | exact Below.refl _ _ | assumption | (refine bstep ?_ (below_drewN _ _)) | exact bstep (by assumption) (by assumption) | (refine bstep ?_ (below_alloc _ _)) | (refine bstep ?_ (by assumption)) | (refine Below.setCell ?_ (by simp <;> omega) _) | refine Below.drew ?_ | (refine Below.trans ?_ (by assumption))))⟩
end Go.Proofs.YtdppjjdhidkjoaaGreat
