/-
  The law of Release.
-/
import Derived.Test.YtdppjjdhidkjoaaGreatLr0Pb
import Derived.Test.YtdppjjdhidkjoaaGreatFjPb
import Derived.Test.YtdppjjdhidkjoaaGreatVkPb
import Derived.Test.YtdppjjdhidkjoaaGreatFhPb
import Derived.Deep.RegionHeld3
namespace Go.Proofs.YtdppjjdhidkjoaaGreat
set_option linter.unusedSimpArgs false
set_option linter.unusedVariables false
set_option linter.unnecessarySimpa false
open Go.RowKit

set_option maxHeartbeats 4000000 in
theorem law_release_long (a : RA) (r : Rm) (j : J) (fr_ to_ : Int) (D : Option Addr) (k e : Nat) (nd : List Int) (w : World) (hk : ¬ (k : Int) ≤ 1048576) (hk9 : k ≤ maxLen) :
    Calls Tryz.prog 6 #[a.v, .agg #[.int .i64 j.id, .int .i64 j.pr, .int .i64 j.nn, .int .i64 j.na, .int .i64 j.nb, .int .i64 j.nc, .int .i64 j.la, .int .i64 j.lb, .int .i64 j.lc, .int .i64 j.wl, .int .i64 j.lv], .int .i64 fr_, .int .i64 to_, .slice D k e] w fun e w' => e = .returned (.bool true) ∧ Below w.heap.size w w' := by
  obtain ⟨A, B, U, R, L, n, m, nu, np, nl, c, d, cu, cp, cl⟩ := a
  dsimp only [RA.v]
  have hk' : 1048576 < (k : Int) := by omega
  unfold maxLen at hk9
  clear hk
  go_enter Tryz.func6, Tryz.ntmps6
  go_wp2
  go_ret
  exact ⟨rfl, (by repeat (first | exact Below.refl _ _ | assumption | (refine bstep ?_ (below_drewN _ _)) | exact bstep (by assumption) (by assumption) | (refine bstep ?_ (below_alloc _ _)) | (refine bstep ?_ (by assumption)) | (refine Below.setCell ?_ (by simp <;> omega) _) | refine Below.drew ?_))⟩

set_option maxHeartbeats 16000000 in
set_option maxRecDepth 20000 in
theorem law_release_short (a : RA) (r : Rm) (j : J) (fr_ to_ : Int) (D : Option Addr) (k e : Nat) (nd : List Int) (w : World) (hk : (k : Int) ≤ 1048576) (hx : RmMax a) (hr : RoomIn w a r) (hd : RdI w D k nd) :
    Calls Tryz.prog 6 #[a.v, .agg #[.int .i64 j.id, .int .i64 j.pr, .int .i64 j.nn, .int .i64 j.na, .int .i64 j.nb, .int .i64 j.nc, .int .i64 j.la, .int .i64 j.lb, .int .i64 j.lc, .int .i64 j.wl, .int .i64 j.lv], .int .i64 fr_, .int .i64 to_, .slice D k e] w fun e w' => e = .returned (.bool true) ∧ Below w.heap.size w w' := by
  obtain ⟨A, B, U, R, L, n, m, nu, np, nl, c, d, cu, cp, cl⟩ := a
  dsimp only [RA.v]
  have HX := Lib.hid hx
  have HR := Lib.hid hr
  have HD := Lib.hid hd
  have HK : Hid (k ≤ 1048576) := Lib.hid (by omega)
  obtain ⟨EV, hEV⟩ : ∃ y, y = (relV r j fr_ to_ nd).getD noRm := ⟨_, rfl⟩
  obtain ⟨EB, hEB⟩ : ∃ y, y = (relV r j fr_ to_ nd).isSome := ⟨_, rfl⟩
  have HSC : Hid (∀ (a' : RA) (xs : List Value) (lo : Nat) (D' : Option Addr) (e' lo' : Nat) (W : World), RoomOwn W lo a' r xs → W.ownsRow lo' 3 1 (.slice D' k e') k (ints nd) → Calls Tryz.prog 36 #[a'.v, .agg #[.int .i64 j.id, .int .i64 j.pr, .int .i64 j.nn, .int .i64 j.na, .int .i64 j.nb, .int .i64 j.nc, .int .i64 j.la, .int .i64 j.lb, .int .i64 j.lc, .int .i64 j.wl, .int .i64 j.lv], .int .i64 fr_, .int .i64 to_, .slice D' k e'] W fun e W' => ∃ a2, e = .returned (.tuple #[RA.v a2, .bool EB]) ∧ (∃ xs', RoomOwn W' W.heap.size a2 EV xs') ∧ Below W.heap.size W W') := Lib.hid (fun a' xs lo D' e' lo' W h ho => by rw [hEV, hEB]; exact sRelease_any a' r xs lo j D' k e' nd W h HK.out (own_cap9 ho).1 (own_cap9 ho).2 (own_rdd' ho) (own_blk ho) fr_ to_)
  have HIC : Hid (∀ (a' : RA) (xs : List Value) (lo : Nat) (D' : Option Addr) (e' lo' : Nat) (W : World), RoomOwn W lo a' r xs → W.ownsRow lo' 3 1 (.slice D' k e') k (ints nd) → Calls Tryz.prog 33 #[a'.v, .agg #[.int .i64 j.id, .int .i64 j.pr, .int .i64 j.nn, .int .i64 j.na, .int .i64 j.nb, .int .i64 j.nc, .int .i64 j.la, .int .i64 j.lb, .int .i64 j.lc, .int .i64 j.wl, .int .i64 j.lv], .int .i64 fr_, .int .i64 to_, .slice D' k e'] W fun e W' => ∃ a2, e = .returned (.tuple #[RA.v a2, .bool EB]) ∧ (∃ xs', RoomOwn W' W.heap.size a2 EV xs') ∧ Below W.heap.size W W') := Lib.hid (fun a' xs lo D' e' lo' W h ho => by rw [hEV, hEB]; exact Release_any a' r xs lo j D' k e' nd W h HK.out (own_cap9 ho).1 (own_cap9 ho).2 (own_rdd' ho) (own_blk ho) fr_ to_)
  clear hx hr hEV hEB hd
  have hk0 : ¬ 1048576 < (k : Int) := by omega
  go_enter Tryz.func6, Tryz.ntmps6
  go_wp2_with fail
  refine (szRoom_any ⟨A, B, U, R, L, n, m, nu, np, nl, c, d, cu, cp, cl⟩ r _ HX.out (HR.out.below (by repeat (first | exact Below.refl _ _ | assumption | (refine bstep ?_ (below_drewN _ _)) | exact bstep (by assumption) (by assumption) | (refine bstep ?_ (below_alloc _ _)) | (refine bstep ?_ (by assumption)) | (refine Below.setCell ?_ (by simp <;> omega) _) | refine Below.drew ?_ | (refine Below.trans ?_ (by assumption)))))).mono ?_
  rintro e w1 ⟨z1, rfl, hz1, hb1⟩
  have hs1 := hb1.size
  (try simp at hs1)
  have hy1_0 : w.heap.size < w1.heap.size := by omega
  have hk1_0 := fun o => hb1.cell (p := ⟨w.heap.size, o, none⟩) (by first | omega | (simp <;> omega))
  have hg1_0 := fun o => hb1.frozen (p := ⟨w.heap.size, o, none⟩) (by first | omega | (simp <;> omega))
  have hy1_1 : w.heap.size + 1 < w1.heap.size := by omega
  have hk1_1 := fun o => hb1.cell (p := ⟨w.heap.size + 1, o, none⟩) (by first | omega | (simp <;> omega))
  have hg1_1 := fun o => hb1.frozen (p := ⟨w.heap.size + 1, o, none⟩) (by first | omega | (simp <;> omega))
  rcases hz1 with hz1 | ⟨hz1, hsz⟩
  · go_wp2
    go_ret
    exact ⟨rfl, (by repeat (first | exact Below.refl _ _ | assumption | (refine bstep ?_ (below_drewN _ _)) | exact bstep (by assumption) (by assumption) | (refine bstep ?_ (below_alloc _ _)) | (refine bstep ?_ (by assumption)) | (refine Below.setCell ?_ (by simp <;> omega) _) | refine Below.drew ?_))⟩
  have SZ := Lib.hid hsz
  have hz1' : ¬ z1 < 0 := by omega
  clear hsz
  go_wp2_with fail
  go_cut [12, 13] (fun p9 q9 wr => ∃ (bw : Nat) (aR : RA) (xR : List Value), p9 = .pointer (some ⟨bw, 0, none⟩) ∧ q9 = .bool EB ∧ wr.heap[bw]? = some (.cells #[.slice aR.A aR.n aR.c, .slice aR.B aR.m aR.d, .slice aR.U aR.nu aR.cu, .slice aR.R aR.np aR.cp, .slice aR.L aR.nl aR.cl] 33 (0, 0)) ∧ RoomOwn wr w1.heap.size aR EV xR ∧ w1.heap.size ≤ bw ∧ Below w1.heap.size w1 wr)
  case first =>
    go_region_held3 (fun w' => w'.cell? ⟨w.heap.size, 0, none⟩ = some (.slice A n c) ∧ w'.cell? ⟨w.heap.size, 1, none⟩ = some (.slice B m d) ∧ w'.cell? ⟨w.heap.size, 2, none⟩ = some (.slice U nu cu) ∧ w'.cell? ⟨w.heap.size, 3, none⟩ = some (.slice R np cp) ∧ w'.cell? ⟨w.heap.size, 4, none⟩ = some (.slice L nl cl) ∧ w'.cell? ⟨w.heap.size + 1, 0, none⟩ = some (.int .i64 j.id) ∧ w'.cell? ⟨w.heap.size + 1, 1, none⟩ = some (.int .i64 j.pr) ∧ w'.cell? ⟨w.heap.size + 1, 2, none⟩ = some (.int .i64 j.nn) ∧ w'.cell? ⟨w.heap.size + 1, 3, none⟩ = some (.int .i64 j.na) ∧ w'.cell? ⟨w.heap.size + 1, 4, none⟩ = some (.int .i64 j.nb) ∧ w'.cell? ⟨w.heap.size + 1, 5, none⟩ = some (.int .i64 j.nc) ∧ w'.cell? ⟨w.heap.size + 1, 6, none⟩ = some (.int .i64 j.la) ∧ w'.cell? ⟨w.heap.size + 1, 7, none⟩ = some (.int .i64 j.lb) ∧ w'.cell? ⟨w.heap.size + 1, 8, none⟩ = some (.int .i64 j.lc) ∧ w'.cell? ⟨w.heap.size + 1, 9, none⟩ = some (.int .i64 j.wl) ∧ w'.cell? ⟨w.heap.size + 1, 10, none⟩ = some (.int .i64 j.lv)) (simp [go_sem, *, World.cell?_alloc_some, World.cell?_setCell_far, Nat.lt_add_right, Nat.ne_of_gt]) (first | (go_at_call 37; refine (toRoom_any ⟨A, B, U, R, L, n, m, nu, np, nl, c, d, cu, cp, cl⟩ r _ SZ.out (HR.out.below (by repeat (first | exact Below.refl _ _ | assumption | (refine bstep ?_ (below_drewN _ _)) | exact bstep (by assumption) (by assumption) | (refine bstep ?_ (below_alloc _ _)) | (refine bstep ?_ (by assumption)) | (refine Below.setCell ?_ (by simp <;> omega) _) | refine Below.drew ?_ | (refine Below.trans ?_ (by assumption)))))).mono ?_; rintro e w2 ⟨⟨A2, B2, U2, R2, L2, n2, m2, nu2, np2, nl2, c2, d2, cu2, cp2, cl2⟩, xs2, rfl, own2, hb2⟩; have hs2 := hb2.size; (try simp at hs2); have hy2_0 : w.heap.size < w2.heap.size := (by omega); have hk2_0 := fun o => hb2.cell (p := ⟨w.heap.size, o, none⟩) (by first | omega | (simp <;> omega)); have hg2_0 := fun o => hb2.frozen (p := ⟨w.heap.size, o, none⟩) (by first | omega | (simp <;> omega)); have hy2_1 : w.heap.size + 1 < w2.heap.size := (by omega); have hk2_1 := fun o => hb2.cell (p := ⟨w.heap.size + 1, o, none⟩) (by first | omega | (simp <;> omega)); have hg2_1 := fun o => hb2.frozen (p := ⟨w.heap.size + 1, o, none⟩) (by first | omega | (simp <;> omega)); (try (have hxy20 : w1.heap.size < w2.heap.size := (by omega); have hxk20 := fun o => hb2.cell (p := ⟨w1.heap.size, o, none⟩) (by first | omega | (simp <;> omega)); have hxg20 := fun o => hb2.frozen (p := ⟨w1.heap.size, o, none⟩) (by first | omega | (simp <;> omega)))); have OR2 := Lib.hid own2; have RG2 : Hid (∀ k, atQ ⟨A2, B2, U2, R2, L2, n2, m2, nu2, np2, nl2, c2, d2, cu2, cp2, cl2⟩ xs2 k → w1.heap.size ≤ k ∧ k < w2.heap.size) := Lib.hid (fun k hk => by have h9 := room_rng2 own2 k hk; (try simp at h9); omega); clear own2; dsimp only [RA.v]) | (go_at_call 38; refine (toJob_any j _).mono ?_; rintro e w3 ⟨rfl, hb3⟩; have hs3 := hb3.size; (try simp at hs3); have hy3_0 : w.heap.size < w3.heap.size := (by omega); have hk3_0 := fun o => hb3.cell (p := ⟨w.heap.size, o, none⟩) (by first | omega | (simp <;> omega)); have hg3_0 := fun o => hb3.frozen (p := ⟨w.heap.size, o, none⟩) (by first | omega | (simp <;> omega)); have hy3_1 : w.heap.size + 1 < w3.heap.size := (by omega); have hk3_1 := fun o => hb3.cell (p := ⟨w.heap.size + 1, o, none⟩) (by first | omega | (simp <;> omega)); have hg3_1 := fun o => hb3.frozen (p := ⟨w.heap.size + 1, o, none⟩) (by first | omega | (simp <;> omega)); (try (have hxy30 : w1.heap.size < w3.heap.size := (by omega); have hxk30 := fun o => hb3.cell (p := ⟨w1.heap.size, o, none⟩) (by first | omega | (simp <;> omega)); have hxg30 := fun o => hb3.frozen (p := ⟨w1.heap.size, o, none⟩) (by first | omega | (simp <;> omega)))); (try (have hxy31 : w2.heap.size < w3.heap.size := (by omega); have hxk31 := fun o => hb3.cell (p := ⟨w2.heap.size, o, none⟩) (by first | omega | (simp <;> omega)); have hxg31 := fun o => hb3.frozen (p := ⟨w2.heap.size, o, none⟩) (by first | omega | (simp <;> omega))))) | (go_at_call 39; refine (toIntS_any D k e nd _ HK.out (HD.out.below (by repeat (first | exact Below.refl _ _ | assumption | (refine bstep ?_ (below_drewN _ _)) | exact bstep (by assumption) (by assumption) | (refine bstep ?_ (below_alloc _ _)) | (refine bstep ?_ (by assumption)) | (refine Below.setCell ?_ (by simp <;> omega) _) | refine Below.drew ?_ | (refine Below.trans ?_ (by assumption)))))).mono ?_; rintro e w4 ⟨v4, rfl, own4, hb4⟩; have hs4 := hb4.size; (try simp at hs4); have hy4_0 : w.heap.size < w4.heap.size := (by omega); have hk4_0 := fun o => hb4.cell (p := ⟨w.heap.size, o, none⟩) (by first | omega | (simp <;> omega)); have hg4_0 := fun o => hb4.frozen (p := ⟨w.heap.size, o, none⟩) (by first | omega | (simp <;> omega)); have hy4_1 : w.heap.size + 1 < w4.heap.size := (by omega); have hk4_1 := fun o => hb4.cell (p := ⟨w.heap.size + 1, o, none⟩) (by first | omega | (simp <;> omega)); have hg4_1 := fun o => hb4.frozen (p := ⟨w.heap.size + 1, o, none⟩) (by first | omega | (simp <;> omega)); (try (have hxy40 : w1.heap.size < w4.heap.size := (by omega); have hxk40 := fun o => hb4.cell (p := ⟨w1.heap.size, o, none⟩) (by first | omega | (simp <;> omega)); have hxg40 := fun o => hb4.frozen (p := ⟨w1.heap.size, o, none⟩) (by first | omega | (simp <;> omega)))); (try (have hxy41 : w2.heap.size < w4.heap.size := (by omega); have hxk41 := fun o => hb4.cell (p := ⟨w2.heap.size, o, none⟩) (by first | omega | (simp <;> omega)); have hxg41 := fun o => hb4.frozen (p := ⟨w2.heap.size, o, none⟩) (by first | omega | (simp <;> omega)))); (try (have hxy42 : w3.heap.size < w4.heap.size := (by omega); have hxk42 := fun o => hb4.cell (p := ⟨w3.heap.size, o, none⟩) (by first | omega | (simp <;> omega)); have hxg42 := fun o => hb4.frozen (p := ⟨w3.heap.size, o, none⟩) (by first | omega | (simp <;> omega)))); obtain ⟨V4, d4, rfl, _⟩ := own_rd own4; have OI4 := Lib.hid own4; have IG4 : Hid (∀ k, atB V4 k → w3.heap.size ≤ k ∧ k < w4.heap.size) := Lib.hid (fun k hk => by have h9 := own_rng own4 k hk; (try simp at h9); omega); clear own4) | (go_at_call 36; refine (HSC.out ⟨A2, B2, U2, R2, L2, n2, m2, nu2, np2, nl2, c2, d2, cu2, cp2, cl2⟩ xs2 _ V4 d4 _ _ (OR2.out.bel (by repeat (first | exact Below.refl _ _ | assumption | (refine bstep ?_ (below_drewN _ _)) | exact bstep (by assumption) (by assumption) | (refine bstep ?_ (below_alloc _ _)) | (refine bstep ?_ (by assumption)) | (refine Below.setCell ?_ (by simp <;> omega) _) | refine Below.drew ?_ | (refine Below.trans ?_ (by assumption))))) (own_bel OI4.out (by repeat (first | exact Below.refl _ _ | assumption | (refine bstep ?_ (below_drewN _ _)) | exact bstep (by assumption) (by assumption) | (refine bstep ?_ (below_alloc _ _)) | (refine bstep ?_ (by assumption)) | (refine Below.setCell ?_ (by simp <;> omega) _) | refine Below.drew ?_ | (refine Below.trans ?_ (by assumption)))))).mono ?_; rintro e w5 ⟨⟨A5, B5, U5, R5, L5, n5, m5, nu5, np5, nl5, c5, d5, cu5, cp5, cl5⟩, rfl, ⟨xs5, own5⟩, hb5⟩; have hs5 := hb5.size; (try simp at hs5); have hy5_0 : w.heap.size < w5.heap.size := (by omega); have hk5_0 := fun o => hb5.cell (p := ⟨w.heap.size, o, none⟩) (by first | omega | (simp <;> omega)); have hg5_0 := fun o => hb5.frozen (p := ⟨w.heap.size, o, none⟩) (by first | omega | (simp <;> omega)); have hy5_1 : w.heap.size + 1 < w5.heap.size := (by omega); have hk5_1 := fun o => hb5.cell (p := ⟨w.heap.size + 1, o, none⟩) (by first | omega | (simp <;> omega)); have hg5_1 := fun o => hb5.frozen (p := ⟨w.heap.size + 1, o, none⟩) (by first | omega | (simp <;> omega)); (try (have hxy50 : w1.heap.size < w5.heap.size := (by omega); have hxk50 := fun o => hb5.cell (p := ⟨w1.heap.size, o, none⟩) (by first | omega | (simp <;> omega)); have hxg50 := fun o => hb5.frozen (p := ⟨w1.heap.size, o, none⟩) (by first | omega | (simp <;> omega)))); (try (have hxy51 : w2.heap.size < w5.heap.size := (by omega); have hxk51 := fun o => hb5.cell (p := ⟨w2.heap.size, o, none⟩) (by first | omega | (simp <;> omega)); have hxg51 := fun o => hb5.frozen (p := ⟨w2.heap.size, o, none⟩) (by first | omega | (simp <;> omega)))); (try (have hxy52 : w3.heap.size < w5.heap.size := (by omega); have hxk52 := fun o => hb5.cell (p := ⟨w3.heap.size, o, none⟩) (by first | omega | (simp <;> omega)); have hxg52 := fun o => hb5.frozen (p := ⟨w3.heap.size, o, none⟩) (by first | omega | (simp <;> omega)))); (try (have hxy53 : w4.heap.size < w5.heap.size := (by omega); have hxk53 := fun o => hb5.cell (p := ⟨w4.heap.size, o, none⟩) (by first | omega | (simp <;> omega)); have hxg53 := fun o => hb5.frozen (p := ⟨w4.heap.size, o, none⟩) (by first | omega | (simp <;> omega)))); have OR5 := Lib.hid own5; have RG5 : Hid (∀ k, atQ ⟨A5, B5, U5, R5, L5, n5, m5, nu5, np5, nl5, c5, d5, cu5, cp5, cl5⟩ xs5 k → w4.heap.size ≤ k ∧ k < w5.heap.size) := Lib.hid (fun k hk => by have h9 := room_rng2 own5 k hk; (try simp at h9); omega); clear own5; dsimp only [RA.v]))
    all_goals (go_wp2; go_meet)
    case rel =>
      with_reducible refine ⟨_, ⟨A5, B5, U5, R5, L5, n5, m5, nu5, np5, nl5, c5, d5, cu5, cp5, cl5⟩, xs5, rfl, rfl, heap_at9 _ _, (OR5.out.mono ?_).bel (below_alloc _ _), ?_, bstep (bstep (bstep (bstep (bstep (Below.refl _ _).drew hb2) hb3) hb4) hb5) (below_alloc _ _)⟩
      all_goals (first | omega | (simp <;> omega))
    case rel =>
      with_reducible refine ⟨_, ⟨A5, B5, U5, R5, L5, n5, m5, nu5, np5, nl5, c5, d5, cu5, cp5, cl5⟩, xs5, rfl, rfl, set5 (bx_below (heap_at9 _ _) hb5), (OR5.out.mono ?_).box5 (bx_below (heap_at9 _ _) hb5) _ _ _ _ _, ?_, bel_set5 (bstep (bstep (bstep (bstep (bstep (Below.refl _ _).drew hb2) hb3) hb4) (below_alloc _ _)) hb5) ?_ _ _ _ _ _⟩
      all_goals (first | omega | (simp <;> omega))
    case rel =>
      with_reducible refine ⟨_, ⟨A5, B5, U5, R5, L5, n5, m5, nu5, np5, nl5, c5, d5, cu5, cp5, cl5⟩, xs5, rfl, rfl, set5 (bx_below (bx_below (heap_at9 _ _) hb4) hb5), (OR5.out.mono ?_).box5 (bx_below (bx_below (heap_at9 _ _) hb4) hb5) _ _ _ _ _, ?_, bel_set5 (bstep (bstep (bstep (bstep (bstep (Below.refl _ _).drew hb2) hb3) (below_alloc _ _)) hb4) hb5) ?_ _ _ _ _ _⟩
      all_goals (first | omega | (simp <;> omega))
    case rel =>
      with_reducible refine ⟨_, ⟨A5, B5, U5, R5, L5, n5, m5, nu5, np5, nl5, c5, d5, cu5, cp5, cl5⟩, xs5, rfl, rfl, set5 (bx_below (bx_below (bx_below (heap_at9 _ _) hb3) hb4) hb5), (OR5.out.mono ?_).box5 (bx_below (bx_below (bx_below (heap_at9 _ _) hb3) hb4) hb5) _ _ _ _ _, ?_, bel_set5 (bstep (bstep (bstep (bstep (bstep (Below.refl _ _).drew hb2) (below_alloc _ _)) hb3) hb4) hb5) ?_ _ _ _ _ _⟩
      all_goals (first | omega | (simp <;> omega))
    case rel =>
      with_reducible refine ⟨_, ⟨A5, B5, U5, R5, L5, n5, m5, nu5, np5, nl5, c5, d5, cu5, cp5, cl5⟩, xs5, rfl, rfl, set5 (bx_below (bx_below (bx_below (bx_below (heap_at9d _ _) hb2) hb3) hb4) hb5), (OR5.out.mono ?_).box5 (bx_below (bx_below (bx_below (bx_below (heap_at9d _ _) hb2) hb3) hb4) hb5) _ _ _ _ _, ?_, bel_set5 (bstep (bstep (bstep (bstep (bstep (Below.refl _ _) (below_alloc _ _)).drew hb2) hb3) hb4) hb5) ?_ _ _ _ _ _⟩
      all_goals (first | omega | (simp <;> omega))
  case rest =>
    obtain ⟨w6, rfl⟩ : ∃ x, x = wc := ⟨wc, rfl⟩
    obtain ⟨b6, ⟨A6, B6, U6, R6, L6, n6, m6, nu6, np6, nl6, c6, d6, cu6, cp6, cl6⟩, xs6, rfl, rfl, bx6, own6, hl6, hb6⟩ := hcut
    dsimp only at bx6
    have hs6 := hb6.size
    (try simp at hs6)
    have hy6_0 : w.heap.size < w6.heap.size := by omega
    have hk6_0 := fun o => hb6.cell (p := ⟨w.heap.size, o, none⟩) (by first | omega | (simp <;> omega))
    have hg6_0 := fun o => hb6.frozen (p := ⟨w.heap.size, o, none⟩) (by first | omega | (simp <;> omega))
    have hy6_1 : w.heap.size + 1 < w6.heap.size := by omega
    have hk6_1 := fun o => hb6.cell (p := ⟨w.heap.size + 1, o, none⟩) (by first | omega | (simp <;> omega))
    have hg6_1 := fun o => hb6.frozen (p := ⟨w.heap.size + 1, o, none⟩) (by first | omega | (simp <;> omega))
    have hu6 := heap_lt bx6
    have z6_0 := bx_cell bx6 0 rfl
    have z6_1 := bx_cell bx6 1 rfl
    have z6_2 := bx_cell bx6 2 rfl
    have z6_3 := bx_cell bx6 3 rfl
    have z6_4 := bx_cell bx6 4 rfl
    simp only [List.getElem_toArray, List.getElem_cons_zero, List.getElem_cons_succ] at z6_0 z6_1 z6_2 z6_3 z6_4
    have zf6 := bx_frz bx6
    have NB6 := Lib.hid (own6.nbox bx6)
    clear bx6
    have OR6 := Lib.hid own6
    have RG6 : Hid (∀ k, atQ ⟨A6, B6, U6, R6, L6, n6, m6, nu6, np6, nl6, c6, d6, cu6, cp6, cl6⟩ xs6 k → w1.heap.size ≤ k ∧ k < w6.heap.size) := Lib.hid (fun k hk => by have h9 := room_rng2 own6 k hk; (try simp at h9); omega)
    clear own6
    go_wp2_with fail
    refine (toRoom_any ⟨A, B, U, R, L, n, m, nu, np, nl, c, d, cu, cp, cl⟩ r _ SZ.out (HR.out.below (by repeat (first | exact Below.refl _ _ | assumption | (refine bstep ?_ (below_drewN _ _)) | exact bstep (by assumption) (by assumption) | (refine bstep ?_ (below_alloc _ _)) | (refine bstep ?_ (by assumption)) | (refine Below.setCell ?_ (by simp <;> omega) _) | refine Below.drew ?_ | (refine Below.trans ?_ (by assumption)))))).mono ?_
    rintro e w7 ⟨⟨A7, B7, U7, R7, L7, n7, m7, nu7, np7, nl7, c7, d7, cu7, cp7, cl7⟩, xs7, rfl, own7, hb7⟩
    have hs7 := hb7.size
    (try simp at hs7)
    have hy7_0 : w.heap.size < w7.heap.size := by omega
    have hk7_0 := fun o => hb7.cell (p := ⟨w.heap.size, o, none⟩) (by first | omega | (simp <;> omega))
    have hg7_0 := fun o => hb7.frozen (p := ⟨w.heap.size, o, none⟩) (by first | omega | (simp <;> omega))
    have hy7_1 : w.heap.size + 1 < w7.heap.size := by omega
    have hk7_1 := fun o => hb7.cell (p := ⟨w.heap.size + 1, o, none⟩) (by first | omega | (simp <;> omega))
    have hg7_1 := fun o => hb7.frozen (p := ⟨w.heap.size + 1, o, none⟩) (by first | omega | (simp <;> omega))
    have hy7_2 : b6 < w7.heap.size := by omega
    have hk7_2 := fun o => hb7.cell (p := ⟨b6, o, none⟩) (by first | omega | (simp <;> omega))
    have hg7_2 := fun o => hb7.frozen (p := ⟨b6, o, none⟩) (by first | omega | (simp <;> omega))
    have OR7 := Lib.hid own7
    have RG7 : Hid (∀ k, atQ ⟨A7, B7, U7, R7, L7, n7, m7, nu7, np7, nl7, c7, d7, cu7, cp7, cl7⟩ xs7 k → w6.heap.size ≤ k ∧ k < w7.heap.size) := Lib.hid (fun k hk => by have h9 := room_rng2 own7 k hk; (try simp at h9); omega)
    clear own7
    dsimp only [RA.v]
    go_wp2_with fail
    refine (toIntS_any D k e nd _ HK.out (HD.out.below (by repeat (first | exact Below.refl _ _ | assumption | (refine bstep ?_ (below_drewN _ _)) | exact bstep (by assumption) (by assumption) | (refine bstep ?_ (below_alloc _ _)) | (refine bstep ?_ (by assumption)) | (refine Below.setCell ?_ (by simp <;> omega) _) | refine Below.drew ?_ | (refine Below.trans ?_ (by assumption)))))).mono ?_
    rintro e w8 ⟨v8, rfl, own8, hb8⟩
    have hs8 := hb8.size
    (try simp at hs8)
    have hy8_0 : w.heap.size < w8.heap.size := by omega
    have hk8_0 := fun o => hb8.cell (p := ⟨w.heap.size, o, none⟩) (by first | omega | (simp <;> omega))
    have hg8_0 := fun o => hb8.frozen (p := ⟨w.heap.size, o, none⟩) (by first | omega | (simp <;> omega))
    have hy8_1 : w.heap.size + 1 < w8.heap.size := by omega
    have hk8_1 := fun o => hb8.cell (p := ⟨w.heap.size + 1, o, none⟩) (by first | omega | (simp <;> omega))
    have hg8_1 := fun o => hb8.frozen (p := ⟨w.heap.size + 1, o, none⟩) (by first | omega | (simp <;> omega))
    have hy8_2 : b6 < w8.heap.size := by omega
    have hk8_2 := fun o => hb8.cell (p := ⟨b6, o, none⟩) (by first | omega | (simp <;> omega))
    have hg8_2 := fun o => hb8.frozen (p := ⟨b6, o, none⟩) (by first | omega | (simp <;> omega))
    have hy8_3 : w7.heap.size < w8.heap.size := by omega
    have hk8_3 := fun o => hb8.cell (p := ⟨w7.heap.size, o, none⟩) (by first | omega | (simp <;> omega))
    have hg8_3 := fun o => hb8.frozen (p := ⟨w7.heap.size, o, none⟩) (by first | omega | (simp <;> omega))
    obtain ⟨V8, d8, rfl, _⟩ := own_rd own8
    have OI8 := Lib.hid own8
    have IG8 : Hid (∀ k, atB V8 k → w7.heap.size + 1 ≤ k ∧ k < w8.heap.size) := Lib.hid (fun k hk => by have h9 := own_rng own8 k hk; (try simp at h9); omega)
    clear own8
    go_wp2_with fail
    go_cut [16, 17] (fun p9 q9 wr => ∃ (bw : Nat) (aR : RA) (xR : List Value), p9 = .pointer (some ⟨bw, 0, none⟩) ∧ q9 = .bool EB ∧ wr.heap[bw]? = some (.cells #[.slice aR.A aR.n aR.c, .slice aR.B aR.m aR.d, .slice aR.U aR.nu aR.cu, .slice aR.R aR.np aR.cp, .slice aR.L aR.nl aR.cl] 33 (0, 0)) ∧ RoomOwn wr w8.heap.size aR EV xR ∧ w8.heap.size ≤ bw ∧ Below w8.heap.size w8 wr)
    case first =>
      go_region_held3 (fun w' => w'.cell? ⟨w7.heap.size, 0, none⟩ = some (.slice A7 n7 c7) ∧ w'.cell? ⟨w7.heap.size, 1, none⟩ = some (.slice B7 m7 d7) ∧ w'.cell? ⟨w7.heap.size, 2, none⟩ = some (.slice U7 nu7 cu7) ∧ w'.cell? ⟨w7.heap.size, 3, none⟩ = some (.slice R7 np7 cp7) ∧ w'.cell? ⟨w7.heap.size, 4, none⟩ = some (.slice L7 nl7 cl7) ∧ w'.cell? ⟨w.heap.size + 1, 0, none⟩ = some (.int .i64 j.id) ∧ w'.cell? ⟨w.heap.size + 1, 1, none⟩ = some (.int .i64 j.pr) ∧ w'.cell? ⟨w.heap.size + 1, 2, none⟩ = some (.int .i64 j.nn) ∧ w'.cell? ⟨w.heap.size + 1, 3, none⟩ = some (.int .i64 j.na) ∧ w'.cell? ⟨w.heap.size + 1, 4, none⟩ = some (.int .i64 j.nb) ∧ w'.cell? ⟨w.heap.size + 1, 5, none⟩ = some (.int .i64 j.nc) ∧ w'.cell? ⟨w.heap.size + 1, 6, none⟩ = some (.int .i64 j.la) ∧ w'.cell? ⟨w.heap.size + 1, 7, none⟩ = some (.int .i64 j.lb) ∧ w'.cell? ⟨w.heap.size + 1, 8, none⟩ = some (.int .i64 j.lc) ∧ w'.cell? ⟨w.heap.size + 1, 9, none⟩ = some (.int .i64 j.wl) ∧ w'.cell? ⟨w.heap.size + 1, 10, none⟩ = some (.int .i64 j.lv)) (simp [go_sem, *, World.cell?_alloc_some, World.cell?_setCell_far, Nat.lt_add_right, Nat.ne_of_gt]) (first | (go_at_call 38; refine (toJob_any j _).mono ?_; rintro e w9 ⟨rfl, hb9⟩; have hs9 := hb9.size; (try simp at hs9); have hy9_0 : w.heap.size < w9.heap.size := (by omega); have hk9_0 := fun o => hb9.cell (p := ⟨w.heap.size, o, none⟩) (by first | omega | (simp <;> omega)); have hg9_0 := fun o => hb9.frozen (p := ⟨w.heap.size, o, none⟩) (by first | omega | (simp <;> omega)); have hy9_1 : w.heap.size + 1 < w9.heap.size := (by omega); have hk9_1 := fun o => hb9.cell (p := ⟨w.heap.size + 1, o, none⟩) (by first | omega | (simp <;> omega)); have hg9_1 := fun o => hb9.frozen (p := ⟨w.heap.size + 1, o, none⟩) (by first | omega | (simp <;> omega)); have hy9_2 : b6 < w9.heap.size := (by omega); have hk9_2 := fun o => hb9.cell (p := ⟨b6, o, none⟩) (by first | omega | (simp <;> omega)); have hg9_2 := fun o => hb9.frozen (p := ⟨b6, o, none⟩) (by first | omega | (simp <;> omega)); have hy9_3 : w7.heap.size < w9.heap.size := (by omega); have hk9_3 := fun o => hb9.cell (p := ⟨w7.heap.size, o, none⟩) (by first | omega | (simp <;> omega)); have hg9_3 := fun o => hb9.frozen (p := ⟨w7.heap.size, o, none⟩) (by first | omega | (simp <;> omega)); (try (have hxy90 : w8.heap.size < w9.heap.size := (by omega); have hxk90 := fun o => hb9.cell (p := ⟨w8.heap.size, o, none⟩) (by first | omega | (simp <;> omega)); have hxg90 := fun o => hb9.frozen (p := ⟨w8.heap.size, o, none⟩) (by first | omega | (simp <;> omega))))) | (go_at_call 33; refine (HIC.out ⟨A7, B7, U7, R7, L7, n7, m7, nu7, np7, nl7, c7, d7, cu7, cp7, cl7⟩ xs7 _ V8 d8 _ _ (OR7.out.bel (by repeat (first | exact Below.refl _ _ | assumption | (refine bstep ?_ (below_drewN _ _)) | exact bstep (by assumption) (by assumption) | (refine bstep ?_ (below_alloc _ _)) | (refine bstep ?_ (by assumption)) | (refine Below.setCell ?_ (by simp <;> omega) _) | refine Below.drew ?_ | (refine Below.trans ?_ (by assumption))))) (own_bel OI8.out (by repeat (first | exact Below.refl _ _ | assumption | (refine bstep ?_ (below_drewN _ _)) | exact bstep (by assumption) (by assumption) | (refine bstep ?_ (below_alloc _ _)) | (refine bstep ?_ (by assumption)) | (refine Below.setCell ?_ (by simp <;> omega) _) | refine Below.drew ?_ | (refine Below.trans ?_ (by assumption)))))).mono ?_; rintro e w10 ⟨⟨A10, B10, U10, R10, L10, n10, m10, nu10, np10, nl10, c10, d10, cu10, cp10, cl10⟩, rfl, ⟨xs10, own10⟩, hb10⟩; have hs10 := hb10.size; (try simp at hs10); have hy10_0 : w.heap.size < w10.heap.size := (by omega); have hk10_0 := fun o => hb10.cell (p := ⟨w.heap.size, o, none⟩) (by first | omega | (simp <;> omega)); have hg10_0 := fun o => hb10.frozen (p := ⟨w.heap.size, o, none⟩) (by first | omega | (simp <;> omega)); have hy10_1 : w.heap.size + 1 < w10.heap.size := (by omega); have hk10_1 := fun o => hb10.cell (p := ⟨w.heap.size + 1, o, none⟩) (by first | omega | (simp <;> omega)); have hg10_1 := fun o => hb10.frozen (p := ⟨w.heap.size + 1, o, none⟩) (by first | omega | (simp <;> omega)); have hy10_2 : b6 < w10.heap.size := (by omega); have hk10_2 := fun o => hb10.cell (p := ⟨b6, o, none⟩) (by first | omega | (simp <;> omega)); have hg10_2 := fun o => hb10.frozen (p := ⟨b6, o, none⟩) (by first | omega | (simp <;> omega)); have hy10_3 : w7.heap.size < w10.heap.size := (by omega); have hk10_3 := fun o => hb10.cell (p := ⟨w7.heap.size, o, none⟩) (by first | omega | (simp <;> omega)); have hg10_3 := fun o => hb10.frozen (p := ⟨w7.heap.size, o, none⟩) (by first | omega | (simp <;> omega)); (try (have hxy100 : w8.heap.size < w10.heap.size := (by omega); have hxk100 := fun o => hb10.cell (p := ⟨w8.heap.size, o, none⟩) (by first | omega | (simp <;> omega)); have hxg100 := fun o => hb10.frozen (p := ⟨w8.heap.size, o, none⟩) (by first | omega | (simp <;> omega)))); (try (have hxy101 : w9.heap.size < w10.heap.size := (by omega); have hxk101 := fun o => hb10.cell (p := ⟨w9.heap.size, o, none⟩) (by first | omega | (simp <;> omega)); have hxg101 := fun o => hb10.frozen (p := ⟨w9.heap.size, o, none⟩) (by first | omega | (simp <;> omega)))); have OR10 := Lib.hid own10; have RG10 : Hid (∀ k, atQ ⟨A10, B10, U10, R10, L10, n10, m10, nu10, np10, nl10, c10, d10, cu10, cp10, cl10⟩ xs10 k → w9.heap.size ≤ k ∧ k < w10.heap.size) := Lib.hid (fun k hk => by have h9 := room_rng2 own10 k hk; (try simp at h9); omega); clear own10; dsimp only [RA.v]))
      all_goals (go_wp2; go_meet)
      case rel =>
        with_reducible refine ⟨_, ⟨A10, B10, U10, R10, L10, n10, m10, nu10, np10, nl10, c10, d10, cu10, cp10, cl10⟩, xs10, rfl, rfl, heap_at9 _ _, (OR10.out.mono ?_).bel (below_alloc _ _), ?_, bstep (bstep (bstep (Below.refl _ _).drew hb9) hb10) (below_alloc _ _)⟩
        all_goals (first | omega | (simp <;> omega))
      case rel =>
        with_reducible refine ⟨_, ⟨A10, B10, U10, R10, L10, n10, m10, nu10, np10, nl10, c10, d10, cu10, cp10, cl10⟩, xs10, rfl, rfl, set5 (bx_below (heap_at9 _ _) hb10), (OR10.out.mono ?_).box5 (bx_below (heap_at9 _ _) hb10) _ _ _ _ _, ?_, bel_set5 (bstep (bstep (bstep (Below.refl _ _).drew hb9) (below_alloc _ _)) hb10) ?_ _ _ _ _ _⟩
        all_goals (first | omega | (simp <;> omega))
      case rel =>
        with_reducible refine ⟨_, ⟨A10, B10, U10, R10, L10, n10, m10, nu10, np10, nl10, c10, d10, cu10, cp10, cl10⟩, xs10, rfl, rfl, set5 (bx_below (bx_below (heap_at9d _ _) hb9) hb10), (OR10.out.mono ?_).box5 (bx_below (bx_below (heap_at9d _ _) hb9) hb10) _ _ _ _ _, ?_, bel_set5 (bstep (bstep (bstep (Below.refl _ _) (below_alloc _ _)).drew hb9) hb10) ?_ _ _ _ _ _⟩
        all_goals (first | omega | (simp <;> omega))
    case rest =>
      obtain ⟨w11, rfl⟩ : ∃ x, x = wc := ⟨wc, rfl⟩
      obtain ⟨b11, ⟨A11, B11, U11, R11, L11, n11, m11, nu11, np11, nl11, c11, d11, cu11, cp11, cl11⟩, xs11, rfl, rfl, bx11, own11, hl11, hb11⟩ := hcut
      dsimp only at bx11
      have hs11 := hb11.size
      (try simp at hs11)
      have hy11_0 : w.heap.size < w11.heap.size := by omega
      have hk11_0 := fun o => hb11.cell (p := ⟨w.heap.size, o, none⟩) (by first | omega | (simp <;> omega))
      have hg11_0 := fun o => hb11.frozen (p := ⟨w.heap.size, o, none⟩) (by first | omega | (simp <;> omega))
      have hy11_1 : w.heap.size + 1 < w11.heap.size := by omega
      have hk11_1 := fun o => hb11.cell (p := ⟨w.heap.size + 1, o, none⟩) (by first | omega | (simp <;> omega))
      have hg11_1 := fun o => hb11.frozen (p := ⟨w.heap.size + 1, o, none⟩) (by first | omega | (simp <;> omega))
      have hy11_2 : b6 < w11.heap.size := by omega
      have hk11_2 := fun o => hb11.cell (p := ⟨b6, o, none⟩) (by first | omega | (simp <;> omega))
      have hg11_2 := fun o => hb11.frozen (p := ⟨b6, o, none⟩) (by first | omega | (simp <;> omega))
      have hy11_3 : w7.heap.size < w11.heap.size := by omega
      have hk11_3 := fun o => hb11.cell (p := ⟨w7.heap.size, o, none⟩) (by first | omega | (simp <;> omega))
      have hg11_3 := fun o => hb11.frozen (p := ⟨w7.heap.size, o, none⟩) (by first | omega | (simp <;> omega))
      have hu11 := heap_lt bx11
      have z11_0 := bx_cell bx11 0 rfl
      have z11_1 := bx_cell bx11 1 rfl
      have z11_2 := bx_cell bx11 2 rfl
      have z11_3 := bx_cell bx11 3 rfl
      have z11_4 := bx_cell bx11 4 rfl
      simp only [List.getElem_toArray, List.getElem_cons_zero, List.getElem_cons_succ] at z11_0 z11_1 z11_2 z11_3 z11_4
      have zf11 := bx_frz bx11
      have NB11 := Lib.hid (own11.nbox bx11)
      clear bx11
      have OR11 := Lib.hid own11
      have RG11 : Hid (∀ k, atQ ⟨A11, B11, U11, R11, L11, n11, m11, nu11, np11, nl11, c11, d11, cu11, cp11, cl11⟩ xs11 k → w8.heap.size ≤ k ∧ k < w11.heap.size) := Lib.hid (fun k hk => by have h9 := room_rng2 own11 k hk; (try simp at h9); omega)
      clear own11
      go_wp2_with fail
      refine (eqRoom_any ⟨A11, B11, U11, R11, L11, n11, m11, nu11, np11, nl11, c11, d11, cu11, cp11, cl11⟩ ⟨A6, B6, U6, R6, L6, n6, m6, nu6, np6, nl6, c6, d6, cu6, cp6, cl6⟩ EV _ (OR11.out.bel (by repeat (first | exact Below.refl _ _ | assumption | (refine bstep ?_ (below_drewN _ _)) | exact bstep (by assumption) (by assumption) | (refine bstep ?_ (below_alloc _ _)) | (refine bstep ?_ (by assumption)) | (refine Below.setCell ?_ (by simp <;> omega) _) | refine Below.drew ?_ | (refine Below.trans ?_ (by assumption))))).rd (OR6.out.bel (by repeat (first | exact Below.refl _ _ | assumption | (refine bstep ?_ (below_drewN _ _)) | exact bstep (by assumption) (by assumption) | (refine bstep ?_ (below_alloc _ _)) | (refine bstep ?_ (by assumption)) | (refine Below.setCell ?_ (by simp <;> omega) _) | refine Below.drew ?_ | (refine Below.trans ?_ (by assumption))))).rd).mono ?_
      rintro e w12 ⟨rfl, hb12⟩
      have hs12 := hb12.size
      (try simp at hs12)
      have hy12_0 : w.heap.size < w12.heap.size := by omega
      have hk12_0 := fun o => hb12.cell (p := ⟨w.heap.size, o, none⟩) (by first | omega | (simp <;> omega))
      have hg12_0 := fun o => hb12.frozen (p := ⟨w.heap.size, o, none⟩) (by first | omega | (simp <;> omega))
      have hy12_1 : w.heap.size + 1 < w12.heap.size := by omega
      have hk12_1 := fun o => hb12.cell (p := ⟨w.heap.size + 1, o, none⟩) (by first | omega | (simp <;> omega))
      have hg12_1 := fun o => hb12.frozen (p := ⟨w.heap.size + 1, o, none⟩) (by first | omega | (simp <;> omega))
      have hy12_2 : b6 < w12.heap.size := by omega
      have hk12_2 := fun o => hb12.cell (p := ⟨b6, o, none⟩) (by first | omega | (simp <;> omega))
      have hg12_2 := fun o => hb12.frozen (p := ⟨b6, o, none⟩) (by first | omega | (simp <;> omega))
      have hy12_3 : w7.heap.size < w12.heap.size := by omega
      have hk12_3 := fun o => hb12.cell (p := ⟨w7.heap.size, o, none⟩) (by first | omega | (simp <;> omega))
      have hg12_3 := fun o => hb12.frozen (p := ⟨w7.heap.size, o, none⟩) (by first | omega | (simp <;> omega))
      have hy12_4 : b11 < w12.heap.size := by omega
      have hk12_4 := fun o => hb12.cell (p := ⟨b11, o, none⟩) (by first | omega | (simp <;> omega))
      have hg12_4 := fun o => hb12.frozen (p := ⟨b11, o, none⟩) (by first | omega | (simp <;> omega))
      go_wp2_with fail
      go_region_held3 (fun w' => w'.cell? ⟨w.heap.size, 0, none⟩ = some (.slice A n c) ∧ w'.cell? ⟨w.heap.size, 1, none⟩ = some (.slice B m d) ∧ w'.cell? ⟨w.heap.size, 2, none⟩ = some (.slice U nu cu) ∧ w'.cell? ⟨w.heap.size, 3, none⟩ = some (.slice R np cp) ∧ w'.cell? ⟨w.heap.size, 4, none⟩ = some (.slice L nl cl) ∧ w'.cell? ⟨w7.heap.size, 0, none⟩ = some (.slice A7 n7 c7) ∧ w'.cell? ⟨w7.heap.size, 1, none⟩ = some (.slice B7 m7 d7) ∧ w'.cell? ⟨w7.heap.size, 2, none⟩ = some (.slice U7 nu7 cu7) ∧ w'.cell? ⟨w7.heap.size, 3, none⟩ = some (.slice R7 np7 cp7) ∧ w'.cell? ⟨w7.heap.size, 4, none⟩ = some (.slice L7 nl7 cl7)) (simp [go_sem, *, World.cell?_alloc_some, World.cell?_setCell_far, Nat.lt_add_right, Nat.ne_of_gt]) (first | (go_at_call 37; refine (toRoom_any ⟨A, B, U, R, L, n, m, nu, np, nl, c, d, cu, cp, cl⟩ r _ SZ.out (HR.out.below (by repeat (first | exact Below.refl _ _ | assumption | (refine bstep ?_ (below_drewN _ _)) | exact bstep (by assumption) (by assumption) | (refine bstep ?_ (below_alloc _ _)) | (refine bstep ?_ (by assumption)) | (refine Below.setCell ?_ (by simp <;> omega) _) | refine Below.drew ?_ | (refine Below.trans ?_ (by assumption)))))).mono ?_; rintro e w13 ⟨⟨A13, B13, U13, R13, L13, n13, m13, nu13, np13, nl13, c13, d13, cu13, cp13, cl13⟩, xs13, rfl, own13, hb13⟩; have hs13 := hb13.size; (try simp at hs13); have hy13_0 : w.heap.size < w13.heap.size := (by omega); have hk13_0 := fun o => hb13.cell (p := ⟨w.heap.size, o, none⟩) (by first | omega | (simp <;> omega)); have hg13_0 := fun o => hb13.frozen (p := ⟨w.heap.size, o, none⟩) (by first | omega | (simp <;> omega)); have hy13_1 : w.heap.size + 1 < w13.heap.size := (by omega); have hk13_1 := fun o => hb13.cell (p := ⟨w.heap.size + 1, o, none⟩) (by first | omega | (simp <;> omega)); have hg13_1 := fun o => hb13.frozen (p := ⟨w.heap.size + 1, o, none⟩) (by first | omega | (simp <;> omega)); have hy13_2 : b6 < w13.heap.size := (by omega); have hk13_2 := fun o => hb13.cell (p := ⟨b6, o, none⟩) (by first | omega | (simp <;> omega)); have hg13_2 := fun o => hb13.frozen (p := ⟨b6, o, none⟩) (by first | omega | (simp <;> omega)); have hy13_3 : w7.heap.size < w13.heap.size := (by omega); have hk13_3 := fun o => hb13.cell (p := ⟨w7.heap.size, o, none⟩) (by first | omega | (simp <;> omega)); have hg13_3 := fun o => hb13.frozen (p := ⟨w7.heap.size, o, none⟩) (by first | omega | (simp <;> omega)); have hy13_4 : b11 < w13.heap.size := (by omega); have hk13_4 := fun o => hb13.cell (p := ⟨b11, o, none⟩) (by first | omega | (simp <;> omega)); have hg13_4 := fun o => hb13.frozen (p := ⟨b11, o, none⟩) (by first | omega | (simp <;> omega)); have OR13 := Lib.hid own13; have RG13 : Hid (∀ k, atQ ⟨A13, B13, U13, R13, L13, n13, m13, nu13, np13, nl13, c13, d13, cu13, cp13, cl13⟩ xs13 k → w12.heap.size ≤ k ∧ k < w13.heap.size) := Lib.hid (fun k hk => by have h9 := room_rng2 own13 k hk; (try simp at h9); omega); clear own13; dsimp only [RA.v]) | (go_at_call 40; refine (eqRoom_any ⟨A7, B7, U7, R7, L7, n7, m7, nu7, np7, nl7, c7, d7, cu7, cp7, cl7⟩ ⟨A13, B13, U13, R13, L13, n13, m13, nu13, np13, nl13, c13, d13, cu13, cp13, cl13⟩ r _ (OR7.out.bel (by repeat (first | exact Below.refl _ _ | assumption | (refine bstep ?_ (below_drewN _ _)) | exact bstep (by assumption) (by assumption) | (refine bstep ?_ (below_alloc _ _)) | (refine bstep ?_ (by assumption)) | (refine Below.setCell ?_ (by simp <;> omega) _) | refine Below.drew ?_ | (refine Below.trans ?_ (by assumption))))).rd (OR13.out.bel (by repeat (first | exact Below.refl _ _ | assumption | (refine bstep ?_ (below_drewN _ _)) | exact bstep (by assumption) (by assumption) | (refine bstep ?_ (below_alloc _ _)) | (refine bstep ?_ (by assumption)) | (refine Below.setCell ?_ (by simp <;> omega) _) | refine Below.drew ?_ | (refine Below.trans ?_ (by assumption))))).rd).mono ?_; rintro e w14 ⟨rfl, hb14⟩; have hs14 := hb14.size; (try simp at hs14); have hy14_0 : w.heap.size < w14.heap.size := (by omega); have hk14_0 := fun o => hb14.cell (p := ⟨w.heap.size, o, none⟩) (by first | omega | (simp <;> omega)); have hg14_0 := fun o => hb14.frozen (p := ⟨w.heap.size, o, none⟩) (by first | omega | (simp <;> omega)); have hy14_1 : w.heap.size + 1 < w14.heap.size := (by omega); have hk14_1 := fun o => hb14.cell (p := ⟨w.heap.size + 1, o, none⟩) (by first | omega | (simp <;> omega)); have hg14_1 := fun o => hb14.frozen (p := ⟨w.heap.size + 1, o, none⟩) (by first | omega | (simp <;> omega)); have hy14_2 : b6 < w14.heap.size := (by omega); have hk14_2 := fun o => hb14.cell (p := ⟨b6, o, none⟩) (by first | omega | (simp <;> omega)); have hg14_2 := fun o => hb14.frozen (p := ⟨b6, o, none⟩) (by first | omega | (simp <;> omega)); have hy14_3 : w7.heap.size < w14.heap.size := (by omega); have hk14_3 := fun o => hb14.cell (p := ⟨w7.heap.size, o, none⟩) (by first | omega | (simp <;> omega)); have hg14_3 := fun o => hb14.frozen (p := ⟨w7.heap.size, o, none⟩) (by first | omega | (simp <;> omega)); have hy14_4 : b11 < w14.heap.size := (by omega); have hk14_4 := fun o => hb14.cell (p := ⟨b11, o, none⟩) (by first | omega | (simp <;> omega)); have hg14_4 := fun o => hb14.frozen (p := ⟨b11, o, none⟩) (by first | omega | (simp <;> omega))))
      go_wp2_with fail
      refine (toIntS_any D k e nd _ HK.out (HD.out.below (by repeat (first | exact Below.refl _ _ | assumption | (refine bstep ?_ (below_drewN _ _)) | exact bstep (by assumption) (by assumption) | (refine bstep ?_ (below_alloc _ _)) | (refine bstep ?_ (by assumption)) | (refine Below.setCell ?_ (by simp <;> omega) _) | refine Below.drew ?_ | (refine Below.trans ?_ (by assumption)))))).mono ?_
      rintro e w15 ⟨v15, rfl, own15, hb15⟩
      have hs15 := hb15.size
      (try simp at hs15)
      have hy15_0 : w.heap.size < w15.heap.size := by omega
      have hk15_0 := fun o => hb15.cell (p := ⟨w.heap.size, o, none⟩) (by first | omega | (simp <;> omega))
      have hg15_0 := fun o => hb15.frozen (p := ⟨w.heap.size, o, none⟩) (by first | omega | (simp <;> omega))
      have hy15_1 : w.heap.size + 1 < w15.heap.size := by omega
      have hk15_1 := fun o => hb15.cell (p := ⟨w.heap.size + 1, o, none⟩) (by first | omega | (simp <;> omega))
      have hg15_1 := fun o => hb15.frozen (p := ⟨w.heap.size + 1, o, none⟩) (by first | omega | (simp <;> omega))
      have hy15_2 : b6 < w15.heap.size := by omega
      have hk15_2 := fun o => hb15.cell (p := ⟨b6, o, none⟩) (by first | omega | (simp <;> omega))
      have hg15_2 := fun o => hb15.frozen (p := ⟨b6, o, none⟩) (by first | omega | (simp <;> omega))
      have hy15_3 : w7.heap.size < w15.heap.size := by omega
      have hk15_3 := fun o => hb15.cell (p := ⟨w7.heap.size, o, none⟩) (by first | omega | (simp <;> omega))
      have hg15_3 := fun o => hb15.frozen (p := ⟨w7.heap.size, o, none⟩) (by first | omega | (simp <;> omega))
      have hy15_4 : b11 < w15.heap.size := by omega
      have hk15_4 := fun o => hb15.cell (p := ⟨b11, o, none⟩) (by first | omega | (simp <;> omega))
      have hg15_4 := fun o => hb15.frozen (p := ⟨b11, o, none⟩) (by first | omega | (simp <;> omega))
      obtain ⟨V15, d15, rfl, _⟩ := own_rd own15
      have OI15 := Lib.hid own15
      have IG15 : Hid (∀ k, atB V15 k → w14.heap.size ≤ k ∧ k < w15.heap.size) := Lib.hid (fun k hk => by have h9 := own_rng own15 k hk; (try simp at h9); omega)
      clear own15
      go_wp2_with fail
      refine (eqIntS_any V8 V15 _ d8 d15 nd _ (Nat.le_trans HK.out (by decide)) (own_rdd' (own_bel OI8.out (by repeat (first | exact Below.refl _ _ | assumption | (refine bstep ?_ (below_drewN _ _)) | exact bstep (by assumption) (by assumption) | (refine bstep ?_ (below_alloc _ _)) | (refine bstep ?_ (by assumption)) | (refine Below.setCell ?_ (by simp <;> omega) _) | refine Below.drew ?_ | (refine Below.trans ?_ (by assumption)))))) (own_rdd' (own_bel OI15.out (by repeat (first | exact Below.refl _ _ | assumption | (refine bstep ?_ (below_drewN _ _)) | exact bstep (by assumption) (by assumption) | (refine bstep ?_ (below_alloc _ _)) | (refine bstep ?_ (by assumption)) | (refine Below.setCell ?_ (by simp <;> omega) _) | refine Below.drew ?_ | (refine Below.trans ?_ (by assumption))))))).mono ?_
      rintro e w16 ⟨rfl, k16, hw16⟩
      have hb16 := below_eqN hw16
      clear hw16
      have hs16 := hb16.size
      (try simp at hs16)
      have hy16_0 : w.heap.size < w16.heap.size := by omega
      have hk16_0 := fun o => hb16.cell (p := ⟨w.heap.size, o, none⟩) (by first | omega | (simp <;> omega))
      have hg16_0 := fun o => hb16.frozen (p := ⟨w.heap.size, o, none⟩) (by first | omega | (simp <;> omega))
      have hy16_1 : w.heap.size + 1 < w16.heap.size := by omega
      have hk16_1 := fun o => hb16.cell (p := ⟨w.heap.size + 1, o, none⟩) (by first | omega | (simp <;> omega))
      have hg16_1 := fun o => hb16.frozen (p := ⟨w.heap.size + 1, o, none⟩) (by first | omega | (simp <;> omega))
      have hy16_2 : b6 < w16.heap.size := by omega
      have hk16_2 := fun o => hb16.cell (p := ⟨b6, o, none⟩) (by first | omega | (simp <;> omega))
      have hg16_2 := fun o => hb16.frozen (p := ⟨b6, o, none⟩) (by first | omega | (simp <;> omega))
      have hy16_3 : w7.heap.size < w16.heap.size := by omega
      have hk16_3 := fun o => hb16.cell (p := ⟨w7.heap.size, o, none⟩) (by first | omega | (simp <;> omega))
      have hg16_3 := fun o => hb16.frozen (p := ⟨w7.heap.size, o, none⟩) (by first | omega | (simp <;> omega))
      have hy16_4 : b11 < w16.heap.size := by omega
      have hk16_4 := fun o => hb16.cell (p := ⟨b11, o, none⟩) (by first | omega | (simp <;> omega))
      have hg16_4 := fun o => hb16.frozen (p := ⟨b11, o, none⟩) (by first | omega | (simp <;> omega))
      have RX9 : Hid (∀ k, atR ⟨A7, B7, U7, R7, L7, n7, m7, nu7, np7, nl7, c7, d7, cu7, cp7, cl7⟩ xs7 k → w6.heap.size ≤ k ∧ k < w7.heap.size) := Lib.hid (fun k hk => RG7.out k (Or.inl hk))
      go_wp2_with fail
      refine (markRoom_rd ⟨A7, B7, U7, R7, L7, n7, m7, nu7, np7, nl7, c7, d7, cu7, cp7, cl7⟩ r xs7 _ _ (OR7.out.bel (by repeat (first | exact Below.refl _ _ | assumption | (refine bstep ?_ (below_drewN _ _)) | exact bstep (by assumption) (by assumption) | (refine bstep ?_ (below_alloc _ _)) | (refine bstep ?_ (by assumption)) | (refine Below.setCell ?_ (by simp <;> omega) _) | refine Below.drew ?_ | (refine Below.trans ?_ (by assumption)))))).mono ?_
      rintro e w17 ⟨rfl, mk17, fr17⟩
      have hs17 := fr17.size
      (try simp at hs17)
      have hB17 : Below w.heap.size _ w17 := fr17.below (fun k hk => by have q9 := RX9.out _ hk; omega) (by first | omega | (simp <;> omega))
      have hy17_0 : w.heap.size < w17.heap.size := by omega
      have hk17_0 := fun o => fr17.cell (b := w.heap.size) (by first | omega | (simp <;> omega)) (fun h => by have q9 := RX9.out _ h; omega) o
      have hg17_0 := fun o => fr17.frozen (b := w.heap.size) (by first | omega | (simp <;> omega)) (fun h => by have q9 := RX9.out _ h; omega) o
      have hy17_1 : w.heap.size + 1 < w17.heap.size := by omega
      have hk17_1 := fun o => fr17.cell (b := w.heap.size + 1) (by first | omega | (simp <;> omega)) (fun h => by have q9 := RX9.out _ h; omega) o
      have hg17_1 := fun o => fr17.frozen (b := w.heap.size + 1) (by first | omega | (simp <;> omega)) (fun h => by have q9 := RX9.out _ h; omega) o
      have hy17_2 : b6 < w17.heap.size := by omega
      have hk17_2 := fun o => fr17.cell (b := b6) (by first | omega | (simp <;> omega)) (fun h => by have q9 := RX9.out _ h; omega) o
      have hg17_2 := fun o => fr17.frozen (b := b6) (by first | omega | (simp <;> omega)) (fun h => by have q9 := RX9.out _ h; omega) o
      have hy17_3 : w7.heap.size < w17.heap.size := by omega
      have hk17_3 := fun o => fr17.cell (b := w7.heap.size) (by first | omega | (simp <;> omega)) (fun h => by have q9 := RX9.out _ h; omega) o
      have hg17_3 := fun o => fr17.frozen (b := w7.heap.size) (by first | omega | (simp <;> omega)) (fun h => by have q9 := RX9.out _ h; omega) o
      have hy17_4 : b11 < w17.heap.size := by omega
      have hk17_4 := fun o => fr17.cell (b := b11) (by first | omega | (simp <;> omega)) (fun h => by have q9 := RX9.out _ h; omega) o
      have hg17_4 := fun o => fr17.frozen (b := b11) (by first | omega | (simp <;> omega)) (fun h => by have q9 := RX9.out _ h; omega) o
      have OR6_17 := Lib.hid ((OR6.out.bel (by repeat (first | exact Below.refl _ _ | assumption | (refine bstep ?_ (below_drewN _ _)) | exact bstep (by assumption) (by assumption) | (refine bstep ?_ (below_alloc _ _)) | (refine bstep ?_ (by assumption)) | (refine Below.setCell ?_ (by simp <;> omega) _) | refine Below.drew ?_ | (refine Below.trans ?_ (by assumption))))).fr fr17 (fun k h1 h2 => by have q1 := RG6.out k h1; have q2 := RX9.out k h2; omega))
      have OR11_17 := Lib.hid ((OR11.out.bel (by repeat (first | exact Below.refl _ _ | assumption | (refine bstep ?_ (below_drewN _ _)) | exact bstep (by assumption) (by assumption) | (refine bstep ?_ (below_alloc _ _)) | (refine bstep ?_ (by assumption)) | (refine Below.setCell ?_ (by simp <;> omega) _) | refine Below.drew ?_ | (refine Below.trans ?_ (by assumption))))).fr fr17 (fun k h1 h2 => by have q1 := RG11.out k h1; have q2 := RX9.out k h2; omega))
      have OI8_17 := Lib.hid (own_fr (own_bel OI8.out (by repeat (first | exact Below.refl _ _ | assumption | (refine bstep ?_ (below_drewN _ _)) | exact bstep (by assumption) (by assumption) | (refine bstep ?_ (below_alloc _ _)) | (refine bstep ?_ (by assumption)) | (refine Below.setCell ?_ (by simp <;> omega) _) | refine Below.drew ?_ | (refine Below.trans ?_ (by assumption))))) fr17 (fun k h1 h2 => by have q1 := IG8.out k (own_atB OI8.out h1); have q2 := RX9.out k h2; omega))
      have TOT := mk17.tot
      clear mk17
      obtain ⟨K17, htot⟩ : ∃ y, y = rmTot ⟨A7, B7, U7, R7, L7, n7, m7, nu7, np7, nl7, c7, d7, cu7, cp7, cl7⟩ r := ⟨_, rfl⟩
      rw [← htot] at TOT ⊢
      clear htot
      obtain ⟨hK17, hL17⟩ := TOT
      go_wp2_with fail
      refine (markIntG V8 k d8 _ K17 _ (Nat.le_trans HK.out (by decide)) hK17 hL17 (own_wr2 (own_bel OI8_17.out (by repeat (first | exact Below.refl _ _ | assumption | (refine bstep ?_ (below_drewN _ _)) | exact bstep (by assumption) (by assumption) | (refine bstep ?_ (below_alloc _ _)) | (refine bstep ?_ (by assumption)) | (refine Below.setCell ?_ (by simp <;> omega) _) | refine Below.drew ?_ | (refine Below.trans ?_ (by assumption))))))).mono ?_
      rintro e w18 ⟨rfl, rd18, fr18⟩
      have hs18 := fr18.size
      (try simp at hs18)
      have hB18 : Below w.heap.size _ w18 := fr18.below (fun k hk => by have q9 := IG8.out _ hk; omega) (by first | omega | (simp <;> omega))
      have hy18_0 : w.heap.size < w18.heap.size := by omega
      have hk18_0 := fun o => fr18.cell (b := w.heap.size) (by first | omega | (simp <;> omega)) (fun h => by have q9 := IG8.out _ h; omega) o
      have hg18_0 := fun o => fr18.frozen (b := w.heap.size) (by first | omega | (simp <;> omega)) (fun h => by have q9 := IG8.out _ h; omega) o
      have hy18_1 : w.heap.size + 1 < w18.heap.size := by omega
      have hk18_1 := fun o => fr18.cell (b := w.heap.size + 1) (by first | omega | (simp <;> omega)) (fun h => by have q9 := IG8.out _ h; omega) o
      have hg18_1 := fun o => fr18.frozen (b := w.heap.size + 1) (by first | omega | (simp <;> omega)) (fun h => by have q9 := IG8.out _ h; omega) o
      have hy18_2 : b6 < w18.heap.size := by omega
      have hk18_2 := fun o => fr18.cell (b := b6) (by first | omega | (simp <;> omega)) (fun h => by have q9 := IG8.out _ h; omega) o
      have hg18_2 := fun o => fr18.frozen (b := b6) (by first | omega | (simp <;> omega)) (fun h => by have q9 := IG8.out _ h; omega) o
      have hy18_3 : w7.heap.size < w18.heap.size := by omega
      have hk18_3 := fun o => fr18.cell (b := w7.heap.size) (by first | omega | (simp <;> omega)) (fun h => by have q9 := IG8.out _ h; omega) o
      have hg18_3 := fun o => fr18.frozen (b := w7.heap.size) (by first | omega | (simp <;> omega)) (fun h => by have q9 := IG8.out _ h; omega) o
      have hy18_4 : b11 < w18.heap.size := by omega
      have hk18_4 := fun o => fr18.cell (b := b11) (by first | omega | (simp <;> omega)) (fun h => by have q9 := IG8.out _ h; omega) o
      have hg18_4 := fun o => fr18.frozen (b := b11) (by first | omega | (simp <;> omega)) (fun h => by have q9 := IG8.out _ h; omega) o
      have OR6_18 := Lib.hid ((OR6_17.out.bel (by repeat (first | exact Below.refl _ _ | assumption | (refine bstep ?_ (below_drewN _ _)) | exact bstep (by assumption) (by assumption) | (refine bstep ?_ (below_alloc _ _)) | (refine bstep ?_ (by assumption)) | (refine Below.setCell ?_ (by simp <;> omega) _) | refine Below.drew ?_ | (refine Below.trans ?_ (by assumption))))).fr fr18 (fun k h1 h2 => by have q1 := RG6.out k h1; have q2 := IG8.out k h2; omega))
      have OR11_18 := Lib.hid ((OR11_17.out.bel (by repeat (first | exact Below.refl _ _ | assumption | (refine bstep ?_ (below_drewN _ _)) | exact bstep (by assumption) (by assumption) | (refine bstep ?_ (below_alloc _ _)) | (refine bstep ?_ (by assumption)) | (refine Below.setCell ?_ (by simp <;> omega) _) | refine Below.drew ?_ | (refine Below.trans ?_ (by assumption))))).fr fr18 (fun k h1 h2 => by have q1 := RG11.out k h1; have q2 := IG8.out k h2; omega))
      clear rd18
      have hKK : ¬ K17 + 1 * (k : Int) < 0 := by have := HK.out; omega
      go_wp2_with fail
      refine (eqRoom_any ⟨A11, B11, U11, R11, L11, n11, m11, nu11, np11, nl11, c11, d11, cu11, cp11, cl11⟩ ⟨A6, B6, U6, R6, L6, n6, m6, nu6, np6, nl6, c6, d6, cu6, cp6, cl6⟩ EV _ (OR11_18.out.bel (by repeat (first | exact Below.refl _ _ | assumption | (refine bstep ?_ (below_drewN _ _)) | exact bstep (by assumption) (by assumption) | (refine bstep ?_ (below_alloc _ _)) | (refine bstep ?_ (by assumption)) | (refine Below.setCell ?_ (by simp <;> omega) _) | refine Below.drew ?_ | (refine Below.trans ?_ (by assumption))))).rd (OR6_18.out.bel (by repeat (first | exact Below.refl _ _ | assumption | (refine bstep ?_ (below_drewN _ _)) | exact bstep (by assumption) (by assumption) | (refine bstep ?_ (below_alloc _ _)) | (refine bstep ?_ (by assumption)) | (refine Below.setCell ?_ (by simp <;> omega) _) | refine Below.drew ?_ | (refine Below.trans ?_ (by assumption))))).rd).mono ?_
      rintro e w19 ⟨rfl, hb19⟩
      have hs19 := hb19.size
      (try simp at hs19)
      have hy19_0 : w.heap.size < w19.heap.size := by omega
      have hk19_0 := fun o => hb19.cell (p := ⟨w.heap.size, o, none⟩) (by first | omega | (simp <;> omega))
      have hg19_0 := fun o => hb19.frozen (p := ⟨w.heap.size, o, none⟩) (by first | omega | (simp <;> omega))
      have hy19_1 : w.heap.size + 1 < w19.heap.size := by omega
      have hk19_1 := fun o => hb19.cell (p := ⟨w.heap.size + 1, o, none⟩) (by first | omega | (simp <;> omega))
      have hg19_1 := fun o => hb19.frozen (p := ⟨w.heap.size + 1, o, none⟩) (by first | omega | (simp <;> omega))
      have hy19_2 : b6 < w19.heap.size := by omega
      have hk19_2 := fun o => hb19.cell (p := ⟨b6, o, none⟩) (by first | omega | (simp <;> omega))
      have hg19_2 := fun o => hb19.frozen (p := ⟨b6, o, none⟩) (by first | omega | (simp <;> omega))
      have hy19_3 : w7.heap.size < w19.heap.size := by omega
      have hk19_3 := fun o => hb19.cell (p := ⟨w7.heap.size, o, none⟩) (by first | omega | (simp <;> omega))
      have hg19_3 := fun o => hb19.frozen (p := ⟨w7.heap.size, o, none⟩) (by first | omega | (simp <;> omega))
      have hy19_4 : b11 < w19.heap.size := by omega
      have hk19_4 := fun o => hb19.cell (p := ⟨b11, o, none⟩) (by first | omega | (simp <;> omega))
      have hg19_4 := fun o => hb19.frozen (p := ⟨b11, o, none⟩) (by first | omega | (simp <;> omega))
      have RX8 : Hid (∀ k, atR ⟨A11, B11, U11, R11, L11, n11, m11, nu11, np11, nl11, c11, d11, cu11, cp11, cl11⟩ xs11 k → w8.heap.size ≤ k ∧ k < w11.heap.size) := Lib.hid (fun k hk => RG11.out k (Or.inl hk))
      go_wp2_with fail
      refine (markRoom_rd ⟨A11, B11, U11, R11, L11, n11, m11, nu11, np11, nl11, c11, d11, cu11, cp11, cl11⟩ EV xs11 _ _ (OR11_18.out.bel (by repeat (first | exact Below.refl _ _ | assumption | (refine bstep ?_ (below_drewN _ _)) | exact bstep (by assumption) (by assumption) | (refine bstep ?_ (below_alloc _ _)) | (refine bstep ?_ (by assumption)) | (refine Below.setCell ?_ (by simp <;> omega) _) | refine Below.drew ?_ | (refine Below.trans ?_ (by assumption)))))).mono ?_
      rintro e w20 ⟨rfl, mk20, fr20⟩
      have hs20 := fr20.size
      (try simp at hs20)
      have hB20 : Below w.heap.size _ w20 := fr20.below (fun k hk => by have q9 := RX8.out _ hk; omega) (by first | omega | (simp <;> omega))
      have hy20_0 : w.heap.size < w20.heap.size := by omega
      have hk20_0 := fun o => fr20.cell (b := w.heap.size) (by first | omega | (simp <;> omega)) (fun h => by have q9 := RX8.out _ h; omega) o
      have hg20_0 := fun o => fr20.frozen (b := w.heap.size) (by first | omega | (simp <;> omega)) (fun h => by have q9 := RX8.out _ h; omega) o
      have hy20_1 : w.heap.size + 1 < w20.heap.size := by omega
      have hk20_1 := fun o => fr20.cell (b := w.heap.size + 1) (by first | omega | (simp <;> omega)) (fun h => by have q9 := RX8.out _ h; omega) o
      have hg20_1 := fun o => fr20.frozen (b := w.heap.size + 1) (by first | omega | (simp <;> omega)) (fun h => by have q9 := RX8.out _ h; omega) o
      have hy20_2 : b6 < w20.heap.size := by omega
      have hk20_2 := fun o => fr20.cell (b := b6) (by first | omega | (simp <;> omega)) (fun h => by have q9 := RX8.out _ h; omega) o
      have hg20_2 := fun o => fr20.frozen (b := b6) (by first | omega | (simp <;> omega)) (fun h => by have q9 := RX8.out _ h; omega) o
      have hy20_3 : w7.heap.size < w20.heap.size := by omega
      have hk20_3 := fun o => fr20.cell (b := w7.heap.size) (by first | omega | (simp <;> omega)) (fun h => by have q9 := RX8.out _ h; omega) o
      have hg20_3 := fun o => fr20.frozen (b := w7.heap.size) (by first | omega | (simp <;> omega)) (fun h => by have q9 := RX8.out _ h; omega) o
      have hy20_4 : b11 < w20.heap.size := by omega
      have hk20_4 := fun o => fr20.cell (b := b11) (by first | omega | (simp <;> omega)) (fun h => by exact NB11.out (Or.inl h)) o
      have hg20_4 := fun o => fr20.frozen (b := b11) (by first | omega | (simp <;> omega)) (fun h => by exact NB11.out (Or.inl h)) o
      have OR6_20 := Lib.hid ((OR6_18.out.bel (by repeat (first | exact Below.refl _ _ | assumption | (refine bstep ?_ (below_drewN _ _)) | exact bstep (by assumption) (by assumption) | (refine bstep ?_ (below_alloc _ _)) | (refine bstep ?_ (by assumption)) | (refine Below.setCell ?_ (by simp <;> omega) _) | refine Below.drew ?_ | (refine Below.trans ?_ (by assumption))))).fr fr20 (fun k h1 h2 => by have q1 := RG6.out k h1; have q2 := RX8.out k h2; omega))
      have MK20 := Lib.hid mk20
      have TOT := MK20.out.tot
      clear mk20
      obtain ⟨tot, htot⟩ : ∃ y, y = rmTot ⟨A11, B11, U11, R11, L11, n11, m11, nu11, np11, nl11, c11, d11, cu11, cp11, cl11⟩ EV := ⟨_, rfl⟩
      rw [← htot] at TOT ⊢
      have HTOT := Lib.hid htot
      clear htot
      obtain ⟨tot0, tot1⟩ := TOT
      have totn : ¬ tot < 0 := by omega
      go_wp2_with fail
      refine (heldRoom_rd ⟨A11, B11, U11, R11, L11, n11, m11, nu11, np11, nl11, c11, d11, cu11, cp11, cl11⟩ EV xs11 _ (MK20.out.bel (by repeat (first | exact Below.refl _ _ | assumption | (refine bstep ?_ (below_drewN _ _)) | exact bstep (by assumption) (by assumption) | (refine bstep ?_ (below_alloc _ _)) | (refine bstep ?_ (by assumption)) | (refine Below.setCell ?_ (by simp <;> omega) _) | refine Below.drew ?_ | (refine Below.trans ?_ (by assumption)))))).mono ?_
      rintro e w21 ⟨rfl, hb21⟩
      have hs21 := hb21.size
      (try simp at hs21)
      have hy21_0 : w.heap.size < w21.heap.size := by omega
      have hk21_0 := fun o => hb21.cell (p := ⟨w.heap.size, o, none⟩) (by first | omega | (simp <;> omega))
      have hg21_0 := fun o => hb21.frozen (p := ⟨w.heap.size, o, none⟩) (by first | omega | (simp <;> omega))
      have hy21_1 : w.heap.size + 1 < w21.heap.size := by omega
      have hk21_1 := fun o => hb21.cell (p := ⟨w.heap.size + 1, o, none⟩) (by first | omega | (simp <;> omega))
      have hg21_1 := fun o => hb21.frozen (p := ⟨w.heap.size + 1, o, none⟩) (by first | omega | (simp <;> omega))
      have hy21_2 : b6 < w21.heap.size := by omega
      have hk21_2 := fun o => hb21.cell (p := ⟨b6, o, none⟩) (by first | omega | (simp <;> omega))
      have hg21_2 := fun o => hb21.frozen (p := ⟨b6, o, none⟩) (by first | omega | (simp <;> omega))
      have hy21_3 : w7.heap.size < w21.heap.size := by omega
      have hk21_3 := fun o => hb21.cell (p := ⟨w7.heap.size, o, none⟩) (by first | omega | (simp <;> omega))
      have hg21_3 := fun o => hb21.frozen (p := ⟨w7.heap.size, o, none⟩) (by first | omega | (simp <;> omega))
      have hy21_4 : b11 < w21.heap.size := by omega
      have hk21_4 := fun o => hb21.cell (p := ⟨b11, o, none⟩) (by first | omega | (simp <;> omega))
      have hg21_4 := fun o => hb21.frozen (p := ⟨b11, o, none⟩) (by first | omega | (simp <;> omega))
      rw [← HTOT.out]
      go_wp2_with fail
      go_cut [21, 22] (fun p9 q9 wr => ∃ (bw : Nat) (aR : RA) (xR : List Value), p9 = .pointer (some ⟨bw, 0, none⟩) ∧ q9 = .bool EB ∧ wr.heap[bw]? = some (.cells #[.slice aR.A aR.n aR.c, .slice aR.B aR.m aR.d, .slice aR.U aR.nu aR.cu, .slice aR.R aR.np aR.cp, .slice aR.L aR.nl aR.cl] 33 (0, 0)) ∧ RoomOwn wr w21.heap.size aR EV xR ∧ w21.heap.size ≤ bw ∧ Below w21.heap.size w21 wr)
      case first =>
        go_region_held3 (fun w' => w'.cell? ⟨w.heap.size, 0, none⟩ = some (.slice A n c) ∧ w'.cell? ⟨w.heap.size, 1, none⟩ = some (.slice B m d) ∧ w'.cell? ⟨w.heap.size, 2, none⟩ = some (.slice U nu cu) ∧ w'.cell? ⟨w.heap.size, 3, none⟩ = some (.slice R np cp) ∧ w'.cell? ⟨w.heap.size, 4, none⟩ = some (.slice L nl cl) ∧ w'.cell? ⟨w.heap.size + 1, 0, none⟩ = some (.int .i64 j.id) ∧ w'.cell? ⟨w.heap.size + 1, 1, none⟩ = some (.int .i64 j.pr) ∧ w'.cell? ⟨w.heap.size + 1, 2, none⟩ = some (.int .i64 j.nn) ∧ w'.cell? ⟨w.heap.size + 1, 3, none⟩ = some (.int .i64 j.na) ∧ w'.cell? ⟨w.heap.size + 1, 4, none⟩ = some (.int .i64 j.nb) ∧ w'.cell? ⟨w.heap.size + 1, 5, none⟩ = some (.int .i64 j.nc) ∧ w'.cell? ⟨w.heap.size + 1, 6, none⟩ = some (.int .i64 j.la) ∧ w'.cell? ⟨w.heap.size + 1, 7, none⟩ = some (.int .i64 j.lb) ∧ w'.cell? ⟨w.heap.size + 1, 8, none⟩ = some (.int .i64 j.lc) ∧ w'.cell? ⟨w.heap.size + 1, 9, none⟩ = some (.int .i64 j.wl) ∧ w'.cell? ⟨w.heap.size + 1, 10, none⟩ = some (.int .i64 j.lv)) (simp [go_sem, *, World.cell?_alloc_some, World.cell?_setCell_far, Nat.lt_add_right, Nat.ne_of_gt]) (first | (go_at_call 37; refine (toRoom_any ⟨A, B, U, R, L, n, m, nu, np, nl, c, d, cu, cp, cl⟩ r _ SZ.out (HR.out.below (by repeat (first | exact Below.refl _ _ | assumption | (refine bstep ?_ (below_drewN _ _)) | exact bstep (by assumption) (by assumption) | (refine bstep ?_ (below_alloc _ _)) | (refine bstep ?_ (by assumption)) | (refine Below.setCell ?_ (by simp <;> omega) _) | refine Below.drew ?_ | (refine Below.trans ?_ (by assumption)))))).mono ?_; rintro e w22 ⟨⟨A22, B22, U22, R22, L22, n22, m22, nu22, np22, nl22, c22, d22, cu22, cp22, cl22⟩, xs22, rfl, own22, hb22⟩; have hs22 := hb22.size; (try simp at hs22); have hy22_0 : w.heap.size < w22.heap.size := (by omega); have hk22_0 := fun o => hb22.cell (p := ⟨w.heap.size, o, none⟩) (by first | omega | (simp <;> omega)); have hg22_0 := fun o => hb22.frozen (p := ⟨w.heap.size, o, none⟩) (by first | omega | (simp <;> omega)); have hy22_1 : w.heap.size + 1 < w22.heap.size := (by omega); have hk22_1 := fun o => hb22.cell (p := ⟨w.heap.size + 1, o, none⟩) (by first | omega | (simp <;> omega)); have hg22_1 := fun o => hb22.frozen (p := ⟨w.heap.size + 1, o, none⟩) (by first | omega | (simp <;> omega)); have hy22_2 : b6 < w22.heap.size := (by omega); have hk22_2 := fun o => hb22.cell (p := ⟨b6, o, none⟩) (by first | omega | (simp <;> omega)); have hg22_2 := fun o => hb22.frozen (p := ⟨b6, o, none⟩) (by first | omega | (simp <;> omega)); have hy22_3 : w7.heap.size < w22.heap.size := (by omega); have hk22_3 := fun o => hb22.cell (p := ⟨w7.heap.size, o, none⟩) (by first | omega | (simp <;> omega)); have hg22_3 := fun o => hb22.frozen (p := ⟨w7.heap.size, o, none⟩) (by first | omega | (simp <;> omega)); have hy22_4 : b11 < w22.heap.size := (by omega); have hk22_4 := fun o => hb22.cell (p := ⟨b11, o, none⟩) (by first | omega | (simp <;> omega)); have hg22_4 := fun o => hb22.frozen (p := ⟨b11, o, none⟩) (by first | omega | (simp <;> omega)); (try (have hxy220 : w21.heap.size < w22.heap.size := (by omega); have hxk220 := fun o => hb22.cell (p := ⟨w21.heap.size, o, none⟩) (by first | omega | (simp <;> omega)); have hxg220 := fun o => hb22.frozen (p := ⟨w21.heap.size, o, none⟩) (by first | omega | (simp <;> omega)))); have OR22 := Lib.hid own22; have RG22 : Hid (∀ k, atQ ⟨A22, B22, U22, R22, L22, n22, m22, nu22, np22, nl22, c22, d22, cu22, cp22, cl22⟩ xs22 k → w21.heap.size ≤ k ∧ k < w22.heap.size) := Lib.hid (fun k hk => by have h9 := room_rng2 own22 k hk; (try simp at h9); omega); clear own22; dsimp only [RA.v]) | (go_at_call 38; refine (toJob_any j _).mono ?_; rintro e w23 ⟨rfl, hb23⟩; have hs23 := hb23.size; (try simp at hs23); have hy23_0 : w.heap.size < w23.heap.size := (by omega); have hk23_0 := fun o => hb23.cell (p := ⟨w.heap.size, o, none⟩) (by first | omega | (simp <;> omega)); have hg23_0 := fun o => hb23.frozen (p := ⟨w.heap.size, o, none⟩) (by first | omega | (simp <;> omega)); have hy23_1 : w.heap.size + 1 < w23.heap.size := (by omega); have hk23_1 := fun o => hb23.cell (p := ⟨w.heap.size + 1, o, none⟩) (by first | omega | (simp <;> omega)); have hg23_1 := fun o => hb23.frozen (p := ⟨w.heap.size + 1, o, none⟩) (by first | omega | (simp <;> omega)); have hy23_2 : b6 < w23.heap.size := (by omega); have hk23_2 := fun o => hb23.cell (p := ⟨b6, o, none⟩) (by first | omega | (simp <;> omega)); have hg23_2 := fun o => hb23.frozen (p := ⟨b6, o, none⟩) (by first | omega | (simp <;> omega)); have hy23_3 : w7.heap.size < w23.heap.size := (by omega); have hk23_3 := fun o => hb23.cell (p := ⟨w7.heap.size, o, none⟩) (by first | omega | (simp <;> omega)); have hg23_3 := fun o => hb23.frozen (p := ⟨w7.heap.size, o, none⟩) (by first | omega | (simp <;> omega)); have hy23_4 : b11 < w23.heap.size := (by omega); have hk23_4 := fun o => hb23.cell (p := ⟨b11, o, none⟩) (by first | omega | (simp <;> omega)); have hg23_4 := fun o => hb23.frozen (p := ⟨b11, o, none⟩) (by first | omega | (simp <;> omega)); (try (have hxy230 : w21.heap.size < w23.heap.size := (by omega); have hxk230 := fun o => hb23.cell (p := ⟨w21.heap.size, o, none⟩) (by first | omega | (simp <;> omega)); have hxg230 := fun o => hb23.frozen (p := ⟨w21.heap.size, o, none⟩) (by first | omega | (simp <;> omega)))); (try (have hxy231 : w22.heap.size < w23.heap.size := (by omega); have hxk231 := fun o => hb23.cell (p := ⟨w22.heap.size, o, none⟩) (by first | omega | (simp <;> omega)); have hxg231 := fun o => hb23.frozen (p := ⟨w22.heap.size, o, none⟩) (by first | omega | (simp <;> omega))))) | (go_at_call 39; refine (toIntS_any D k e nd _ HK.out (HD.out.below (by repeat (first | exact Below.refl _ _ | assumption | (refine bstep ?_ (below_drewN _ _)) | exact bstep (by assumption) (by assumption) | (refine bstep ?_ (below_alloc _ _)) | (refine bstep ?_ (by assumption)) | (refine Below.setCell ?_ (by simp <;> omega) _) | refine Below.drew ?_ | (refine Below.trans ?_ (by assumption)))))).mono ?_; rintro e w24 ⟨v24, rfl, own24, hb24⟩; have hs24 := hb24.size; (try simp at hs24); have hy24_0 : w.heap.size < w24.heap.size := (by omega); have hk24_0 := fun o => hb24.cell (p := ⟨w.heap.size, o, none⟩) (by first | omega | (simp <;> omega)); have hg24_0 := fun o => hb24.frozen (p := ⟨w.heap.size, o, none⟩) (by first | omega | (simp <;> omega)); have hy24_1 : w.heap.size + 1 < w24.heap.size := (by omega); have hk24_1 := fun o => hb24.cell (p := ⟨w.heap.size + 1, o, none⟩) (by first | omega | (simp <;> omega)); have hg24_1 := fun o => hb24.frozen (p := ⟨w.heap.size + 1, o, none⟩) (by first | omega | (simp <;> omega)); have hy24_2 : b6 < w24.heap.size := (by omega); have hk24_2 := fun o => hb24.cell (p := ⟨b6, o, none⟩) (by first | omega | (simp <;> omega)); have hg24_2 := fun o => hb24.frozen (p := ⟨b6, o, none⟩) (by first | omega | (simp <;> omega)); have hy24_3 : w7.heap.size < w24.heap.size := (by omega); have hk24_3 := fun o => hb24.cell (p := ⟨w7.heap.size, o, none⟩) (by first | omega | (simp <;> omega)); have hg24_3 := fun o => hb24.frozen (p := ⟨w7.heap.size, o, none⟩) (by first | omega | (simp <;> omega)); have hy24_4 : b11 < w24.heap.size := (by omega); have hk24_4 := fun o => hb24.cell (p := ⟨b11, o, none⟩) (by first | omega | (simp <;> omega)); have hg24_4 := fun o => hb24.frozen (p := ⟨b11, o, none⟩) (by first | omega | (simp <;> omega)); (try (have hxy240 : w21.heap.size < w24.heap.size := (by omega); have hxk240 := fun o => hb24.cell (p := ⟨w21.heap.size, o, none⟩) (by first | omega | (simp <;> omega)); have hxg240 := fun o => hb24.frozen (p := ⟨w21.heap.size, o, none⟩) (by first | omega | (simp <;> omega)))); (try (have hxy241 : w22.heap.size < w24.heap.size := (by omega); have hxk241 := fun o => hb24.cell (p := ⟨w22.heap.size, o, none⟩) (by first | omega | (simp <;> omega)); have hxg241 := fun o => hb24.frozen (p := ⟨w22.heap.size, o, none⟩) (by first | omega | (simp <;> omega)))); (try (have hxy242 : w23.heap.size < w24.heap.size := (by omega); have hxk242 := fun o => hb24.cell (p := ⟨w23.heap.size, o, none⟩) (by first | omega | (simp <;> omega)); have hxg242 := fun o => hb24.frozen (p := ⟨w23.heap.size, o, none⟩) (by first | omega | (simp <;> omega)))); obtain ⟨V24, d24, rfl, _⟩ := own_rd own24; have OI24 := Lib.hid own24; have IG24 : Hid (∀ k, atB V24 k → w23.heap.size ≤ k ∧ k < w24.heap.size) := Lib.hid (fun k hk => by have h9 := own_rng own24 k hk; (try simp at h9); omega); clear own24) | (go_at_call 33; refine (HIC.out ⟨A22, B22, U22, R22, L22, n22, m22, nu22, np22, nl22, c22, d22, cu22, cp22, cl22⟩ xs22 _ V24 d24 _ _ (OR22.out.bel (by repeat (first | exact Below.refl _ _ | assumption | (refine bstep ?_ (below_drewN _ _)) | exact bstep (by assumption) (by assumption) | (refine bstep ?_ (below_alloc _ _)) | (refine bstep ?_ (by assumption)) | (refine Below.setCell ?_ (by simp <;> omega) _) | refine Below.drew ?_ | (refine Below.trans ?_ (by assumption))))) (own_bel OI24.out (by repeat (first | exact Below.refl _ _ | assumption | (refine bstep ?_ (below_drewN _ _)) | exact bstep (by assumption) (by assumption) | (refine bstep ?_ (below_alloc _ _)) | (refine bstep ?_ (by assumption)) | (refine Below.setCell ?_ (by simp <;> omega) _) | refine Below.drew ?_ | (refine Below.trans ?_ (by assumption)))))).mono ?_; rintro e w25 ⟨⟨A25, B25, U25, R25, L25, n25, m25, nu25, np25, nl25, c25, d25, cu25, cp25, cl25⟩, rfl, ⟨xs25, own25⟩, hb25⟩; have hs25 := hb25.size; (try simp at hs25); have hy25_0 : w.heap.size < w25.heap.size := (by omega); have hk25_0 := fun o => hb25.cell (p := ⟨w.heap.size, o, none⟩) (by first | omega | (simp <;> omega)); have hg25_0 := fun o => hb25.frozen (p := ⟨w.heap.size, o, none⟩) (by first | omega | (simp <;> omega)); have hy25_1 : w.heap.size + 1 < w25.heap.size := (by omega); have hk25_1 := fun o => hb25.cell (p := ⟨w.heap.size + 1, o, none⟩) (by first | omega | (simp <;> omega)); have hg25_1 := fun o => hb25.frozen (p := ⟨w.heap.size + 1, o, none⟩) (by first | omega | (simp <;> omega)); have hy25_2 : b6 < w25.heap.size := (by omega); have hk25_2 := fun o => hb25.cell (p := ⟨b6, o, none⟩) (by first | omega | (simp <;> omega)); have hg25_2 := fun o => hb25.frozen (p := ⟨b6, o, none⟩) (by first | omega | (simp <;> omega)); have hy25_3 : w7.heap.size < w25.heap.size := (by omega); have hk25_3 := fun o => hb25.cell (p := ⟨w7.heap.size, o, none⟩) (by first | omega | (simp <;> omega)); have hg25_3 := fun o => hb25.frozen (p := ⟨w7.heap.size, o, none⟩) (by first | omega | (simp <;> omega)); have hy25_4 : b11 < w25.heap.size := (by omega); have hk25_4 := fun o => hb25.cell (p := ⟨b11, o, none⟩) (by first | omega | (simp <;> omega)); have hg25_4 := fun o => hb25.frozen (p := ⟨b11, o, none⟩) (by first | omega | (simp <;> omega)); (try (have hxy250 : w21.heap.size < w25.heap.size := (by omega); have hxk250 := fun o => hb25.cell (p := ⟨w21.heap.size, o, none⟩) (by first | omega | (simp <;> omega)); have hxg250 := fun o => hb25.frozen (p := ⟨w21.heap.size, o, none⟩) (by first | omega | (simp <;> omega)))); (try (have hxy251 : w22.heap.size < w25.heap.size := (by omega); have hxk251 := fun o => hb25.cell (p := ⟨w22.heap.size, o, none⟩) (by first | omega | (simp <;> omega)); have hxg251 := fun o => hb25.frozen (p := ⟨w22.heap.size, o, none⟩) (by first | omega | (simp <;> omega)))); (try (have hxy252 : w23.heap.size < w25.heap.size := (by omega); have hxk252 := fun o => hb25.cell (p := ⟨w23.heap.size, o, none⟩) (by first | omega | (simp <;> omega)); have hxg252 := fun o => hb25.frozen (p := ⟨w23.heap.size, o, none⟩) (by first | omega | (simp <;> omega)))); (try (have hxy253 : w24.heap.size < w25.heap.size := (by omega); have hxk253 := fun o => hb25.cell (p := ⟨w24.heap.size, o, none⟩) (by first | omega | (simp <;> omega)); have hxg253 := fun o => hb25.frozen (p := ⟨w24.heap.size, o, none⟩) (by first | omega | (simp <;> omega)))); have OR25 := Lib.hid own25; have RG25 : Hid (∀ k, atQ ⟨A25, B25, U25, R25, L25, n25, m25, nu25, np25, nl25, c25, d25, cu25, cp25, cl25⟩ xs25 k → w24.heap.size ≤ k ∧ k < w25.heap.size) := Lib.hid (fun k hk => by have h9 := room_rng2 own25 k hk; (try simp at h9); omega); clear own25; dsimp only [RA.v]))
        all_goals (go_wp2; go_meet)
        case rel =>
          with_reducible refine ⟨_, ⟨A25, B25, U25, R25, L25, n25, m25, nu25, np25, nl25, c25, d25, cu25, cp25, cl25⟩, xs25, rfl, rfl, heap_at9 _ _, (OR25.out.mono ?_).bel (below_alloc _ _), ?_, bstep (bstep (bstep (bstep (bstep (Below.refl _ _).drew hb22) hb23) hb24) hb25) (below_alloc _ _)⟩
          all_goals (first | omega | (simp <;> omega))
        case rel =>
          with_reducible refine ⟨_, ⟨A25, B25, U25, R25, L25, n25, m25, nu25, np25, nl25, c25, d25, cu25, cp25, cl25⟩, xs25, rfl, rfl, set5 (bx_below (heap_at9 _ _) hb25), (OR25.out.mono ?_).box5 (bx_below (heap_at9 _ _) hb25) _ _ _ _ _, ?_, bel_set5 (bstep (bstep (bstep (bstep (bstep (Below.refl _ _).drew hb22) hb23) hb24) (below_alloc _ _)) hb25) ?_ _ _ _ _ _⟩
          all_goals (first | omega | (simp <;> omega))
        case rel =>
          with_reducible refine ⟨_, ⟨A25, B25, U25, R25, L25, n25, m25, nu25, np25, nl25, c25, d25, cu25, cp25, cl25⟩, xs25, rfl, rfl, set5 (bx_below (bx_below (heap_at9 _ _) hb24) hb25), (OR25.out.mono ?_).box5 (bx_below (bx_below (heap_at9 _ _) hb24) hb25) _ _ _ _ _, ?_, bel_set5 (bstep (bstep (bstep (bstep (bstep (Below.refl _ _).drew hb22) hb23) (below_alloc _ _)) hb24) hb25) ?_ _ _ _ _ _⟩
          all_goals (first | omega | (simp <;> omega))
        case rel =>
          with_reducible refine ⟨_, ⟨A25, B25, U25, R25, L25, n25, m25, nu25, np25, nl25, c25, d25, cu25, cp25, cl25⟩, xs25, rfl, rfl, set5 (bx_below (bx_below (bx_below (heap_at9 _ _) hb23) hb24) hb25), (OR25.out.mono ?_).box5 (bx_below (bx_below (bx_below (heap_at9 _ _) hb23) hb24) hb25) _ _ _ _ _, ?_, bel_set5 (bstep (bstep (bstep (bstep (bstep (Below.refl _ _).drew hb22) (below_alloc _ _)) hb23) hb24) hb25) ?_ _ _ _ _ _⟩
          all_goals (first | omega | (simp <;> omega))
        case rel =>
          with_reducible refine ⟨_, ⟨A25, B25, U25, R25, L25, n25, m25, nu25, np25, nl25, c25, d25, cu25, cp25, cl25⟩, xs25, rfl, rfl, set5 (bx_below (bx_below (bx_below (bx_below (heap_at9d _ _) hb22) hb23) hb24) hb25), (OR25.out.mono ?_).box5 (bx_below (bx_below (bx_below (bx_below (heap_at9d _ _) hb22) hb23) hb24) hb25) _ _ _ _ _, ?_, bel_set5 (bstep (bstep (bstep (bstep (bstep (Below.refl _ _) (below_alloc _ _)).drew hb22) hb23) hb24) hb25) ?_ _ _ _ _ _⟩
          all_goals (first | omega | (simp <;> omega))
      case rest =>
        obtain ⟨w26, rfl⟩ : ∃ x, x = wc := ⟨wc, rfl⟩
        obtain ⟨b26, ⟨A26, B26, U26, R26, L26, n26, m26, nu26, np26, nl26, c26, d26, cu26, cp26, cl26⟩, xs26, rfl, rfl, bx26, own26, hl26, hb26⟩ := hcut
        dsimp only at bx26
        have hs26 := hb26.size
        (try simp at hs26)
        have hy26_0 : w.heap.size < w26.heap.size := by omega
        have hk26_0 := fun o => hb26.cell (p := ⟨w.heap.size, o, none⟩) (by first | omega | (simp <;> omega))
        have hg26_0 := fun o => hb26.frozen (p := ⟨w.heap.size, o, none⟩) (by first | omega | (simp <;> omega))
        have hy26_1 : w.heap.size + 1 < w26.heap.size := by omega
        have hk26_1 := fun o => hb26.cell (p := ⟨w.heap.size + 1, o, none⟩) (by first | omega | (simp <;> omega))
        have hg26_1 := fun o => hb26.frozen (p := ⟨w.heap.size + 1, o, none⟩) (by first | omega | (simp <;> omega))
        have hy26_2 : b6 < w26.heap.size := by omega
        have hk26_2 := fun o => hb26.cell (p := ⟨b6, o, none⟩) (by first | omega | (simp <;> omega))
        have hg26_2 := fun o => hb26.frozen (p := ⟨b6, o, none⟩) (by first | omega | (simp <;> omega))
        have hy26_3 : w7.heap.size < w26.heap.size := by omega
        have hk26_3 := fun o => hb26.cell (p := ⟨w7.heap.size, o, none⟩) (by first | omega | (simp <;> omega))
        have hg26_3 := fun o => hb26.frozen (p := ⟨w7.heap.size, o, none⟩) (by first | omega | (simp <;> omega))
        have hy26_4 : b11 < w26.heap.size := by omega
        have hk26_4 := fun o => hb26.cell (p := ⟨b11, o, none⟩) (by first | omega | (simp <;> omega))
        have hg26_4 := fun o => hb26.frozen (p := ⟨b11, o, none⟩) (by first | omega | (simp <;> omega))
        have hu26 := heap_lt bx26
        have z26_0 := bx_cell bx26 0 rfl
        have z26_1 := bx_cell bx26 1 rfl
        have z26_2 := bx_cell bx26 2 rfl
        have z26_3 := bx_cell bx26 3 rfl
        have z26_4 := bx_cell bx26 4 rfl
        simp only [List.getElem_toArray, List.getElem_cons_zero, List.getElem_cons_succ] at z26_0 z26_1 z26_2 z26_3 z26_4
        have zf26 := bx_frz bx26
        have NB26 := Lib.hid (own26.nbox bx26)
        clear bx26
        have OR26 := Lib.hid own26
        have RG26 : Hid (∀ k, atQ ⟨A26, B26, U26, R26, L26, n26, m26, nu26, np26, nl26, c26, d26, cu26, cp26, cl26⟩ xs26 k → w21.heap.size ≤ k ∧ k < w26.heap.size) := Lib.hid (fun k hk => by have h9 := room_rng2 own26 k hk; (try simp at h9); omega)
        clear own26
        go_wp2_with fail
        refine (eqRoom_any ⟨A26, B26, U26, R26, L26, n26, m26, nu26, np26, nl26, c26, d26, cu26, cp26, cl26⟩ ⟨A6, B6, U6, R6, L6, n6, m6, nu6, np6, nl6, c6, d6, cu6, cp6, cl6⟩ EV _ (OR26.out.bel (by repeat (first | exact Below.refl _ _ | assumption | (refine bstep ?_ (below_drewN _ _)) | exact bstep (by assumption) (by assumption) | (refine bstep ?_ (below_alloc _ _)) | (refine bstep ?_ (by assumption)) | (refine Below.setCell ?_ (by simp <;> omega) _) | refine Below.drew ?_ | (refine Below.trans ?_ (by assumption))))).rd (OR6_20.out.bel (by repeat (first | exact Below.refl _ _ | assumption | (refine bstep ?_ (below_drewN _ _)) | exact bstep (by assumption) (by assumption) | (refine bstep ?_ (below_alloc _ _)) | (refine bstep ?_ (by assumption)) | (refine Below.setCell ?_ (by simp <;> omega) _) | refine Below.drew ?_ | (refine Below.trans ?_ (by assumption))))).rd).mono ?_
        rintro e w27 ⟨rfl, hb27⟩
        have hs27 := hb27.size
        (try simp at hs27)
        have hy27_0 : w.heap.size < w27.heap.size := by omega
        have hk27_0 := fun o => hb27.cell (p := ⟨w.heap.size, o, none⟩) (by first | omega | (simp <;> omega))
        have hg27_0 := fun o => hb27.frozen (p := ⟨w.heap.size, o, none⟩) (by first | omega | (simp <;> omega))
        have hy27_1 : w.heap.size + 1 < w27.heap.size := by omega
        have hk27_1 := fun o => hb27.cell (p := ⟨w.heap.size + 1, o, none⟩) (by first | omega | (simp <;> omega))
        have hg27_1 := fun o => hb27.frozen (p := ⟨w.heap.size + 1, o, none⟩) (by first | omega | (simp <;> omega))
        have hy27_2 : b6 < w27.heap.size := by omega
        have hk27_2 := fun o => hb27.cell (p := ⟨b6, o, none⟩) (by first | omega | (simp <;> omega))
        have hg27_2 := fun o => hb27.frozen (p := ⟨b6, o, none⟩) (by first | omega | (simp <;> omega))
        have hy27_3 : w7.heap.size < w27.heap.size := by omega
        have hk27_3 := fun o => hb27.cell (p := ⟨w7.heap.size, o, none⟩) (by first | omega | (simp <;> omega))
        have hg27_3 := fun o => hb27.frozen (p := ⟨w7.heap.size, o, none⟩) (by first | omega | (simp <;> omega))
        have hy27_4 : b11 < w27.heap.size := by omega
        have hk27_4 := fun o => hb27.cell (p := ⟨b11, o, none⟩) (by first | omega | (simp <;> omega))
        have hg27_4 := fun o => hb27.frozen (p := ⟨b11, o, none⟩) (by first | omega | (simp <;> omega))
        have hy27_5 : b26 < w27.heap.size := by omega
        have hk27_5 := fun o => hb27.cell (p := ⟨b26, o, none⟩) (by first | omega | (simp <;> omega))
        have hg27_5 := fun o => hb27.frozen (p := ⟨b26, o, none⟩) (by first | omega | (simp <;> omega))
        go_wp2_with fail
        refine (heldRoom_rd ⟨A11, B11, U11, R11, L11, n11, m11, nu11, np11, nl11, c11, d11, cu11, cp11, cl11⟩ EV xs11 _ (MK20.out.bel (by repeat (first | exact Below.refl _ _ | assumption | (refine bstep ?_ (below_drewN _ _)) | exact bstep (by assumption) (by assumption) | (refine bstep ?_ (below_alloc _ _)) | (refine bstep ?_ (by assumption)) | (refine Below.setCell ?_ (by simp <;> omega) _) | refine Below.drew ?_ | (refine Below.trans ?_ (by assumption)))))).mono ?_
        rintro e w28 ⟨rfl, hb28⟩
        have hs28 := hb28.size
        (try simp at hs28)
        have hy28_0 : w.heap.size < w28.heap.size := by omega
        have hk28_0 := fun o => hb28.cell (p := ⟨w.heap.size, o, none⟩) (by first | omega | (simp <;> omega))
        have hg28_0 := fun o => hb28.frozen (p := ⟨w.heap.size, o, none⟩) (by first | omega | (simp <;> omega))
        have hy28_1 : w.heap.size + 1 < w28.heap.size := by omega
        have hk28_1 := fun o => hb28.cell (p := ⟨w.heap.size + 1, o, none⟩) (by first | omega | (simp <;> omega))
        have hg28_1 := fun o => hb28.frozen (p := ⟨w.heap.size + 1, o, none⟩) (by first | omega | (simp <;> omega))
        have hy28_2 : b6 < w28.heap.size := by omega
        have hk28_2 := fun o => hb28.cell (p := ⟨b6, o, none⟩) (by first | omega | (simp <;> omega))
        have hg28_2 := fun o => hb28.frozen (p := ⟨b6, o, none⟩) (by first | omega | (simp <;> omega))
        have hy28_3 : w7.heap.size < w28.heap.size := by omega
        have hk28_3 := fun o => hb28.cell (p := ⟨w7.heap.size, o, none⟩) (by first | omega | (simp <;> omega))
        have hg28_3 := fun o => hb28.frozen (p := ⟨w7.heap.size, o, none⟩) (by first | omega | (simp <;> omega))
        have hy28_4 : b11 < w28.heap.size := by omega
        have hk28_4 := fun o => hb28.cell (p := ⟨b11, o, none⟩) (by first | omega | (simp <;> omega))
        have hg28_4 := fun o => hb28.frozen (p := ⟨b11, o, none⟩) (by first | omega | (simp <;> omega))
        have hy28_5 : b26 < w28.heap.size := by omega
        have hk28_5 := fun o => hb28.cell (p := ⟨b26, o, none⟩) (by first | omega | (simp <;> omega))
        have hg28_5 := fun o => hb28.frozen (p := ⟨b26, o, none⟩) (by first | omega | (simp <;> omega))
        rw [← HTOT.out]
        go_wp2
        go_ret
        exact ⟨rfl, (by repeat (first | exact Below.refl _ _ | assumption | (refine bstep ?_ (below_drewN _ _)) | exact bstep (by assumption) (by assumption) | (refine bstep ?_ (below_alloc _ _)) | (refine bstep ?_ (by assumption)) | (refine Below.setCell ?_ (by simp <;> omega) _) | refine Below.drew ?_ | (refine Below.trans ?_ (by assumption))))⟩
theorem law_release (a : RA) (r : Rm) (j : J) (fr_ to_ : Int) (D : Option Addr) (k e : Nat) (nd : List Int) (w : World) (hx : RmMax a) (hk9 : k ≤ maxLen) (hr : RoomIn w a r) (hd : RdI w D k nd) :
    Calls Tryz.prog 6 #[a.v, .agg #[.int .i64 j.id, .int .i64 j.pr, .int .i64 j.nn, .int .i64 j.na, .int .i64 j.nb, .int .i64 j.nc, .int .i64 j.la, .int .i64 j.lb, .int .i64 j.lc, .int .i64 j.wl, .int .i64 j.lv], .int .i64 fr_, .int .i64 to_, .slice D k e] w fun e w' => e = .returned (.bool true) ∧ Below w.heap.size w w' := by
  by_cases hk : (k : Int) ≤ 1048576
  · exact law_release_short a r j fr_ to_ D k e nd w hk hx hr hd
  · exact law_release_long a r j fr_ to_ D k e nd w hk hk9
end Go.Proofs.YtdppjjdhidkjoaaGreat
