import Derived.Test.YtkoephlichepeaaVe
namespace Go.Proofs.Ytkoephlichepeaa
open Go.RowKit

theorem vminV_ok (a b : V) (ha : vecOkB a.A a.B a.C = true) (hb : vecOkB b.A b.B b.C = true) : vminV a b = minV a b := by
  have : (minV a b).ok = true := by grind [V.ok, minV, vecOkB, resB, inB]
  simp [vminV, validV, V.ok, ha, hb] at *
  simp [this]
set_option maxHeartbeats 400000 in
theorem smin_any (x y : Int) (w : World) :
    Calls Try.prog 48 #[.int .i64 x, .int .i64 y] w fun e w' => e = .returned (.int .i64 (min x y)) ∧ w = w' := by
  go_enter Try.func48, Try.ntmps48
  go_wp2
  all_goals go_ret
  all_goals exact ⟨ret_int (by omega), rfl⟩

set_option maxHeartbeats 1000000 in
theorem svmin_raw (a b : V) (w : World) :
    Calls Try.prog 30 #[.agg #[.int .i64 a.A, .int .i64 a.B, .int .i64 a.C], .agg #[.int .i64 b.A, .int .i64 b.B, .int .i64 b.C]] w fun e w' => e = .returned (.agg #[.int .i64 (vminV a b).A, .int .i64 (vminV a b).B, .int .i64 (vminV a b).C]) ∧ Below w.heap.size w w' := by
  go_enter Try.func30, Try.ntmps30
  go_wp2_with (go_at_call 15; refine (svecOk_raw _ _ _ _).mono ?_; rintro e w1 ⟨rfl, hb1⟩; obtain ⟨hc1, hf1⟩ := bcell hb1; have hs1 := hb1.size; (try simp at hs1); have hy10 : w.heap.size < w1.heap.size := (by omega); have hk10 := fun o => hc1 (w.heap.size) o (by first | omega | (simp <;> omega)); have hg10 := fun o => hf1 (w.heap.size) o (by first | omega | (simp <;> omega)); have hy11 : w.heap.size + 1 < w1.heap.size := (by omega); have hk11 := fun o => hc1 (w.heap.size + 1) o (by first | omega | (simp <;> omega)); have hg11 := fun o => hf1 (w.heap.size + 1) o (by first | omega | (simp <;> omega)); have hy12 : w.heap.size + 1 + 1 < w1.heap.size := (by omega); have hk12 := fun o => hc1 (w.heap.size + 1 + 1) o (by first | omega | (simp <;> omega)); have hg12 := fun o => hf1 (w.heap.size + 1 + 1) o (by first | omega | (simp <;> omega)); clear hc1 hf1)
  · go_light
    refine bodyPost_ret (v := .agg #[.int .i64 (vminV a b).A, .int .i64 (vminV a b).B, .int .i64 (vminV a b).C]) (by simp [results, Try.results30, go_sem, *] <;> grind [vminV, validV, V.ok, minV, V.zero]) rfl ⟨rfl, (by repeat (first | exact Below.refl _ _ | (refine bstep ?_ (below_alloc _ _)) | (refine bstep ?_ (by assumption)) | (refine Below.setCell ?_ (by simp <;> omega) _) | refine Below.drew ?_))⟩
  · go_region_held3 (fun w' => w'.cell? ⟨w.heap.size, 0, none⟩ = some (.int .i64 a.A) ∧ w'.cell? ⟨w.heap.size, 1, none⟩ = some (.int .i64 a.B) ∧ w'.cell? ⟨w.heap.size, 2, none⟩ = some (.int .i64 a.C) ∧ w'.cell? ⟨w.heap.size + 1, 0, none⟩ = some (.int .i64 b.A) ∧ w'.cell? ⟨w.heap.size + 1, 1, none⟩ = some (.int .i64 b.B) ∧ w'.cell? ⟨w.heap.size + 1, 2, none⟩ = some (.int .i64 b.C)) (simp [go_sem, *, World.cell?_alloc_some, World.cell?_setCell_far, Nat.lt_add_right, Nat.ne_of_gt]) (first | (go_at_call 48; refine (smin_any _ _ _).mono ?_; rintro e w1 ⟨rfl, rfl⟩))
    go_wp2
    go_light
    rw [vminV_ok a b (by simp_all) (by simp_all)]
    refine bodyPost_ret (v := .agg #[.int .i64 (minV a b).A, .int .i64 (minV a b).B, .int .i64 (minV a b).C]) (by simp [results, Try.results30, go_sem, minV, *]) rfl ⟨rfl, (by repeat (first | exact Below.refl _ _ | (refine bstep ?_ (below_alloc _ _)) | (refine bstep ?_ (by assumption)) | (refine Below.setCell ?_ (by simp <;> omega) _) | refine Below.drew ?_))⟩
  · go_light
    refine bodyPost_ret (v := .agg #[.int .i64 (vminV a b).A, .int .i64 (vminV a b).B, .int .i64 (vminV a b).C]) (by simp [results, Try.results30, go_sem, *] <;> grind [vminV, validV, V.ok, minV, V.zero]) rfl ⟨rfl, (by repeat (first | exact Below.refl _ _ | (refine bstep ?_ (below_alloc _ _)) | (refine bstep ?_ (by assumption)) | (refine Below.setCell ?_ (by simp <;> omega) _) | refine Below.drew ?_))⟩

set_option maxHeartbeats 1000000 in
theorem law_min (a b : V) (w : World) :
    Calls Try.prog 10 #[.agg #[.int .i64 a.A, .int .i64 a.B, .int .i64 a.C], .agg #[.int .i64 b.A, .int .i64 b.B, .int .i64 b.C]] w fun e w' => e = .returned (.bool true) ∧ Below w.heap.size w w' := by
  go_enter Try.func10, Try.ntmps10
  go_wp2
  have q0 : w.heap.size < w.heap.size + 1 + 1 := by omega
  go_cut [5] (fun v5 wr => ∃ g, v5 = .pointer (some ⟨g, 0, none⟩) ∧ VBox wr g (vminV a b) ∧ VBox wr w.heap.size a ∧ VBox wr (w.heap.size + 1) b ∧ Below w.heap.size w wr ∧ w.heap.size + 1 < g ∧ g < wr.heap.size)
  case first =>
    go_region_held3 (fun w' => w'.cell? ⟨w.heap.size, 0, none⟩ = some (.int .i64 a.A) ∧ w'.cell? ⟨w.heap.size, 1, none⟩ = some (.int .i64 a.B) ∧ w'.cell? ⟨w.heap.size, 2, none⟩ = some (.int .i64 a.C) ∧ w'.cell? ⟨w.heap.size + 1, 0, none⟩ = some (.int .i64 b.A) ∧ w'.cell? ⟨w.heap.size + 1, 1, none⟩ = some (.int .i64 b.B) ∧ w'.cell? ⟨w.heap.size + 1, 2, none⟩ = some (.int .i64 b.C)) (simp [go_sem, *, World.cell?_alloc_some, World.cell?_setCell_far, Nat.lt_add_right, Nat.ne_of_gt]) (first | (go_at_call_of 16 (Value.int IntKind.i64 a.A); refine (toVec_any a _).mono ?_; rintro e w1 ⟨rfl, hb1⟩; obtain ⟨hc1, hf1⟩ := bcell hb1; have hs1 := hb1.size; (try simp at hs1); have hy10 : w.heap.size < w1.heap.size := (by omega); have hk10 := fun o => hc1 (w.heap.size) o (by first | omega | (simp <;> omega)); have hg10 := fun o => hf1 (w.heap.size) o (by first | omega | (simp <;> omega)); have hy11 : w.heap.size + 1 < w1.heap.size := (by omega); have hk11 := fun o => hc1 (w.heap.size + 1) o (by first | omega | (simp <;> omega)); have hg11 := fun o => hf1 (w.heap.size + 1) o (by first | omega | (simp <;> omega)); (try (have hx10 : w.heap.size + 1 + 1 < w1.heap.size := (by omega); have hm10 := fun o => hc1 (w.heap.size + 1 + 1) o (by first | omega | (simp <;> omega)); have hn10 := fun o => hf1 (w.heap.size + 1 + 1) o (by first | omega | (simp <;> omega)))); clear hc1 hf1) | (go_at_call_of 16 (Value.int IntKind.i64 b.A); refine (toVec_any b _).mono ?_; rintro e w2 ⟨rfl, hb2⟩; obtain ⟨hc2, hf2⟩ := bcell hb2; have hs2 := hb2.size; (try simp at hs2); have hy20 : w.heap.size < w2.heap.size := (by omega); have hk20 := fun o => hc2 (w.heap.size) o (by first | omega | (simp <;> omega)); have hg20 := fun o => hf2 (w.heap.size) o (by first | omega | (simp <;> omega)); have hy21 : w.heap.size + 1 < w2.heap.size := (by omega); have hk21 := fun o => hc2 (w.heap.size + 1) o (by first | omega | (simp <;> omega)); have hg21 := fun o => hf2 (w.heap.size + 1) o (by first | omega | (simp <;> omega)); (try (have hx20 : w.heap.size + 1 + 1 < w2.heap.size := (by omega); have hm20 := fun o => hc2 (w.heap.size + 1 + 1) o (by first | omega | (simp <;> omega)); have hn20 := fun o => hf2 (w.heap.size + 1 + 1) o (by first | omega | (simp <;> omega)))); (try (have hx21 : w1.heap.size < w2.heap.size := (by omega); have hm21 := fun o => hc2 (w1.heap.size) o (by first | omega | (simp <;> omega)); have hn21 := fun o => hf2 (w1.heap.size) o (by first | omega | (simp <;> omega)))); clear hc2 hf2) | (go_at_call 30; refine (svmin_raw a b _).mono ?_; rintro e w3 ⟨rfl, hb3⟩; obtain ⟨hc3, hf3⟩ := bcell hb3; have hs3 := hb3.size; (try simp at hs3); have hy30 : w.heap.size < w3.heap.size := (by omega); have hk30 := fun o => hc3 (w.heap.size) o (by first | omega | (simp <;> omega)); have hg30 := fun o => hf3 (w.heap.size) o (by first | omega | (simp <;> omega)); have hy31 : w.heap.size + 1 < w3.heap.size := (by omega); have hk31 := fun o => hc3 (w.heap.size + 1) o (by first | omega | (simp <;> omega)); have hg31 := fun o => hf3 (w.heap.size + 1) o (by first | omega | (simp <;> omega)); (try (have hx30 : w.heap.size + 1 + 1 < w3.heap.size := (by omega); have hm30 := fun o => hc3 (w.heap.size + 1 + 1) o (by first | omega | (simp <;> omega)); have hn30 := fun o => hf3 (w.heap.size + 1 + 1) o (by first | omega | (simp <;> omega)))); (try (have hx31 : w1.heap.size < w3.heap.size := (by omega); have hm31 := fun o => hc3 (w1.heap.size) o (by first | omega | (simp <;> omega)); have hn31 := fun o => hf3 (w1.heap.size) o (by first | omega | (simp <;> omega)))); (try (have hx32 : w2.heap.size < w3.heap.size := (by omega); have hm32 := fun o => hc3 (w2.heap.size) o (by first | omega | (simp <;> omega)); have hn32 := fun o => hf3 (w2.heap.size) o (by first | omega | (simp <;> omega)))); clear hc3 hf3))
    all_goals (go_wp2; go_meet)
    all_goals (case rel => exact ⟨_, rfl, by simp [go_sem, VBox, *, World.cell?_alloc_some, World.cell?_setCell_far, Nat.lt_add_right, Nat.ne_of_gt], by simp [go_sem, VBox, *, World.cell?_alloc_some, World.cell?_setCell_far, Nat.lt_add_right, Nat.ne_of_gt], by simp [go_sem, VBox, *, World.cell?_alloc_some, World.cell?_setCell_far, Nat.lt_add_right, Nat.ne_of_gt], (by repeat (first | exact Below.refl _ _ | (refine bstep ?_ (below_alloc _ _)) | (refine bstep ?_ (by assumption)) | (refine Below.setCell ?_ (by simp <;> omega) _) | refine Below.drew ?_)), (by first | omega | (simp <;> omega)), (by first | omega | (simp <;> omega))⟩)
  case rest =>
    obtain ⟨g, rfl, ⟨x0, x1, x2⟩, ⟨a0, a1, a2⟩, ⟨b0, b1, b2⟩, hbc, hg0, hg1⟩ := hcut
    have hz0 : w.heap.size < wc.heap.size ∧ w.heap.size + 1 < wc.heap.size := ⟨by omega, by omega⟩
    go_wp2
    go_cut [6] (fun v7 wr => ∃ g', v7 = .pointer (some ⟨g', 0, none⟩) ∧ VBox wr g' (vminV a b) ∧ VBox wr g (vminV a b) ∧ Below w.heap.size w wr ∧ g < wr.heap.size ∧ g' < wr.heap.size)
    case first =>
      go_region_held3 (fun w' => w'.cell? ⟨w.heap.size, 0, none⟩ = some (.int .i64 a.A) ∧ w'.cell? ⟨w.heap.size, 1, none⟩ = some (.int .i64 a.B) ∧ w'.cell? ⟨w.heap.size, 2, none⟩ = some (.int .i64 a.C) ∧ w'.cell? ⟨w.heap.size + 1, 0, none⟩ = some (.int .i64 b.A) ∧ w'.cell? ⟨w.heap.size + 1, 1, none⟩ = some (.int .i64 b.B) ∧ w'.cell? ⟨w.heap.size + 1, 2, none⟩ = some (.int .i64 b.C) ∧ w'.cell? ⟨g, 0, none⟩ = some (.int .i64 (vminV a b).A) ∧ w'.cell? ⟨g, 1, none⟩ = some (.int .i64 (vminV a b).B) ∧ w'.cell? ⟨g, 2, none⟩ = some (.int .i64 (vminV a b).C)) (simp [go_sem, *, World.cell?_alloc_some, World.cell?_setCell_far, Nat.lt_add_right, Nat.ne_of_gt]) (first | (go_at_call_of 16 (Value.int IntKind.i64 a.A); refine (toVec_any a _).mono ?_; rintro e w1 ⟨rfl, hb1⟩; obtain ⟨hc1, hf1⟩ := bcell hb1; have hs1 := hb1.size; (try simp at hs1); have hy10 : w.heap.size < w1.heap.size := (by omega); have hk10 := fun o => hc1 (w.heap.size) o (by first | omega | (simp <;> omega)); have hg10 := fun o => hf1 (w.heap.size) o (by first | omega | (simp <;> omega)); have hy11 : w.heap.size + 1 < w1.heap.size := (by omega); have hk11 := fun o => hc1 (w.heap.size + 1) o (by first | omega | (simp <;> omega)); have hg11 := fun o => hf1 (w.heap.size + 1) o (by first | omega | (simp <;> omega)); have hy12 : g < w1.heap.size := (by omega); have hk12 := fun o => hc1 (g) o (by first | omega | (simp <;> omega)); have hg12 := fun o => hf1 (g) o (by first | omega | (simp <;> omega)); (try (have hx10 : wc.heap.size < w1.heap.size := (by omega); have hm10 := fun o => hc1 (wc.heap.size) o (by first | omega | (simp <;> omega)); have hn10 := fun o => hf1 (wc.heap.size) o (by first | omega | (simp <;> omega)))); clear hc1 hf1) | (go_at_call_of 16 (Value.int IntKind.i64 b.A); refine (toVec_any b _).mono ?_; rintro e w2 ⟨rfl, hb2⟩; obtain ⟨hc2, hf2⟩ := bcell hb2; have hs2 := hb2.size; (try simp at hs2); have hy20 : w.heap.size < w2.heap.size := (by omega); have hk20 := fun o => hc2 (w.heap.size) o (by first | omega | (simp <;> omega)); have hg20 := fun o => hf2 (w.heap.size) o (by first | omega | (simp <;> omega)); have hy21 : w.heap.size + 1 < w2.heap.size := (by omega); have hk21 := fun o => hc2 (w.heap.size + 1) o (by first | omega | (simp <;> omega)); have hg21 := fun o => hf2 (w.heap.size + 1) o (by first | omega | (simp <;> omega)); have hy22 : g < w2.heap.size := (by omega); have hk22 := fun o => hc2 (g) o (by first | omega | (simp <;> omega)); have hg22 := fun o => hf2 (g) o (by first | omega | (simp <;> omega)); (try (have hx20 : wc.heap.size < w2.heap.size := (by omega); have hm20 := fun o => hc2 (wc.heap.size) o (by first | omega | (simp <;> omega)); have hn20 := fun o => hf2 (wc.heap.size) o (by first | omega | (simp <;> omega)))); (try (have hx21 : w1.heap.size < w2.heap.size := (by omega); have hm21 := fun o => hc2 (w1.heap.size) o (by first | omega | (simp <;> omega)); have hn21 := fun o => hf2 (w1.heap.size) o (by first | omega | (simp <;> omega)))); clear hc2 hf2) | (go_at_call 31; refine (min_raw a b _).mono ?_; rintro e w3 ⟨rfl, hb3⟩; obtain ⟨hc3, hf3⟩ := bcell hb3; have hs3 := hb3.size; (try simp at hs3); have hy30 : w.heap.size < w3.heap.size := (by omega); have hk30 := fun o => hc3 (w.heap.size) o (by first | omega | (simp <;> omega)); have hg30 := fun o => hf3 (w.heap.size) o (by first | omega | (simp <;> omega)); have hy31 : w.heap.size + 1 < w3.heap.size := (by omega); have hk31 := fun o => hc3 (w.heap.size + 1) o (by first | omega | (simp <;> omega)); have hg31 := fun o => hf3 (w.heap.size + 1) o (by first | omega | (simp <;> omega)); have hy32 : g < w3.heap.size := (by omega); have hk32 := fun o => hc3 (g) o (by first | omega | (simp <;> omega)); have hg32 := fun o => hf3 (g) o (by first | omega | (simp <;> omega)); (try (have hx30 : wc.heap.size < w3.heap.size := (by omega); have hm30 := fun o => hc3 (wc.heap.size) o (by first | omega | (simp <;> omega)); have hn30 := fun o => hf3 (wc.heap.size) o (by first | omega | (simp <;> omega)))); (try (have hx31 : w1.heap.size < w3.heap.size := (by omega); have hm31 := fun o => hc3 (w1.heap.size) o (by first | omega | (simp <;> omega)); have hn31 := fun o => hf3 (w1.heap.size) o (by first | omega | (simp <;> omega)))); (try (have hx32 : w2.heap.size < w3.heap.size := (by omega); have hm32 := fun o => hc3 (w2.heap.size) o (by first | omega | (simp <;> omega)); have hn32 := fun o => hf3 (w2.heap.size) o (by first | omega | (simp <;> omega)))); clear hc3 hf3))
      all_goals (go_wp2; go_meet)
      all_goals (case rel => exact ⟨_, rfl, by simp [go_sem, VBox, *, World.cell?_alloc_some, World.cell?_setCell_far, Nat.lt_add_right, Nat.ne_of_gt], by simp [go_sem, VBox, *, World.cell?_alloc_some, World.cell?_setCell_far, Nat.lt_add_right, Nat.ne_of_gt], (by repeat (first | exact Below.refl _ _ | (refine bstep ?_ (below_alloc _ _)) | (refine bstep ?_ (by assumption)) | (refine Below.setCell ?_ (by simp <;> omega) _) | refine Below.drew ?_)), (by first | omega | (simp <;> omega)), (by first | omega | (simp <;> omega))⟩)
    case rest =>
      clear a0 a1 a2 b0 b1 b2 x0 x1 x2 hbc hg0 hg1 hz0 q0
      obtain ⟨g', rfl, ⟨y0, y1, y2⟩, ⟨x0, x1, x2⟩, hbc, hg1, hg2⟩ := hcut
      go_wp2_with (go_at_call 27; refine (eqVec_raw (vminV a b) (vminV a b) _).mono ?_; rintro e w1 ⟨rfl, hb1⟩; rw [V.eqB_self]; obtain ⟨hc1, hf1⟩ := bcell hb1)
      all_goals go_ret
      all_goals exact ⟨rfl, (by repeat (first | exact Below.refl _ _ | (refine bstep ?_ (below_alloc _ _)) | (refine bstep ?_ (by assumption)) | (refine Below.setCell ?_ (by simp <;> omega) _) | refine Below.drew ?_))⟩
structure J where
  id : Int
  pr : Int
  nn : Int
  na : Int
  nb : Int
  nc : Int
  la : Int
  lb : Int
  lc : Int
  wl : Int
  lv : Int
def J.okB (j : J) : Bool := inB j.id 1 999 && inB j.pr 0 999 && inB j.nn 1 24 && vecOkB j.na j.nb j.nc && vecOkB j.la j.lb j.lc && inB j.wl 1 1000000 && inB j.lv 0 24

set_option maxHeartbeats 1000000 in
theorem jobOk_raw (j : J) (w : World) :
    Calls Try.prog 24 #[.agg #[.int .i64 j.id, .int .i64 j.pr, .int .i64 j.nn, .int .i64 j.na, .int .i64 j.nb, .int .i64 j.nc, .int .i64 j.la, .int .i64 j.lb, .int .i64 j.lc, .int .i64 j.wl, .int .i64 j.lv]] w fun e w' => e = .returned (.bool j.okB) ∧ Below w.heap.size w w' := by
  go_enter Try.func24, Try.ntmps24
  go_wp2_with (first | (go_at_call 44; refine (within_any _ _ _ _).mono ?_; rintro e w1 ⟨rfl, rfl⟩) | (go_at_call 17; refine (vecOk_raw _ _ _ _).mono ?_; rintro e w1 ⟨rfl, hb1⟩; obtain ⟨hc1, hf1⟩ := bcell hb1; have hs1 := hb1.size; (try simp at hs1); have hy10 : w.heap.size < w1.heap.size := (by omega); have hk10 := fun o => hc1 (w.heap.size) o (by first | omega | (simp <;> omega)); have hg10 := fun o => hf1 (w.heap.size) o (by first | omega | (simp <;> omega)); clear hc1 hf1))
  all_goals go_light
  all_goals go_ret
  all_goals refine ⟨ret_bool ?_, (by repeat (first | exact Below.refl _ _ | (refine bstep ?_ (below_alloc _ _)) | (refine bstep ?_ (by assumption)) | (refine Below.setCell ?_ (by simp <;> omega) _) | refine Below.drew ?_))⟩
  all_goals (simp only [J.okB]; simp_all)

set_option maxHeartbeats 1000000 in
theorem sjobOk_raw (j : J) (w : World) :
    Calls Try.prog 22 #[.agg #[.int .i64 j.id, .int .i64 j.pr, .int .i64 j.nn, .int .i64 j.na, .int .i64 j.nb, .int .i64 j.nc, .int .i64 j.la, .int .i64 j.lb, .int .i64 j.lc, .int .i64 j.wl, .int .i64 j.lv]] w fun e w' => e = .returned (.bool j.okB) ∧ Below w.heap.size w w' := by
  go_enter Try.func22, Try.ntmps22
  go_wp2_with (go_at_call 15; refine (svecOk_raw _ _ _ _).mono ?_; rintro e w1 ⟨rfl, hb1⟩; obtain ⟨hc1, hf1⟩ := bcell hb1; have hs1 := hb1.size; (try simp at hs1); have hy10 : w.heap.size < w1.heap.size := (by omega); have hk10 := fun o => hc1 (w.heap.size) o (by first | omega | (simp <;> omega)); have hg10 := fun o => hf1 (w.heap.size) o (by first | omega | (simp <;> omega)); clear hc1 hf1)
  all_goals go_light
  all_goals go_ret
  all_goals refine ⟨ret_bool ?_, (by repeat (first | exact Below.refl _ _ | (refine bstep ?_ (below_alloc _ _)) | (refine bstep ?_ (by assumption)) | (refine Below.setCell ?_ (by simp <;> omega) _) | refine Below.drew ?_))⟩
  all_goals (simp only [J.okB, inB]; grind)
end Go.Proofs.Ytkoephlichepeaa
