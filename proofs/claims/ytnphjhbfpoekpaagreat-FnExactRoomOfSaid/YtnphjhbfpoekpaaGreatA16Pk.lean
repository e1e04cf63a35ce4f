import Derived.Test.YtnphjhbfpoekpaaGreatA1Pk
import Derived.Deep.Light
import Derived.Deep.RegionHeld3
namespace Go.Proofs.YtnphjhbfpoekpaaGreat
set_option linter.unusedSimpArgs false
set_option linter.unusedVariables false
set_option linter.unnecessarySimpa false
open Go.RowKit
theorem subV_fit (a b : V) (h : fitsB b.A b.B b.C a.A a.B a.C = true) : subV a b = difV a b ∧ subB a b = true := by
 have w (x : Int) (h : -1000001 ≤ x ∧ x ≤ 1000001) : wrap64 x = x := IntWalk.wrap64_in x (by omega)
 have h1 : (0 ≤ a.A - b.A ∧ a.A - b.A ≤ 1000000) ∧ (0 ≤ a.B - b.B ∧ a.B - b.B ≤ 1000000) ∧ (0 ≤ a.C - b.C ∧ a.C - b.C ≤ 1000000) := by
  simp [fitsB, vecOkB, resB, inB] at h; omega
 have e : (difV a b).ok = true := by
  simp only [difV, V.ok, vecOkB, resB, inB, w _ (show _ by omega : -1000001 ≤ a.A - b.A ∧ a.A - b.A ≤ 1000001), w _ (show _ by omega : -1000001 ≤ a.B - b.B ∧ a.B - b.B ≤ 1000001), w _ (show _ by omega : -1000001 ≤ a.C - b.C ∧ a.C - b.C ≤ 1000001)]
  simp; omega
 have e2 : a.ok = true ∧ b.ok = true := by simp_all [fitsB, V.ok]
 simp [subV, subB, validV, validB, e, e2]
theorem subV_no (a b : V) (h : fitsB b.A b.B b.C a.A a.B a.C = false) : subV a b = V.zero ∧ subB a b = false := by
 have w (x : Int) (h : -1000001 ≤ x ∧ x ≤ 1000001) : wrap64 x = x := IntWalk.wrap64_in x (by omega)
 have e : subB a b = false := by
  cases hh : subB a b with
  | false => rfl
  | true =>
   exfalso
   simp only [subB, validB, V.ok, Bool.and_eq_true] at hh
   obtain ⟨⟨ha, hb⟩, hd⟩ := hh
   have ha' := ha
   have hb' := hb
   simp [vecOkB, resB, inB] at ha hb
   simp only [difV, vecOkB, resB, inB, w _ (show _ by omega : -1000001 ≤ a.A - b.A ∧ a.A - b.A ≤ 1000001), w _ (show _ by omega : -1000001 ≤ a.B - b.B ∧ a.B - b.B ≤ 1000001), w _ (show _ by omega : -1000001 ≤ a.C - b.C ∧ a.C - b.C ≤ 1000001)] at hd
   simp at hd
   simp [fitsB, ha', hb'] at h
   omega
 refine ⟨?_, e⟩
 simp only [subB, validB] at e
 simp [subV, validV, e]
set_option maxHeartbeats 1000000 in
theorem ssub_raw (a b : V) (w : World) :
  Calls Tryz.prog 246 #[.agg #[.int .i64 a.A, .int .i64 a.B, .int .i64 a.C], .agg #[.int .i64 b.A, .int .i64 b.B, .int .i64 b.C]] w fun e w' => e = .returned (.tuple #[.agg #[.int .i64 (subV a b).A, .int .i64 (subV a b).B, .int .i64 (subV a b).C], .bool (subB a b)]) ∧ Below w.heap.size w w' := by
 go_enter Tryz.func246, Tryz.ntmps246
 go_wp2_with (go_at_call 204; refine (svecFits_raw _ _ _ _ _ _ _).mono ?_; rintro e w1 ⟨rfl, hb1⟩; have hy1 : w.heap.size < w1.heap.size ∧ w.heap.size + 1 < w1.heap.size ∧ w.heap.size + 1 + 1 < w1.heap.size := (by have hs := hb1.size; (try simp at hs); (first | trivial | omega)); obtain ⟨hc1, hf1⟩ := bcell hb1)
 all_goals go_light
 ·have h : fitsB b.A b.B b.C a.A a.B a.C = false := by simp_all
  rw [(subV_no a b h).1, (subV_no a b h).2]
  (try go_light); refine bodyPost_ret (v := .tuple #[.agg #[.int .i64 0, .int .i64 0, .int .i64 0], .bool false]) (by simp [results, Tryz.results246, go_sem, *]) rfl ⟨rfl, (by repeat (first | exact Below.refl _ _ | (refine zAc ?_ (zAa _ _)) | (refine zAc ?_ (by assumption)) | (refine Below.setCell ?_ (by simp <;> omega) _) | refine Below.drew ?_))⟩
 ·have h : fitsB b.A b.B b.C a.A a.B a.C = true := by simp_all
  rw [(subV_fit a b h).1, (subV_fit a b h).2]
  (try go_light); refine bodyPost_ret (v := .tuple #[.agg #[.int .i64 (difV a b).A, .int .i64 (difV a b).B, .int .i64 (difV a b).C], .bool true]) (by simp [results, Tryz.results246, go_sem, difV, *]) rfl ⟨rfl, (by repeat (first | exact Below.refl _ _ | (refine zAc ?_ (zAa _ _)) | (refine zAc ?_ (by assumption)) | (refine Below.setCell ?_ (by simp <;> omega) _) | refine Below.drew ?_))⟩
theorem vminV_ok (a b : V) (ha : vecOkB a.A a.B a.C = true) (hb : vecOkB b.A b.B b.C = true) : vminV a b = minV a b := by
 have : (minV a b).ok = true := by grind [V.ok, minV, vecOkB, resB, inB]
 simp [vminV, validV, V.ok, ha, hb] at *
 simp [this]
set_option maxHeartbeats 400000 in
theorem smin_any (x y : Int) (w : World) :
  Calls Tryz.prog 265 #[.int .i64 x, .int .i64 y] w fun e w' => e = .returned (.int .i64 (min x y)) ∧ w = w' := by
 go_enter Tryz.func265, Tryz.ntmps265
 go_wp2
 all_goals go_ret
 all_goals exact ⟨ret_int (by omega), rfl⟩
set_option maxHeartbeats 1000000 in
theorem svmin_raw (a b : V) (w : World) :
  Calls Tryz.prog 240 #[.agg #[.int .i64 a.A, .int .i64 a.B, .int .i64 a.C], .agg #[.int .i64 b.A, .int .i64 b.B, .int .i64 b.C]] w fun e w' => e = .returned (.agg #[.int .i64 (vminV a b).A, .int .i64 (vminV a b).B, .int .i64 (vminV a b).C]) ∧ Below w.heap.size w w' := by
 go_enter Tryz.func240, Tryz.ntmps240
 go_wp2_with (go_at_call 172; refine (svecOk_raw _ _ _ _).mono ?_; rintro e w1 ⟨rfl, hb1⟩; obtain ⟨hc1, hf1⟩ := bcell hb1; have hs1 := hb1.size; (try simp at hs1); have hy10 : w.heap.size < w1.heap.size := (by omega); have hk10 := fun o => hc1 (w.heap.size) o zOm; have hg10 := fun o => hf1 (w.heap.size) o zOm; have hy11 : w.heap.size + 1 < w1.heap.size := (by omega); have hk11 := fun o => hc1 (w.heap.size + 1) o zOm; have hg11 := fun o => hf1 (w.heap.size + 1) o zOm; have hy12 : w.heap.size + 1 + 1 < w1.heap.size := (by omega); have hk12 := fun o => hc1 (w.heap.size + 1 + 1) o zOm; have hg12 := fun o => hf1 (w.heap.size + 1 + 1) o zOm; clear hc1 hf1)
 ·go_light
  refine bodyPost_ret (v := .agg #[.int .i64 (vminV a b).A, .int .i64 (vminV a b).B, .int .i64 (vminV a b).C]) (by simp [results, Tryz.results240, go_sem, *] <;> grind [vminV, validV, V.ok, minV, V.zero]) rfl ⟨rfl, (by repeat (first | exact Below.refl _ _ | (refine zAc ?_ (zAa _ _)) | (refine zAc ?_ (by assumption)) | (refine Below.setCell ?_ (by simp <;> omega) _) | refine Below.drew ?_))⟩
 ·go_region_held3 (fun w' => w'.cell? ⟨w.heap.size, 0, none⟩ = some (.int .i64 a.A) ∧ w'.cell? ⟨w.heap.size, 1, none⟩ = some (.int .i64 a.B) ∧ w'.cell? ⟨w.heap.size, 2, none⟩ = some (.int .i64 a.C) ∧ w'.cell? ⟨w.heap.size + 1, 0, none⟩ = some (.int .i64 b.A) ∧ w'.cell? ⟨w.heap.size + 1, 1, none⟩ = some (.int .i64 b.B) ∧ w'.cell? ⟨w.heap.size + 1, 2, none⟩ = some (.int .i64 b.C)) (simp [go_sem, *, World.cell?_alloc_some, World.cell?_setCell_far, Nat.lt_add_right, Nat.ne_of_gt]) (first | (go_at_call 265; refine (smin_any _ _ _).mono ?_; rintro e w1 ⟨rfl, rfl⟩))
  go_wp2
  go_light
  rw [vminV_ok a b (by simp_all) (by simp_all)]
  refine bodyPost_ret (v := .agg #[.int .i64 (minV a b).A, .int .i64 (minV a b).B, .int .i64 (minV a b).C]) (by simp [results, Tryz.results240, go_sem, minV, *]) rfl ⟨rfl, (by repeat (first | exact Below.refl _ _ | (refine zAc ?_ (zAa _ _)) | (refine zAc ?_ (by assumption)) | (refine Below.setCell ?_ (by simp <;> omega) _) | refine Below.drew ?_))⟩
 ·go_light
  refine bodyPost_ret (v := .agg #[.int .i64 (vminV a b).A, .int .i64 (vminV a b).B, .int .i64 (vminV a b).C]) (by simp [results, Tryz.results240, go_sem, *] <;> grind [vminV, validV, V.ok, minV, V.zero]) rfl ⟨rfl, (by repeat (first | exact Below.refl _ _ | (refine zAc ?_ (zAa _ _)) | (refine zAc ?_ (by assumption)) | (refine Below.setCell ?_ (by simp <;> omega) _) | refine Below.drew ?_))⟩
end Go.Proofs.YtnphjhbfpoekpaaGreat
