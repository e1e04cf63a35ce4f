import Derived.Test.YtnphjhbfpoekpaaGreatA1Pl
import Derived.Deep.Light
import Derived.Deep.RegionHeld3
import Derived.Test.YtnphjhbfpoekpaaGreatProg
import Derived.Shelf.SlGeneric
import Derived.Ground.SlgmProg
import Derived.Ground.SlgnProg
import Derived.Ground.NamesProg
import Derived.Shelf.SortM.Plain
import Derived.Shelf.SortM.SortNone
import Derived.Shelf.SlicesE.Compact
namespace Go.Proofs.YtnphjhbfpoekpaaGreat
set_option linter.unusedSimpArgs false
set_option linter.unusedVariables false
set_option linter.unnecessarySimpa false
open Go.RowKit
theorem subV_fit (a b : V) (h : fitsB b.A b.B b.C a.A a.B a.C = true) : subV a b = difV a b ∧ subB a b = true := by
 have w (x : Int) (h : -1000001 ≤ x ∧ x ≤ 1000001) : wrap64 x = x := IntWalk.wrap64_in x (by omega)
 have h1 : (0 ≤ a.A - b.A ∧ a.A - b.A ≤ 1000000) ∧ (0 ≤ a.B - b.B ∧ a.B - b.B ≤ 1000000) ∧ (0 ≤ a.C - b.C ∧ a.C - b.C ≤ 1000000) := by
  simp [fitsB, vecOkB, resB, inB] at h; omega
 have e : (difV a b).ok = true := by
  simp only [difV, V.ok, vecOkB, resB, inB, w _ (show _ by omega : -1000001 ≤ a.A - b.A ∧ a.A - b.A ≤ 1000001), w _ (show _ by omega : -1000001 ≤ a.B - b.B ∧ a.B - b.B ≤ 1000001), w _ (show _ by omega : -1000001 ≤ a.C - b.C ∧ a.C - b.C ≤ 1000001)]
  simp; omega
 have e2 : a.ok = true ∧ b.ok = true := by simp_all [fitsB, V.ok]
 simp [subV, subB, validV, validB, e, e2]
theorem subV_no (a b : V) (h : fitsB b.A b.B b.C a.A a.B a.C = false) : subV a b = V.zero ∧ subB a b = false := by
 have w (x : Int) (h : -1000001 ≤ x ∧ x ≤ 1000001) : wrap64 x = x := IntWalk.wrap64_in x (by omega)
 have e : subB a b = false := by
  cases hh : subB a b with
  | false => rfl
  | true =>
   exfalso
   simp only [subB, validB, V.ok, Bool.and_eq_true] at hh
   obtain ⟨⟨ha, hb⟩, hd⟩ := hh
   have ha' := ha
   have hb' := hb
   simp [vecOkB, resB, inB] at ha hb
   simp only [difV, vecOkB, resB, inB, w _ (show _ by omega : -1000001 ≤ a.A - b.A ∧ a.A - b.A ≤ 1000001), w _ (show _ by omega : -1000001 ≤ a.B - b.B ∧ a.B - b.B ≤ 1000001), w _ (show _ by omega : -1000001 ≤ a.C - b.C ∧ a.C - b.C ≤ 1000001)] at hd
   simp at hd
   simp [fitsB, ha', hb'] at h
   omega
 refine ⟨?_, e⟩
 simp only [subB, validB] at e
 simp [subV, validV, e]
set_option maxHeartbeats 1000000 in
theorem ssub_raw (a b : V) (w : World) :
  Calls Tryz.prog 246 #[.agg #[.int .i64 a.A, .int .i64 a.B, .int .i64 a.C], .agg #[.int .i64 b.A, .int .i64 b.B, .int .i64 b.C]] w fun e w' => e = .returned (.tuple #[.agg #[.int .i64 (subV a b).A, .int .i64 (subV a b).B, .int .i64 (subV a b).C], .bool (subB a b)]) ∧ Below w.heap.size w w' := by
 go_enter Tryz.func246, Tryz.ntmps246
 go_wp2_with (go_at_call 204; refine (svecFits_raw _ _ _ _ _ _ _).mono ?_; rintro e w1 ⟨rfl, hb1⟩; have hy1 : w.heap.size < w1.heap.size ∧ w.heap.size + 1 < w1.heap.size ∧ w.heap.size + 1 + 1 < w1.heap.size := (by have hs := hb1.size; (try simp at hs); (first | trivial | omega)); obtain ⟨hc1, hf1⟩ := bcell hb1)
 all_goals go_light
 ·have h : fitsB b.A b.B b.C a.A a.B a.C = false := by simp_all
  rw [(subV_no a b h).1, (subV_no a b h).2]
  (try go_light); refine bodyPost_ret (v := .tuple #[.agg #[.int .i64 0, .int .i64 0, .int .i64 0], .bool false]) (by simp [results, Tryz.results246, go_sem, *]) rfl ⟨rfl, (by repeat (first | exact Below.refl _ _ | (refine zAc ?_ (zAa _ _)) | (refine zAc ?_ (by assumption)) | (refine Below.setCell ?_ (by simp <;> omega) _) | refine Below.drew ?_))⟩
 ·have h : fitsB b.A b.B b.C a.A a.B a.C = true := by simp_all
  rw [(subV_fit a b h).1, (subV_fit a b h).2]
  (try go_light); refine bodyPost_ret (v := .tuple #[.agg #[.int .i64 (difV a b).A, .int .i64 (difV a b).B, .int .i64 (difV a b).C], .bool true]) (by simp [results, Tryz.results246, go_sem, difV, *]) rfl ⟨rfl, (by repeat (first | exact Below.refl _ _ | (refine zAc ?_ (zAa _ _)) | (refine zAc ?_ (by assumption)) | (refine Below.setCell ?_ (by simp <;> omega) _) | refine Below.drew ?_))⟩
theorem vminV_ok (a b : V) (ha : vecOkB a.A a.B a.C = true) (hb : vecOkB b.A b.B b.C = true) : vminV a b = minV a b := by
 have : (minV a b).ok = true := by grind [V.ok, minV, vecOkB, resB, inB]
 simp [vminV, validV, V.ok, ha, hb] at *
 simp [this]
set_option maxHeartbeats 400000 in
theorem smin_any (x y : Int) (w : World) :
  Calls Tryz.prog 265 #[.int .i64 x, .int .i64 y] w fun e w' => e = .returned (.int .i64 (min x y)) ∧ w = w' := by
 go_enter Tryz.func265, Tryz.ntmps265
 go_wp2
 all_goals go_ret
 all_goals exact ⟨ret_int (by omega), rfl⟩
set_option maxHeartbeats 1000000 in
theorem svmin_raw (a b : V) (w : World) :
  Calls Tryz.prog 240 #[.agg #[.int .i64 a.A, .int .i64 a.B, .int .i64 a.C], .agg #[.int .i64 b.A, .int .i64 b.B, .int .i64 b.C]] w fun e w' => e = .returned (.agg #[.int .i64 (vminV a b).A, .int .i64 (vminV a b).B, .int .i64 (vminV a b).C]) ∧ Below w.heap.size w w' := by
 go_enter Tryz.func240, Tryz.ntmps240
 go_wp2_with (go_at_call 172; refine (svecOk_raw _ _ _ _).mono ?_; rintro e w1 ⟨rfl, hb1⟩; obtain ⟨hc1, hf1⟩ := bcell hb1; have hs1 := hb1.size; (try simp at hs1); have hy10 : w.heap.size < w1.heap.size := (by omega); have hk10 := fun o => hc1 (w.heap.size) o zOm; have hg10 := fun o => hf1 (w.heap.size) o zOm; have hy11 : w.heap.size + 1 < w1.heap.size := (by omega); have hk11 := fun o => hc1 (w.heap.size + 1) o zOm; have hg11 := fun o => hf1 (w.heap.size + 1) o zOm; have hy12 : w.heap.size + 1 + 1 < w1.heap.size := (by omega); have hk12 := fun o => hc1 (w.heap.size + 1 + 1) o zOm; have hg12 := fun o => hf1 (w.heap.size + 1 + 1) o zOm; clear hc1 hf1)
 ·go_light
  refine bodyPost_ret (v := .agg #[.int .i64 (vminV a b).A, .int .i64 (vminV a b).B, .int .i64 (vminV a b).C]) (by simp [results, Tryz.results240, go_sem, *] <;> grind [vminV, validV, V.ok, minV, V.zero]) rfl ⟨rfl, (by repeat (first | exact Below.refl _ _ | (refine zAc ?_ (zAa _ _)) | (refine zAc ?_ (by assumption)) | (refine Below.setCell ?_ (by simp <;> omega) _) | refine Below.drew ?_))⟩
 ·go_region_held3 (fun w' => w'.cell? ⟨w.heap.size, 0, none⟩ = some (.int .i64 a.A) ∧ w'.cell? ⟨w.heap.size, 1, none⟩ = some (.int .i64 a.B) ∧ w'.cell? ⟨w.heap.size, 2, none⟩ = some (.int .i64 a.C) ∧ w'.cell? ⟨w.heap.size + 1, 0, none⟩ = some (.int .i64 b.A) ∧ w'.cell? ⟨w.heap.size + 1, 1, none⟩ = some (.int .i64 b.B) ∧ w'.cell? ⟨w.heap.size + 1, 2, none⟩ = some (.int .i64 b.C)) (simp [go_sem, *, World.cell?_alloc_some, World.cell?_setCell_far, Nat.lt_add_right, Nat.ne_of_gt]) (first | (go_at_call 265; refine (smin_any _ _ _).mono ?_; rintro e w1 ⟨rfl, rfl⟩))
  go_wp2
  go_light
  rw [vminV_ok a b (by simp_all) (by simp_all)]
  refine bodyPost_ret (v := .agg #[.int .i64 (minV a b).A, .int .i64 (minV a b).B, .int .i64 (minV a b).C]) (by simp [results, Tryz.results240, go_sem, minV, *]) rfl ⟨rfl, (by repeat (first | exact Below.refl _ _ | (refine zAc ?_ (zAa _ _)) | (refine zAc ?_ (by assumption)) | (refine Below.setCell ?_ (by simp <;> omega) _) | refine Below.drew ?_))⟩
 ·go_light
  refine bodyPost_ret (v := .agg #[.int .i64 (vminV a b).A, .int .i64 (vminV a b).B, .int .i64 (vminV a b).C]) (by simp [results, Tryz.results240, go_sem, *] <;> grind [vminV, validV, V.ok, minV, V.zero]) rfl ⟨rfl, (by repeat (first | exact Below.refl _ _ | (refine zAc ?_ (zAa _ _)) | (refine zAc ?_ (by assumption)) | (refine Below.setCell ?_ (by simp <;> omega) _) | refine Below.drew ?_))⟩
end Go.Proofs.YtnphjhbfpoekpaaGreat
namespace Go.Proofs
open Go.Shelf
def Tryz.sortI_ren : Go.Shelf.Ren := ⟨fun | 5 => 138 | 8 => 195 | 7 => 196 | 19 => 227 | 20 => 228 | 10 => 229 | 11 => 230 | 12 => 231 | 13 => 232 | 14 => 233 | 15 => 234 | 16 => 235 | 17 => 236 | 18 => 237 | 30 => 253 | 31 => 249 | 32 => 250 | 33 => 254 | 34 => 255 | 35 => 256 | 40 => 267 | n => n, fun | 23 => 23 | 25 => 3 | 3 => 3 | 32 => 224 | 22 => 23 | 0 => 0 | 44 => 250 | 46 => 252 | 4 => 4 | 36 => 243 | 35 => 242 | 41 => 247 | 5 => 5 | 9 => 9 | 53 => 263 | 57 => 267 | 63 => 276 | 64 => 277 | n => n, fun | n => n⟩
theorem Tryz.sortI : Go.Proofs.SlLaysM.n5 Tryz.prog Tryz.sortI_ren := {
 mixed := by kernel_rfl
 f5 := ⟨Tryz.f138.name, by decide, Tryz.func138.trans (congrArg some (by kernel_rfl))⟩
 f7 := ⟨Tryz.f196.name, by decide, Tryz.func196.trans (congrArg some (by kernel_rfl))⟩
 f8 := Tryz.func195.trans (congrArg some (by kernel_rfl))
 f10 := ⟨Tryz.f229.name, by decide, Tryz.func229.trans (congrArg some (by kernel_rfl))⟩
 f11 := ⟨Tryz.f230.name, by decide, Tryz.func230.trans (congrArg some (by kernel_rfl))⟩
 f12 := ⟨Tryz.f231.name, by decide, Tryz.func231.trans (congrArg some (by kernel_rfl))⟩
 f13 := ⟨Tryz.f232.name, by decide, Tryz.func232.trans (congrArg some (by kernel_rfl))⟩
 f14 := ⟨Tryz.f233.name, by decide, Tryz.func233.trans (congrArg some (by kernel_rfl))⟩
 f15 := ⟨Tryz.f234.name, by decide, Tryz.func234.trans (congrArg some (by kernel_rfl))⟩
 f16 := ⟨Tryz.f235.name, by decide, Tryz.func235.trans (congrArg some (by kernel_rfl))⟩
 f17 := ⟨Tryz.f236.name, by decide, Tryz.func236.trans (congrArg some (by kernel_rfl))⟩
 f18 := ⟨Tryz.f237.name, by decide, Tryz.func237.trans (congrArg some (by kernel_rfl))⟩
 f19 := Tryz.func227.trans (congrArg some (by kernel_rfl))
 f20 := Tryz.func228.trans (congrArg some (by kernel_rfl))
 f30 := ⟨Tryz.f253.name, by decide, Tryz.func253.trans (congrArg some (by kernel_rfl))⟩
 f31 := Tryz.func249.trans (congrArg some (by kernel_rfl))
 f32 := Tryz.func250.trans (congrArg some (by kernel_rfl))
 f33 := ⟨Tryz.f254.name, by decide, Tryz.func254.trans (congrArg some (by kernel_rfl))⟩
 f34 := ⟨Tryz.f255.name, by decide, Tryz.func255.trans (congrArg some (by kernel_rfl))⟩
 f35 := ⟨Tryz.f256.name, by decide, Tryz.func256.trans (congrArg some (by kernel_rfl))⟩
 f40 := ⟨Tryz.f267.name, by decide, Tryz.func267.trans (congrArg some (by kernel_rfl))⟩
 t0 := Tryz.underlying0
 a0 := Tryz.isAgg0
 z0 := Tryz.sizeOf0
 v0 := Tryz.zeroValue0
 t3 := Tryz.underlying3
 a3 := Tryz.isAgg3
 z3 := Tryz.sizeOf3
 v3 := Tryz.zeroValue3
 t4 := Tryz.underlying4
 a4 := Tryz.isAgg4
 z4 := Tryz.sizeOf4
 v4 := Tryz.zeroValue4
 t5 := Tryz.underlying5
 a5 := Tryz.isAgg5
 z5 := Tryz.sizeOf5
 v5 := Tryz.zeroValue5
 t9 := Tryz.underlying9
 a9 := Tryz.isAgg9
 z9 := Tryz.sizeOf9
 v9 := Tryz.zeroValue9
 t22 := Tryz.underlying23
 a22 := Tryz.isAgg23
 z22 := Tryz.sizeOf23
 v22 := Tryz.zeroValue23
 t23 := Tryz.underlying23
 a23 := Tryz.isAgg23
 z23 := Tryz.sizeOf23
 v23 := Tryz.zeroValue23
 t25 := Tryz.underlying3
 a25 := Tryz.isAgg3
 z25 := Tryz.sizeOf3
 v25 := Tryz.zeroValue3
 t32 := Tryz.underlying224
 a32 := Tryz.isAgg224
 z32 := Tryz.sizeOf224
 v32 := Tryz.zeroValue224
 t35 := Tryz.underlying242
 a35 := Tryz.isAgg242
 z35 := Tryz.sizeOf242
 v35 := Tryz.zeroValue242
 t36 := Tryz.underlying243
 a36 := Tryz.isAgg243
 z36 := Tryz.sizeOf243
 v36 := Tryz.zeroValue243
 t41 := Tryz.underlying247
 a41 := Tryz.isAgg247
 z41 := Tryz.sizeOf247
 v41 := Tryz.zeroValue247
 t44 := Tryz.underlying250
 a44 := Tryz.isAgg250
 z44 := Tryz.sizeOf250
 v44 := Tryz.zeroValue250
 t46 := Tryz.underlying252
 a46 := Tryz.isAgg252
 z46 := Tryz.sizeOf252
 v46 := Tryz.zeroValue252
 t53 := Tryz.underlying263
 a53 := Tryz.isAgg263
 z53 := Tryz.sizeOf263
 v53 := Tryz.zeroValue263
 t57 := Tryz.underlying267
 a57 := Tryz.isAgg267
 z57 := Tryz.sizeOf267
 v57 := Tryz.zeroValue267
 t63 := Tryz.underlying276
 a63 := Tryz.isAgg276
 z63 := Tryz.sizeOf276
 v63 := Tryz.zeroValue276
 t64 := Tryz.underlying277
 a64 := Tryz.isAgg277
 z64 := Tryz.sizeOf277
 v64 := Tryz.zeroValue277 }
def Tryz.compactI_ren : Go.Shelf.Ren := ⟨fun | 43 => 139 | n => n, fun | 22 => 23 | 23 => 3 | 3 => 3 | 4 => 4 | 0 => 0 | n => n, fun | n => n⟩
theorem Tryz.compactI : Go.Proofs.SlLaysE.n43 Tryz.prog Tryz.compactI_ren := {
 mixed := by kernel_rfl
 f43 := ⟨Tryz.f139.name, by decide, Tryz.func139.trans (congrArg some (by kernel_rfl))⟩
 t0 := Tryz.underlying0
 a0 := Tryz.isAgg0
 z0 := Tryz.sizeOf0
 v0 := Tryz.zeroValue0
 t3 := Tryz.underlying3
 a3 := Tryz.isAgg3
 z3 := Tryz.sizeOf3
 v3 := Tryz.zeroValue3
 t4 := Tryz.underlying4
 a4 := Tryz.isAgg4
 z4 := Tryz.sizeOf4
 v4 := Tryz.zeroValue4
 t22 := Tryz.underlying23
 a22 := Tryz.isAgg23
 z22 := Tryz.sizeOf23
 v22 := Tryz.zeroValue23
 a23 := Tryz.isAgg3
 z23 := Tryz.sizeOf3 }
end Go.Proofs
