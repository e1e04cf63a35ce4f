import Derived.Test.YtnphjhbfpoekpaaGreatA7Pk
import Derived.Deep.DeepCutAuto
namespace Go.Proofs.YtnphjhbfpoekpaaGreat
set_option linter.unusedSimpArgs false
set_option linter.unusedVariables false
set_option linter.unnecessarySimpa false
open Go.RowKit
def JBox (w : World) (g : Nat) (j : J) : Prop := w.cell? ⟨g, 0, none⟩ = some (.int .i64 j.id) ∧ w.cell? ⟨g, 1, none⟩ = some (.int .i64 j.pr) ∧ w.cell? ⟨g, 2, none⟩ = some (.int .i64 j.nn) ∧ w.cell? ⟨g, 3, none⟩ = some (.int .i64 j.na) ∧ w.cell? ⟨g, 4, none⟩ = some (.int .i64 j.nb) ∧ w.cell? ⟨g, 5, none⟩ = some (.int .i64 j.nc) ∧ w.cell? ⟨g, 6, none⟩ = some (.int .i64 j.la) ∧ w.cell? ⟨g, 7, none⟩ = some (.int .i64 j.lb) ∧ w.cell? ⟨g, 8, none⟩ = some (.int .i64 j.lc) ∧ w.cell? ⟨g, 9, none⟩ = some (.int .i64 j.wl) ∧ w.cell? ⟨g, 10, none⟩ = some (.int .i64 j.lv)
theorem below_setCellsJ {B : Nat} {w : World} (b : Nat) (hB : B ≤ b) : ∀ (vs : List Value) (o : Nat) (w' : World), Below B w w' → Below B w (w'.setCells b o vs)
 | [], _, _, h => h
 | v :: vs, o, w', h => below_setCellsJ b hB vs (o + 1) (w'.setCell ⟨b, o, none⟩ v) (h.setCell hB v)
set_option maxHeartbeats 4000000 in
theorem toJob_any (j : J) (w : World) :
  Calls Tryz.prog 75 #[.agg #[.int .i64 j.id, .int .i64 j.pr, .int .i64 j.nn, .int .i64 j.na, .int .i64 j.nb, .int .i64 j.nc, .int .i64 j.la, .int .i64 j.lb, .int .i64 j.lc, .int .i64 j.wl, .int .i64 j.lv]] w fun e w' => e = .returned (.agg #[.int .i64 j.id, .int .i64 j.pr, .int .i64 j.nn, .int .i64 j.na, .int .i64 j.nb, .int .i64 j.nc, .int .i64 j.la, .int .i64 j.lb, .int .i64 j.lc, .int .i64 j.wl, .int .i64 j.lv]) ∧ Below w.heap.size w w' := by
 go_enter Tryz.func75, Tryz.ntmps75
 go_upto_region 8 with (go_at_call 40; refine (toVec_raw _ _ _ _).mono ?_; rintro e w1 ⟨rfl, hb1⟩; obtain ⟨hc1, hf1⟩ := bcell hb1; have hs1 := hb1.size; (try simp at hs1); have hy10 : w.heap.size < w1.heap.size := (by omega); have hk10 := fun o => hc1 (w.heap.size) o zOm; have hg10 := fun o => hf1 (w.heap.size) o zOm; have hy11 : w.heap.size + 1 < w1.heap.size := (by omega); have hk11 := fun o => hc1 (w.heap.size + 1) o zOm; have hg11 := fun o => hf1 (w.heap.size + 1) o zOm; have hy12 : w.heap.size + 1 + 1 < w1.heap.size := (by omega); have hk12 := fun o => hc1 (w.heap.size + 1 + 1) o zOm; have hg12 := fun o => hf1 (w.heap.size + 1 + 1) o zOm; clear hc1 hf1)
 go_cut [] (fun wr => JBox wr (w.heap.size + 1 + 1) j ∧ (∀ k, k < 11 → (wr.cell? ⟨w.heap.size + 1, k, none⟩).isSome = true) ∧ (∀ k, wr.frozen? ⟨w.heap.size + 1, k, none⟩ = false) ∧ Below w.heap.size w wr)
 case first =>
  go_wp2
  go_meet
  case rel =>
   refine ⟨by simp [go_sem, JBox, *], ?_, ?_, (by repeat (first | exact Below.refl _ _ | (refine zAc ?_ (zAa _ _)) | (refine zAc ?_ (by assumption)) | (refine Below.setCell ?_ (by simp <;> omega) _) | refine Below.drew ?_))⟩
   ·intro k hk
    match k, hk with
    | 0, _ | 1, _ | 2, _ | 3, _ | 4, _ | 5, _ | 6, _ | 7, _ | 8, _ | 9, _ | 10, _ => simp [go_sem, *]
   ·intro k
    simp [go_sem, *]
 case rest =>
  obtain ⟨⟨c0, c1, c2, c3, c4, c5, c6, c7, c8, c9, c10⟩, he, hf, hb⟩ := hcut
  have hE := Lib.hid he
  have e0 := he 0 (by omega); have e1 := he 1 (by omega); have e2 := he 2 (by omega); have e3 := he 3 (by omega); have e4 := he 4 (by omega); have e5 := he 5 (by omega); have e6 := he 6 (by omega); have e7 := he 7 (by omega); have e8 := he 8 (by omega); have e9 := he 9 (by omega); have e10 := he 10 (by omega);
  obtain ⟨o0, e0⟩ := Option.isSome_iff_exists.1 e0; obtain ⟨o1, e1⟩ := Option.isSome_iff_exists.1 e1; obtain ⟨o2, e2⟩ := Option.isSome_iff_exists.1 e2; obtain ⟨o3, e3⟩ := Option.isSome_iff_exists.1 e3; obtain ⟨o4, e4⟩ := Option.isSome_iff_exists.1 e4; obtain ⟨o5, e5⟩ := Option.isSome_iff_exists.1 e5; obtain ⟨o6, e6⟩ := Option.isSome_iff_exists.1 e6; obtain ⟨o7, e7⟩ := Option.isSome_iff_exists.1 e7; obtain ⟨o8, e8⟩ := Option.isSome_iff_exists.1 e8; obtain ⟨o9, e9⟩ := Option.isSome_iff_exists.1 e9; obtain ⟨o10, e10⟩ := Option.isSome_iff_exists.1 e10;
  clear he
  go_wp2
  have hin := World.cell?_setCells_in (w.heap.size + 1) ([.int .i64 j.id, .int .i64 j.pr, .int .i64 j.nn, .int .i64 j.na, .int .i64 j.nb, .int .i64 j.nc, .int .i64 j.la, .int .i64 j.lb, .int .i64 j.lc, .int .i64 j.wl, .int .i64 j.lv] : List Value) 0 wc (fun k hk => by simpa using hE.out k (by simpa using hk))
  have hbw := below_setCellsJ (w.heap.size + 1) (by omega) ([.int .i64 j.id, .int .i64 j.pr, .int .i64 j.nn, .int .i64 j.na, .int .i64 j.nb, .int .i64 j.nc, .int .i64 j.la, .int .i64 j.lb, .int .i64 j.lc, .int .i64 j.wl, .int .i64 j.lv] : List Value) 0 wc hb
  change bodyPost _ _ _ _ _ (wc.setCells (w.heap.size + 1) 0 ([.int .i64 j.id, .int .i64 j.pr, .int .i64 j.nn, .int .i64 j.na, .int .i64 j.nb, .int .i64 j.nc, .int .i64 j.la, .int .i64 j.lb, .int .i64 j.lc, .int .i64 j.wl, .int .i64 j.lv] : List Value))
  have f0 := hin 0 (by simp); have f1 := hin 1 (by simp); have f2 := hin 2 (by simp); have f3 := hin 3 (by simp); have f4 := hin 4 (by simp); have f5 := hin 5 (by simp); have f6 := hin 6 (by simp); have f7 := hin 7 (by simp); have f8 := hin 8 (by simp); have f9 := hin 9 (by simp); have f10 := hin 10 (by simp);
  generalize wc.setCells (w.heap.size + 1) 0 ([.int .i64 j.id, .int .i64 j.pr, .int .i64 j.nn, .int .i64 j.na, .int .i64 j.nb, .int .i64 j.nc, .int .i64 j.la, .int .i64 j.lb, .int .i64 j.lc, .int .i64 j.wl, .int .i64 j.lv] : List Value) = W at *
  simp only [Nat.zero_add, zga, zgb, Nat.reduceAdd] at f0 f1 f2 f3 f4 f5 f6 f7 f8 f9 f10
  clear hin hE
  exact bodyPost_ret (v := .agg #[.int .i64 j.id, .int .i64 j.pr, .int .i64 j.nn, .int .i64 j.na, .int .i64 j.nb, .int .i64 j.nc, .int .i64 j.la, .int .i64 j.lb, .int .i64 j.lc, .int .i64 j.wl, .int .i64 j.lv]) (by simp [results, Tryz.results75, go_sem, f0, f1, f2, f3, f4, f5, f6, f7, f8, f9, f10]) rfl ⟨rfl, hbw⟩
end Go.Proofs.YtnphjhbfpoekpaaGreat
