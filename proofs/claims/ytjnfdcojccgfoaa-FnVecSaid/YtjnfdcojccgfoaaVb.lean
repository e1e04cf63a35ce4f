import Derived.Test.YtjnfdcojccgfoaaVa
namespace Go.Proofs.Ytjnfdcojccgfoaa
set_option linter.unusedSimpArgs false
set_option linter.unusedVariables false
set_option linter.unnecessarySimpa false
open Go.RowKit
def sumV (a b : V) : V := ⟨wrap64 (a.A + b.A), wrap64 (a.B + b.B), wrap64 (a.C + b.C)⟩
def difV (a b : V) : V := ⟨wrap64 (a.A - b.A), wrap64 (a.B - b.B), wrap64 (a.C - b.C)⟩
def minV (a b : V) : V := ⟨min a.A b.A, min a.B b.B, min a.C b.C⟩
def addV (a b : V) : V := validV a b (sumV a b)
def addB (a b : V) : Bool := validB a b (sumV a b)
def subV (a b : V) : V := validV a b (difV a b)
def subB (a b : V) : Bool := validB a b (difV a b)
def vminV (a b : V) : V := validV a b (minV a b)
theorem valid_any (a b : V) (x y z : Int) (w : World) :
    Calls Try.prog 123 #[.agg #[.int .i64 a.A, .int .i64 a.B, .int .i64 a.C], .agg #[.int .i64 b.A, .int .i64 b.B, .int .i64 b.C], .agg #[.int .i64 x, .int .i64 y, .int .i64 z]] w fun e w' =>
      e = .returned (.tuple #[.agg #[.int .i64 (validV a b ⟨x, y, z⟩).A, .int .i64 (validV a b ⟨x, y, z⟩).B, .int .i64 (validV a b ⟨x, y, z⟩).C], .bool (validB a b ⟨x, y, z⟩)]) ∧ Below w.heap.size w w' := valid_raw a b ⟨x, y, z⟩ w

set_option maxHeartbeats 1000000 in
theorem add_raw (a b : V) (w : World) :
    Calls Try.prog 53 #[.agg #[.int .i64 a.A, .int .i64 a.B, .int .i64 a.C], .agg #[.int .i64 b.A, .int .i64 b.B, .int .i64 b.C]] w fun e w' =>
      e = .returned (.tuple #[.agg #[.int .i64 (addV a b).A, .int .i64 (addV a b).B, .int .i64 (addV a b).C], .bool (addB a b)]) ∧ Below w.heap.size w w' := by
  go_enter Try.func53, Try.ntmps53
  go_wp2_with fail
  refine (valid_raw a b (sumV a b) _).mono ?_
  rintro e w1 ⟨rfl, hb1⟩
  obtain ⟨hc1, hf1⟩ := bcell hb1
  have hy1 : w.heap.size < w1.heap.size ∧ w.heap.size + 1 < w1.heap.size ∧ w.heap.size + 1 + 1 < w1.heap.size := by have := hb1.size; simp at this; omega
  go_wp2_with fail
  refine bodyPost_ret (v := .tuple #[.agg #[.int .i64 (addV a b).A, .int .i64 (addV a b).B, .int .i64 (addV a b).C], .bool (addB a b)]) (by simp [results, Try.results53, go_sem, addV, addB, *]) rfl ⟨rfl, (by repeat (first | exact Below.refl _ _ | (refine bstep ?_ (below_alloc _ _)) | (refine bstep ?_ (by assumption)) | (refine Below.setCell ?_ (by simp <;> omega) _) | refine Below.drew ?_))⟩

set_option maxHeartbeats 1000000 in
theorem sub_raw (a b : V) (w : World) :
    Calls Try.prog 55 #[.agg #[.int .i64 a.A, .int .i64 a.B, .int .i64 a.C], .agg #[.int .i64 b.A, .int .i64 b.B, .int .i64 b.C]] w fun e w' =>
      e = .returned (.tuple #[.agg #[.int .i64 (subV a b).A, .int .i64 (subV a b).B, .int .i64 (subV a b).C], .bool (subB a b)]) ∧ Below w.heap.size w w' := by
  go_enter Try.func55, Try.ntmps55
  go_wp2_with fail
  refine (valid_raw a b (difV a b) _).mono ?_
  rintro e w1 ⟨rfl, hb1⟩
  obtain ⟨hc1, hf1⟩ := bcell hb1
  have hy1 : w.heap.size < w1.heap.size ∧ w.heap.size + 1 < w1.heap.size ∧ w.heap.size + 1 + 1 < w1.heap.size := by have := hb1.size; simp at this; omega
  go_wp2_with fail
  refine bodyPost_ret (v := .tuple #[.agg #[.int .i64 (subV a b).A, .int .i64 (subV a b).B, .int .i64 (subV a b).C], .bool (subB a b)]) (by simp [results, Try.results55, go_sem, subV, subB, *]) rfl ⟨rfl, (by repeat (first | exact Below.refl _ _ | (refine bstep ?_ (below_alloc _ _)) | (refine bstep ?_ (by assumption)) | (refine Below.setCell ?_ (by simp <;> omega) _) | refine Below.drew ?_))⟩

set_option maxHeartbeats 1000000 in
theorem min_raw (a b : V) (w : World) :
    Calls Try.prog 57 #[.agg #[.int .i64 a.A, .int .i64 a.B, .int .i64 a.C], .agg #[.int .i64 b.A, .int .i64 b.B, .int .i64 b.C]] w fun e w' =>
      e = .returned (.agg #[.int .i64 (vminV a b).A, .int .i64 (vminV a b).B, .int .i64 (vminV a b).C]) ∧ Below w.heap.size w w' := by
  go_enter Try.func57, Try.ntmps57
  go_wp2_with fail
  all_goals refine (valid_any a b _ _ _ _).mono ?_
  all_goals rintro e w1 ⟨rfl, hb1⟩
  all_goals obtain ⟨hc1, hf1⟩ := bcell hb1
  all_goals have hy1 : w.heap.size < w1.heap.size ∧ w.heap.size + 1 < w1.heap.size ∧ w.heap.size + 1 + 1 < w1.heap.size := by have := hb1.size; simp at this; omega
  all_goals go_wp2_with fail
  all_goals refine bodyPost_ret (v := .agg #[.int .i64 (vminV a b).A, .int .i64 (vminV a b).B, .int .i64 (vminV a b).C]) (by simp [results, Try.results57, go_sem, *]; clear hb1 hc1 hf1 hy1; grind [vminV, minV]) rfl ⟨rfl, (by repeat (first | exact Below.refl _ _ | (refine bstep ?_ (below_alloc _ _)) | (refine bstep ?_ (by assumption)) | (refine Below.setCell ?_ (by simp <;> omega) _) | refine Below.drew ?_))⟩
def V.eqB (a b : V) : Bool := a.A == b.A && a.B == b.B && a.C == b.C
set_option maxHeartbeats 1000000 in
theorem eqVec_raw (a b : V) (w : World) :
    Calls Try.prog 48 #[.agg #[.int .i64 a.A, .int .i64 a.B, .int .i64 a.C], .agg #[.int .i64 b.A, .int .i64 b.B, .int .i64 b.C]] w fun e w' =>
      e = .returned (.bool (a.eqB b)) ∧ Below w.heap.size w w' := by
  go_enter Try.func48, Try.ntmps48
  go_wp2_with fail
  all_goals go_ret
  all_goals refine ⟨ret_bool ?_, (by repeat (first | exact Below.refl _ _ | (refine bstep ?_ (below_alloc _ _)) | (refine bstep ?_ (by assumption)) | (refine Below.setCell ?_ (by simp <;> omega) _) | refine Below.drew ?_))⟩
  all_goals simp_all [V.eqB]
end Go.Proofs.Ytjnfdcojccgfoaa
