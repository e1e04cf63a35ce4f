/-
  What is drawn for FnVec.
-/
import Derived.Test.YtjnfdcojccgfoaaDd
import Derived.Deep.RegionWith
namespace Go.Proofs.Ytjnfdcojccgfoaa
set_option linter.unusedSimpArgs false
set_option linter.unusedVariables false
set_option linter.unnecessarySimpa false
open Go.RowKit
theorem below_drewN9 {B : Nat} {a w : World} (h : Below B a w) (k : Nat) : Below B a (w.drewN k) := ⟨h.os, h.tape, h.output, h.size, h.block⟩

set_option maxHeartbeats 2000000 in
theorem drawVecAdd_any (A : Option Addr) (n c : Nat) (w : World) (hn : n ≤ 1048576) (h : ByIn w A n) :
    Calls Try.prog 49 #[.slice A n c] w fun e w' => ∃ x y z p q r : Int, e = .returned (.tuple #[.agg #[.int .i64 x, .int .i64 y, .int .i64 z], .agg #[.int .i64 p, .int .i64 q, .int .i64 r]]) ∧ (in64 x ∧ in64 y ∧ in64 z) ∧ (in64 p ∧ in64 q ∧ in64 r) ∧ Below w.heap.size w w' := by
  have HB := Lib.hid h
  clear h
  go_enter Try.func49, Try.ntmps49
  go_wp2_with fail
  refine (cur_new A n c _ hn (HB.out.below (by repeat (first | exact Below.refl _ _ | assumption | (refine bstep ?_ (below_drewN _ _)) | exact bstep (by assumption) (by assumption) | (refine bstep ?_ (below_alloc _ _)) | (refine bstep ?_ (by assumption)) | (refine Below.setCell ?_ (by simp <;> omega) _) | refine Below.drew ?_)))).mono ?_
  rintro e w1 ⟨g, rfl, hg, cu1, hb1⟩
  have hs1 := hb1.size
  (try simp at hs1)
  have hy10 : w.heap.size < w1.heap.size := by omega
  have hk10 := fun o => hb1.cell (p := ⟨w.heap.size, o, none⟩) (by first | omega | (simp <;> omega))
  have hg10 := fun o => hb1.frozen (p := ⟨w.heap.size, o, none⟩) (by first | omega | (simp <;> omega))
  have hy11 : w.heap.size + 1 < w1.heap.size := by omega
  have hk11 := fun o => hb1.cell (p := ⟨w.heap.size + 1, o, none⟩) (by first | omega | (simp <;> omega))
  have hg11 := fun o => hb1.frozen (p := ⟨w.heap.size + 1, o, none⟩) (by first | omega | (simp <;> omega))
  have hgl := cu1.lt
  simp at hg
  have C1 := Lib.hid cu1
  clear cu1
  have B1 : Below w.heap.size w w1 := bstep (bstep (below_alloc _ _) (below_alloc _ _)) hb1
  go_wp2_with fail
  refine (cur_any g _ (by repeat (first | exact C1.out | refine Cur.alloc ?_ _ | refine Cur.drewN ?_ _ | refine Cur.drew ?_ | refine Cur.set ?_ (by simp <;> omega) _))).mono ?_
  rintro e w2 ⟨x, y, z, rfl, i1, i2, i3, cu2, fr2⟩
  have hs2 := fr2.size
  (try simp at hs2)
  have hy20 : w.heap.size < w2.heap.size := by omega
  have hk20 := fun o => fr2.cell (b := w.heap.size) (by first | omega | (simp <;> omega)) (by omega) o
  have hg20 := fun o => fr2.frozen (b := w.heap.size) (by first | omega | (simp <;> omega)) (by omega) o
  have hy21 : w.heap.size + 1 < w2.heap.size := by omega
  have hk21 := fun o => fr2.cell (b := w.heap.size + 1) (by first | omega | (simp <;> omega)) (by omega) o
  have hg21 := fun o => fr2.frozen (b := w.heap.size + 1) (by first | omega | (simp <;> omega)) (by omega) o
  have C2 := Lib.hid cu2
  have hgl2 := cu2.lt
  clear cu2
  have B2 : Below w.heap.size w w2 := Below.trans (by repeat (first | with_reducible exact B1 | with_reducible exact Below.refl _ _ | (with_reducible refine Below.setCell ?_ ?_ _; rotate_left; focus (simp <;> omega)) | (with_reducible refine Below.alloc ?_ ?_ _; rotate_left; focus (first | omega | (simp <;> omega))) | with_reducible refine below_drewN9 ?_ _ | with_reducible refine Below.drew ?_)) (fr2.bel (B := w.heap.size) (fun k e => by omega) (by first | omega | (simp <;> omega)))
  go_wp2_with fail
  refine (cur_any g _ (by repeat (first | exact C2.out | refine Cur.alloc ?_ _ | refine Cur.drewN ?_ _ | refine Cur.drew ?_ | refine Cur.set ?_ (by simp <;> omega) _))).mono ?_
  rintro e w3 ⟨p, q, r, rfl, j1, j2, j3, cu3, fr3⟩
  have hs3 := fr3.size
  (try simp at hs3)
  have hy30 : w.heap.size < w3.heap.size := by omega
  have hk30 := fun o => fr3.cell (b := w.heap.size) (by first | omega | (simp <;> omega)) (by omega) o
  have hg30 := fun o => fr3.frozen (b := w.heap.size) (by first | omega | (simp <;> omega)) (by omega) o
  have hy31 : w.heap.size + 1 < w3.heap.size := by omega
  have hk31 := fun o => fr3.cell (b := w.heap.size + 1) (by first | omega | (simp <;> omega)) (by omega) o
  have hg31 := fun o => fr3.frozen (b := w.heap.size + 1) (by first | omega | (simp <;> omega)) (by omega) o
  have hy32 : w2.heap.size < w3.heap.size := by omega
  have hk32 := fun o => fr3.cell (b := w2.heap.size) (by first | omega | (simp <;> omega)) (by omega) o
  have hg32 := fun o => fr3.frozen (b := w2.heap.size) (by first | omega | (simp <;> omega)) (by omega) o
  have C3 := Lib.hid cu3
  have hgl3 := cu3.lt
  clear cu3
  have B3 : Below w.heap.size w w3 := Below.trans (by repeat (first | with_reducible exact B2 | with_reducible exact Below.refl _ _ | (with_reducible refine Below.setCell ?_ ?_ _; rotate_left; focus (simp <;> omega)) | (with_reducible refine Below.alloc ?_ ?_ _; rotate_left; focus (first | omega | (simp <;> omega))) | with_reducible refine below_drewN9 ?_ _ | with_reducible refine Below.drew ?_)) (fr3.bel (B := w.heap.size) (fun k e => by omega) (by first | omega | (simp <;> omega)))
  clear fr2 fr3 hb1
  go_wp2
  go_region
  all_goals go_wp2
  all_goals (try go_light)
  all_goals exact bodyPost_ret (v := .tuple #[.agg #[.int .i64 x, .int .i64 y, .int .i64 z], .agg #[.int .i64 p, .int .i64 q, .int .i64 r]]) (by simp [results, Try.results49, go_sem, *]) rfl ⟨_, _, _, _, _, _, rfl, ⟨i1, i2, i3⟩, ⟨j1, j2, j3⟩, (by repeat (first | with_reducible exact B3 | with_reducible exact Below.refl _ _ | (with_reducible refine Below.setCell ?_ ?_ _; rotate_left; focus (simp <;> omega)) | (with_reducible refine Below.alloc ?_ ?_ _; rotate_left; focus (first | omega | (simp <;> omega))) | with_reducible refine below_drewN9 ?_ _ | with_reducible refine Below.drew ?_))⟩
end Go.Proofs.Ytjnfdcojccgfoaa
