/-
  A job is sought by its number (the reference).
-/
import Derived.Test.YtnphjhbfpoekpaaGreatA11Pe
namespace Go.Proofs.YtnphjhbfpoekpaaGreat
set_option linter.unusedSimpArgs false
set_option linter.unusedVariables false
set_option linter.unnecessarySimpa false
open Go.RowKit
def zJ : J := ⟨0, 0, 0, 0, 0, 0, 0, 0, 0, 0, 0⟩
theorem find_at {js : List J} {id : Int} {k : Nat} {j : J} (hj : js[k]? = some j) (he : j.id = id) (h : ∀ i x, i < k → js[i]? = some x → x.id ≠ id) : findJ js id = some j := by
  unfold findJ
  rw [List.find?_eq_some_iff_getElem]
  obtain ⟨hl, hv⟩ := List.getElem?_eq_some_iff.1 hj
  refine ⟨by simp [he], k, hl, hv, fun i hi => ?_⟩
  have hil : i < js.length := by omega
  simpa using h i js[i] hi (List.getElem?_eq_getElem hil)
theorem find_no {js : List J} {id : Int} {n : Nat} (hn : js.length = n) (h : ∀ i x, i < n → js[i]? = some x → x.id ≠ id) : findJ js id = none := by
  unfold findJ
  rw [List.find?_eq_none]
  intro x hx
  obtain ⟨i, hi, rfl⟩ := List.getElem_of_mem hx
  simp [h i _ (by omega) (List.getElem?_eq_getElem hi)]

set_option maxHeartbeats 8000000 in
set_option maxRecDepth 20000 in
theorem sFind_any (A : Option Addr) (n c : Nat) (js : List J) (id : Int) (w : World) (hn : n ≤ 1048577) (hr : Rd w A n 11 (jflat js)) (hl : ∀ g, A = some ⟨g, 0, none⟩ → g < w.heap.size) :
    Calls Tryz.prog 71 #[.slice A n c, .int .i64 id] w fun e w' => ∃ q : J, e = .returned (.tuple #[.agg #[.int .i64 q.id, .int .i64 q.pr, .int .i64 q.nn, .int .i64 q.na, .int .i64 q.nb, .int .i64 q.nc, .int .i64 q.la, .int .i64 q.lb, .int .i64 q.lc, .int .i64 q.wl, .int .i64 q.lv], .bool (findJ js id).isSome]) ∧ q = (findJ js id).getD zJ ∧ Below w.heap.size w w' := by
  have hm : n ≤ 9223372036854775807 := by omega
  have HPL := Lib.hid hr.jlen
  have HR := Lib.hid hr
  have HL := Lib.hid hl
  clear hr hl
  go_enter Tryz.func71, Tryz.ntmps71
  have Z0 : Hid ((w.alloc (.cells #[.int .i64 0, .int .i64 0, .int .i64 0, .int .i64 0, .int .i64 0, .int .i64 0, .int .i64 0, .int .i64 0, .int .i64 0, .int .i64 0, .int .i64 0] 95)).heap[w.heap.size]? = some (.cells #[.int .i64 0, .int .i64 0, .int .i64 0, .int .i64 0, .int .i64 0, .int .i64 0, .int .i64 0, .int .i64 0, .int .i64 0, .int .i64 0, .int .i64 0] 95 (0, 0))) := Lib.hid (heap_at _ rfl)
  have B0 := Lib.hid (below_alloc w (.cells #[.int .i64 0, .int .i64 0, .int .i64 0, .int .i64 0, .int .i64 0, .int .i64 0, .int .i64 0, .int .i64 0, .int .i64 0, .int .i64 0, .int .i64 0] 95))
  go_upto_region 1 with fail
  generalize w.alloc (.cells #[.int .i64 0, .int .i64 0, .int .i64 0, .int .i64 0, .int .i64 0, .int .i64 0, .int .i64 0, .int .i64 0, .int .i64 0, .int .i64 0, .int .i64 0] 95) = w1 at *
  go_wp2
  go_loopw [10] (fun i wr => ∃ k : Nat, k ≤ n ∧ i = .int .i64 k ∧ Below w.heap.size w wr ∧ wr.heap[w.heap.size]? = some (.cells #[.int .i64 0, .int .i64 0, .int .i64 0, .int .i64 0, .int .i64 0, .int .i64 0, .int .i64 0, .int .i64 0, .int .i64 0, .int .i64 0, .int .i64 0] 95 (0, 0)) ∧ Hid (∀ i x, i < k → js[i]? = some x → x.id ≠ id)) (fun i _ => n - (intOf i).toNat)
  case atStart => exact ⟨0, Nat.zero_le _, rfl, B0.out, Z0.out, Lib.hid (fun i x hi => absurd hi (by omega))⟩
  case round =>
    clear Z0 B0
    obtain ⟨k, hk, rfl, hbw, hz, hno⟩ := hrel
    obtain ⟨wo, rfl⟩ : ∃ x, x = wr := ⟨wr, rfl⟩
    have HZ := Lib.hid hz
    have HBW := Lib.hid hbw
    by_cases hlt : k < n
    · have hlt' : (k : Int) < n := by omega
      obtain ⟨g, q, rfl, hq, d0, d1, d2, d3, d4, d5, d6, d7, d8, d9, d10⟩ := (HR.out.below HL.out hbw).j hlt
      have HQ := Lib.hid hq
      clear hq hbw hz
      by_cases he : q.id = id
      · have HF := Lib.hid (find_at HQ.out he hno.out)
        subst he
        have HZ2 := Lib.hid (bx_alloc HZ.out (.cells #[.int .i64 q.id, .int .i64 q.pr, .int .i64 q.nn, .int .i64 q.na, .int .i64 q.nb, .int .i64 q.nc, .int .i64 q.la, .int .i64 q.lb, .int .i64 q.lc, .int .i64 q.wl, .int .i64 q.lv] 95))
        have HQ2 : Hid ((wo.alloc (.cells #[.int .i64 q.id, .int .i64 q.pr, .int .i64 q.nn, .int .i64 q.na, .int .i64 q.nb, .int .i64 q.nc, .int .i64 q.la, .int .i64 q.lb, .int .i64 q.lc, .int .i64 q.wl, .int .i64 q.lv] 95)).heap[wo.heap.size]? = some (.cells #[.int .i64 q.id, .int .i64 q.pr, .int .i64 q.nn, .int .i64 q.na, .int .i64 q.nb, .int .i64 q.nc, .int .i64 q.la, .int .i64 q.lb, .int .i64 q.lc, .int .i64 q.wl, .int .i64 q.lv] 95 (0, 0))) := Lib.hid (heap_at _ rfl)
        have HB2 := Lib.hid (bstep HBW.out (below_alloc wo (.cells #[.int .i64 q.id, .int .i64 q.pr, .int .i64 q.nn, .int .i64 q.na, .int .i64 q.nb, .int .i64 q.nc, .int .i64 q.la, .int .i64 q.lb, .int .i64 q.lc, .int .i64 q.wl, .int .i64 q.lv] 95)))
        go_upto_region 4 with fail
        generalize wo.alloc (.cells #[.int .i64 q.id, .int .i64 q.pr, .int .i64 q.nn, .int .i64 q.na, .int .i64 q.nb, .int .i64 q.nc, .int .i64 q.la, .int .i64 q.lb, .int .i64 q.lc, .int .i64 q.wl, .int .i64 q.lv] 95) = w4 at *
        generalize wo.heap.size = b4 at *
        clear d0 d1 d2 d3 d4 d5 d6 d7 d8 d9 d10
        have y0 := bx_cell HQ2.out 0 rfl
        have y1 := bx_cell HQ2.out 1 rfl
        have y2 := bx_cell HQ2.out 2 rfl
        have y3 := bx_cell HQ2.out 3 rfl
        have y4 := bx_cell HQ2.out 4 rfl
        have y5 := bx_cell HQ2.out 5 rfl
        have y6 := bx_cell HQ2.out 6 rfl
        have y7 := bx_cell HQ2.out 7 rfl
        have y8 := bx_cell HQ2.out 8 rfl
        have y9 := bx_cell HQ2.out 9 rfl
        have y10 := bx_cell HQ2.out 10 rfl
        have yf := bx_frz HQ2.out
        have yl := heap_lt HQ2.out
        simp only [List.getElem_toArray, List.getElem_cons_zero, List.getElem_cons_succ] at y0 y1 y2 y3 y4 y5 y6 y7 y8 y9 y10
        have z0 := bx_cell HZ2.out 0 rfl
        have z1 := bx_cell HZ2.out 1 rfl
        have z2 := bx_cell HZ2.out 2 rfl
        have z3 := bx_cell HZ2.out 3 rfl
        have z4 := bx_cell HZ2.out 4 rfl
        have z5 := bx_cell HZ2.out 5 rfl
        have z6 := bx_cell HZ2.out 6 rfl
        have z7 := bx_cell HZ2.out 7 rfl
        have z8 := bx_cell HZ2.out 8 rfl
        have z9 := bx_cell HZ2.out 9 rfl
        have z10 := bx_cell HZ2.out 10 rfl
        have zf := bx_frz HZ2.out
        have zl := heap_lt HZ2.out
        simp only [List.getElem_toArray, List.getElem_cons_zero, List.getElem_cons_succ] at z0 z1 z2 z3 z4 z5 z6 z7 z8 z9 z10
        go_wp2
        (try go_light)
        refine bodyPost_ret (v := .tuple #[.agg #[.int .i64 q.id, .int .i64 q.pr, .int .i64 q.nn, .int .i64 q.na, .int .i64 q.nb, .int .i64 q.nc, .int .i64 q.la, .int .i64 q.lb, .int .i64 q.lc, .int .i64 q.wl, .int .i64 q.lv], .bool true]) (by simp [results, Tryz.results71, go_sem, *]) rfl ?_
        rw [HF.out]
        exact ⟨q, rfl, rfl, (Below.setCell (Below.setCell (Below.setCell (Below.setCell (Below.setCell (Below.setCell (Below.setCell (Below.setCell (Below.setCell (Below.setCell (Below.setCell HB2.out (p := ⟨w.heap.size, 0, none⟩) (Nat.le_refl _) _) (p := ⟨w.heap.size, 1, none⟩) (Nat.le_refl _) _) (p := ⟨w.heap.size, 2, none⟩) (Nat.le_refl _) _) (p := ⟨w.heap.size, 3, none⟩) (Nat.le_refl _) _) (p := ⟨w.heap.size, 4, none⟩) (Nat.le_refl _) _) (p := ⟨w.heap.size, 5, none⟩) (Nat.le_refl _) _) (p := ⟨w.heap.size, 6, none⟩) (Nat.le_refl _) _) (p := ⟨w.heap.size, 7, none⟩) (Nat.le_refl _) _) (p := ⟨w.heap.size, 8, none⟩) (Nat.le_refl _) _) (p := ⟨w.heap.size, 9, none⟩) (Nat.le_refl _) _) (p := ⟨w.heap.size, 10, none⟩) (Nat.le_refl _) _)⟩
      · have HNO := Lib.hid (show ∀ i x, i < k + 1 → js[i]? = some x → x.id ≠ id from fun i x hi hx => by
          by_cases hik : i < k
          · exact hno.out i x hik hx
          · obtain rfl : i = k := by omega
            rw [HQ.out] at hx
            obtain rfl := Option.some.inj hx
            exact he)
        have HZ2 := Lib.hid (bx_alloc HZ.out (.cells #[.int .i64 q.id, .int .i64 q.pr, .int .i64 q.nn, .int .i64 q.na, .int .i64 q.nb, .int .i64 q.nc, .int .i64 q.la, .int .i64 q.lb, .int .i64 q.lc, .int .i64 q.wl, .int .i64 q.lv] 95))
        go_wp2
        exact ⟨⟨k + 1, by omega, by go_num, bstep HBW.out (below_alloc _ _), HZ2.out, HNO⟩, by simp [intOf]; omega⟩
    · have hlt' : ¬ (k : Int) < n := by omega
      obtain rfl : k = n := by omega
      have HF := Lib.hid (find_no HPL.out hno.out)
      have z0 := bx_cell HZ.out 0 rfl
      have z1 := bx_cell HZ.out 1 rfl
      have z2 := bx_cell HZ.out 2 rfl
      have z3 := bx_cell HZ.out 3 rfl
      have z4 := bx_cell HZ.out 4 rfl
      have z5 := bx_cell HZ.out 5 rfl
      have z6 := bx_cell HZ.out 6 rfl
      have z7 := bx_cell HZ.out 7 rfl
      have z8 := bx_cell HZ.out 8 rfl
      have z9 := bx_cell HZ.out 9 rfl
      have z10 := bx_cell HZ.out 10 rfl
      have zf := bx_frz HZ.out
      have zl := heap_lt HZ.out
      simp only [List.getElem_toArray, List.getElem_cons_zero, List.getElem_cons_succ] at z0 z1 z2 z3 z4 z5 z6 z7 z8 z9 z10
      clear hbw hz
      go_wp2
      (try go_light)
      refine bodyPost_ret (v := .tuple #[.agg #[.int .i64 zJ.id, .int .i64 zJ.pr, .int .i64 zJ.nn, .int .i64 zJ.na, .int .i64 zJ.nb, .int .i64 zJ.nc, .int .i64 zJ.la, .int .i64 zJ.lb, .int .i64 zJ.lc, .int .i64 zJ.wl, .int .i64 zJ.lv], .bool false]) (by simp [results, Tryz.results71, go_sem, zJ, *]) rfl ?_
      rw [HF.out]
      exact ⟨zJ, rfl, rfl, (Below.setCell (Below.setCell (Below.setCell (Below.setCell (Below.setCell (Below.setCell (Below.setCell (Below.setCell (Below.setCell (Below.setCell (Below.setCell HBW.out (p := ⟨w.heap.size, 0, none⟩) (Nat.le_refl _) _) (p := ⟨w.heap.size, 1, none⟩) (Nat.le_refl _) _) (p := ⟨w.heap.size, 2, none⟩) (Nat.le_refl _) _) (p := ⟨w.heap.size, 3, none⟩) (Nat.le_refl _) _) (p := ⟨w.heap.size, 4, none⟩) (Nat.le_refl _) _) (p := ⟨w.heap.size, 5, none⟩) (Nat.le_refl _) _) (p := ⟨w.heap.size, 6, none⟩) (Nat.le_refl _) _) (p := ⟨w.heap.size, 7, none⟩) (Nat.le_refl _) _) (p := ⟨w.heap.size, 8, none⟩) (Nat.le_refl _) _) (p := ⟨w.heap.size, 9, none⟩) (Nat.le_refl _) _) (p := ⟨w.heap.size, 10, none⟩) (Nat.le_refl _) _)⟩
end Go.Proofs.YtnphjhbfpoekpaaGreat
