import Derived.Test.YtnphjhbfpoekpaaGreatA14Ph
import Derived.Test.YtnphjhbfpoekpaaGreatA24Ph
import Derived.Test.YtnphjhbfpoekpaaGreatA7Ph
namespace Go.Proofs.YtnphjhbfpoekpaaGreat
set_option linter.unusedSimpArgs false
set_option linter.unusedVariables false
set_option linter.unnecessarySimpa false
open Go.RowKit
theorem cur11 {w wr : World} {g : Nat} (h : Cur wr g) (hg : g < w.heap.size) (v0 v1 v2 v3 v4 v5 v6 v7 v8 v9 v10 : Value) : Cur (((((((((((wr.setCell ⟨w.heap.size, 0, none⟩ v0).setCell ⟨w.heap.size, 1, none⟩ v1).setCell ⟨w.heap.size, 2, none⟩ v2).setCell ⟨w.heap.size, 3, none⟩ v3).setCell ⟨w.heap.size, 4, none⟩ v4).setCell ⟨w.heap.size, 5, none⟩ v5).setCell ⟨w.heap.size, 6, none⟩ v6).setCell ⟨w.heap.size, 7, none⟩ v7).setCell ⟨w.heap.size, 8, none⟩ v8).setCell ⟨w.heap.size, 9, none⟩ v9).setCell ⟨w.heap.size, 10, none⟩ v10) g := (((((((((((h.set (p := ⟨w.heap.size, 0, none⟩) hg _).set (p := ⟨w.heap.size, 1, none⟩) hg _).set (p := ⟨w.heap.size, 2, none⟩) hg _).set (p := ⟨w.heap.size, 3, none⟩) hg _).set (p := ⟨w.heap.size, 4, none⟩) hg _).set (p := ⟨w.heap.size, 5, none⟩) hg _).set (p := ⟨w.heap.size, 6, none⟩) hg _).set (p := ⟨w.heap.size, 7, none⟩) hg _).set (p := ⟨w.heap.size, 8, none⟩) hg _).set (p := ⟨w.heap.size, 9, none⟩) hg _).set (p := ⟨w.heap.size, 10, none⟩) hg _)
theorem fr11 {w wr : World} {g : Nat} (h : Fr (· = g) w wr) (v0 v1 v2 v3 v4 v5 v6 v7 v8 v9 v10 : Value) : Fr (· = g) w (((((((((((wr.setCell ⟨w.heap.size, 0, none⟩ v0).setCell ⟨w.heap.size, 1, none⟩ v1).setCell ⟨w.heap.size, 2, none⟩ v2).setCell ⟨w.heap.size, 3, none⟩ v3).setCell ⟨w.heap.size, 4, none⟩ v4).setCell ⟨w.heap.size, 5, none⟩ v5).setCell ⟨w.heap.size, 6, none⟩ v6).setCell ⟨w.heap.size, 7, none⟩ v7).setCell ⟨w.heap.size, 8, none⟩ v8).setCell ⟨w.heap.size, 9, none⟩ v9).setCell ⟨w.heap.size, 10, none⟩ v10) := (((((((((((h.setCell (p := ⟨w.heap.size, 0, none⟩) (Or.inr (Nat.le_refl _)) _).setCell (p := ⟨w.heap.size, 1, none⟩) (Or.inr (Nat.le_refl _)) _).setCell (p := ⟨w.heap.size, 2, none⟩) (Or.inr (Nat.le_refl _)) _).setCell (p := ⟨w.heap.size, 3, none⟩) (Or.inr (Nat.le_refl _)) _).setCell (p := ⟨w.heap.size, 4, none⟩) (Or.inr (Nat.le_refl _)) _).setCell (p := ⟨w.heap.size, 5, none⟩) (Or.inr (Nat.le_refl _)) _).setCell (p := ⟨w.heap.size, 6, none⟩) (Or.inr (Nat.le_refl _)) _).setCell (p := ⟨w.heap.size, 7, none⟩) (Or.inr (Nat.le_refl _)) _).setCell (p := ⟨w.heap.size, 8, none⟩) (Or.inr (Nat.le_refl _)) _).setCell (p := ⟨w.heap.size, 9, none⟩) (Or.inr (Nat.le_refl _)) _).setCell (p := ⟨w.heap.size, 10, none⟩) (Or.inr (Nat.le_refl _)) _)
set_option maxHeartbeats 8000000 in
set_option maxRecDepth 20000 in
theorem cur_job (g : Nat) (w : World) (h : Cur w g) :
  Calls Tryz.prog 216 #[.pointer (some ⟨g, 0, none⟩)] w fun e w' => ∃ j : J, e = .returned (.agg #[.int .i64 j.id, .int .i64 j.pr, .int .i64 j.nn, .int .i64 j.na, .int .i64 j.nb, .int .i64 j.nc, .int .i64 j.la, .int .i64 j.lb, .int .i64 j.lc, .int .i64 j.wl, .int .i64 j.lv]) ∧ Cur w' g ∧ Fr (· = g) w w' := by
 have hgw := h.lt
 have C0 := Lib.hid (h.alloc (.cells #[.int .i64 0, .int .i64 0, .int .i64 0, .int .i64 0, .int .i64 0, .int .i64 0, .int .i64 0, .int .i64 0, .int .i64 0, .int .i64 0, .int .i64 0] 95))
 have F0 := Lib.hid ((Fr.refl (· = g) w).alloc (.cells #[.int .i64 0, .int .i64 0, .int .i64 0, .int .i64 0, .int .i64 0, .int .i64 0, .int .i64 0, .int .i64 0, .int .i64 0, .int .i64 0, .int .i64 0] 95))
 have XR0 : Hid ((w.alloc (.cells #[.int .i64 0, .int .i64 0, .int .i64 0, .int .i64 0, .int .i64 0, .int .i64 0, .int .i64 0, .int .i64 0, .int .i64 0, .int .i64 0, .int .i64 0] 95)).heap[w.heap.size]? = some (.cells #[.int .i64 0, .int .i64 0, .int .i64 0, .int .i64 0, .int .i64 0, .int .i64 0, .int .i64 0, .int .i64 0, .int .i64 0, .int .i64 0, .int .i64 0] 95 (0, 0))) := Lib.hid (zAj _ rfl)
 clear h
 go_enter Tryz.func216, Tryz.ntmps216
 go_wp2_with fail
 refine (zAt g 30 _ C0.out (by omega) (by omega)).mono ?_
 rintro e w1 ⟨x1, rfl, p1, q1, cu1, fr1⟩
 have C1 := Lib.hid cu1
 have F1 := Lib.hid ((F0.out).trans fr1)
 have XR1 := Lib.hid (bx_fr (XR0.out) fr1 (by omega))
 clear cu1 fr1 C0 F0 XR0
 go_wp2_with fail
 refine (zAt g 5 _ C1.out (by omega) (by omega)).mono ?_
 rintro e w2 ⟨x2, rfl, p2, q2, cu2, fr2⟩
 have C2 := Lib.hid cu2
 have F2 := Lib.hid ((F1.out).trans fr2)
 have XR2 := Lib.hid (bx_fr (XR1.out) fr2 (by omega))
 clear cu2 fr2 C1 F1 XR1
 go_wp2_with fail
 refine (zAt g 3 _ C2.out (by omega) (by omega)).mono ?_
 rintro e w3 ⟨x3, rfl, p3, q3, cu3, fr3⟩
 have C3 := Lib.hid cu3
 have F3 := Lib.hid ((F2.out).trans fr3)
 have XR3 := Lib.hid (bx_fr (XR2.out) fr3 (by omega))
 clear cu3 fr3 C2 F2 XR2
 go_wp2_with fail
 refine (zAt g 5 _ C3.out (by omega) (by omega)).mono ?_
 rintro e w4 ⟨x4, rfl, p4, q4, cu4, fr4⟩
 have C4 := Lib.hid cu4
 have F4 := Lib.hid ((F3.out).trans fr4)
 have XR4 := Lib.hid (bx_fr (XR3.out) fr4 (by omega))
 clear cu4 fr4 C3 F3 XR3
 go_wp2_with fail
 refine (zAt g 9 _ C4.out (by omega) (by omega)).mono ?_
 rintro e w5 ⟨x5, rfl, p5, q5, cu5, fr5⟩
 have C5 := Lib.hid cu5
 have F5 := Lib.hid ((F4.out).trans fr5)
 have XR5 := Lib.hid (bx_fr (XR4.out) fr5 (by omega))
 clear cu5 fr5 C4 F4 XR4
 go_wp2_with fail
 refine (zAt g 4 _ C5.out (by omega) (by omega)).mono ?_
 rintro e w6 ⟨x6, rfl, p6, q6, cu6, fr6⟩
 have C6 := Lib.hid cu6
 have F6 := Lib.hid ((F5.out).trans fr6)
 have XR6 := Lib.hid (bx_fr (XR5.out) fr6 (by omega))
 clear cu6 fr6 C5 F5 XR5
 go_wp2_with fail
 refine (zAt g 20 _ C6.out (by omega) (by omega)).mono ?_
 rintro e w7 ⟨x7, rfl, p7, q7, cu7, fr7⟩
 have C7 := Lib.hid cu7
 have F7 := Lib.hid ((F6.out).trans fr7)
 have XR7 := Lib.hid (bx_fr (XR6.out) fr7 (by omega))
 clear cu7 fr7 C6 F6 XR6
 go_wp2_with fail
 refine (zAt g 3 _ C7.out (by omega) (by omega)).mono ?_
 rintro e w8 ⟨x8, rfl, p8, q8, cu8, fr8⟩
 have C8 := Lib.hid cu8
 have F8 := Lib.hid ((F7.out).trans fr8)
 have XR8 := Lib.hid (bx_fr (XR7.out) fr8 (by omega))
 clear cu8 fr8 C7 F7 XR7
 have e6 : x6.tdiv 3 = x6 / 3 := Int.tdiv_eq_ediv_of_nonneg p6
 have d6 : 0 ≤ x6 / 3 := by omega
 have h8 := zAg XR8.out
 go_wp2_with fail
 refine (zAt g 3 _ (C8.out.alloc _) (by omega) (by omega)).mono ?_
 rintro e w9 ⟨x9, rfl, p9, q9, cu9, fr9⟩
 have C9 := Lib.hid cu9
 have F9 := Lib.hid ((F8.out.alloc _).trans fr9)
 have XR9 := Lib.hid (bx_fr (zAs XR8.out _) fr9 (by omega))
 have XB9 := Lib.hid (bx_fr ((zAj _ rfl : (w8.alloc (.cells #[.int .i64 (1 + x1), .int .i64 (x2), .int .i64 (1 + x3), .int .i64 (1 + x4), .int .i64 (x5), .int .i64 (x6 / 3), .int .i64 (0), .int .i64 (0), .int .i64 (0), .int .i64 (1 + x7), .int .i64 (x8)] 95 (0, 0))).heap[w8.heap.size]? = some (.cells #[.int .i64 (1 + x1), .int .i64 (x2), .int .i64 (1 + x3), .int .i64 (1 + x4), .int .i64 (x5), .int .i64 (x6 / 3), .int .i64 (0), .int .i64 (0), .int .i64 (0), .int .i64 (1 + x7), .int .i64 (x8)] 95 (0, 0)))) fr9 (by omega))
 clear cu9 fr9 C8 F8 XR8
 by_cases h9 : x9 = 0
 ·subst h9
  go_wp2_with fail
  refine (zAt g 3 _ C9.out (by omega) (by omega)).mono ?_
  rintro e w10 ⟨x10, rfl, p10, q10, cu10, fr10⟩
  have C10 := Lib.hid cu10
  have F10 := Lib.hid ((F9.out).trans fr10)
  have XR10 := Lib.hid (bx_fr (XR9.out) fr10 (by omega))
  have XB10 := Lib.hid (bx_fr (XB9.out) fr10 (by omega))
  clear cu10 fr10 C9 F9 XR9 XB9
  go_wp2_with fail
  refine (zAt g 2 _ C10.out (by omega) (by omega)).mono ?_
  rintro e w11 ⟨x11, rfl, p11, q11, cu11, fr11⟩
  have C11 := Lib.hid cu11
  have F11 := Lib.hid ((F10.out).trans fr11)
  have XR11 := Lib.hid (bx_fr (XR10.out) fr11 (by omega))
  have XB11 := Lib.hid (bx_fr (XB10.out) fr11 (by omega))
  clear cu11 fr11 C10 F10 XR10 XB10
  have hlb := zAg XB11.out
  have bf := zAh XB11.out
  have c6 := zAb XB11.out 6 rfl
  have c7 := zAb XB11.out 7 rfl
  have c8 := zAb XB11.out 8 rfl
  simp only [zgc, zga, zgb] at c6 c7 c8
  have XBs : Hid ((((w11.setCell ⟨w8.heap.size, 6, none⟩ (.int .i64 x10)).setCell ⟨w8.heap.size, 7, none⟩ (.int .i64 x11)).setCell ⟨w8.heap.size, 8, none⟩ (.int .i64 0)).heap[w8.heap.size]? = some (.cells #[.int .i64 (1 + x1), .int .i64 (x2), .int .i64 (1 + x3), .int .i64 (1 + x4), .int .i64 (x5), .int .i64 (x6 / 3), .int .i64 (x10), .int .i64 (x11), .int .i64 (0), .int .i64 (1 + x7), .int .i64 (x8)] 95 (0, 0))) := Lib.hid (by simpa using (heap_set (i := 8) (v := .int .i64 0) (heap_set (i := 7) (v := .int .i64 x11) (heap_set (i := 6) (v := .int .i64 x10) XB11.out))))
  have XRs := Lib.hid (bx_set (bx_set (bx_set XR11.out (a := ⟨w8.heap.size, 6, none⟩) (by show w.heap.size ≠ w8.heap.size; omega) (.int .i64 x10)) (a := ⟨w8.heap.size, 7, none⟩) (by show w.heap.size ≠ w8.heap.size; omega) (.int .i64 x11)) (a := ⟨w8.heap.size, 8, none⟩) (by show w.heap.size ≠ w8.heap.size; omega) (.int .i64 0))
  have Cs := Lib.hid (((C11.out.set (p := ⟨w8.heap.size, 6, none⟩) (by show g < w8.heap.size; omega) (.int .i64 x10)).set (p := ⟨w8.heap.size, 7, none⟩) (by show g < w8.heap.size; omega) (.int .i64 x11)).set (p := ⟨w8.heap.size, 8, none⟩) (by show g < w8.heap.size; omega) (.int .i64 0))
  have Fs := Lib.hid (((F11.out.setCell (p := ⟨w8.heap.size, 6, none⟩) (Or.inr (by show w.heap.size ≤ w8.heap.size; omega)) (.int .i64 x10)).setCell (p := ⟨w8.heap.size, 7, none⟩) (Or.inr (by show w.heap.size ≤ w8.heap.size; omega)) (.int .i64 x11)).setCell (p := ⟨w8.heap.size, 8, none⟩) (Or.inr (by show w.heap.size ≤ w8.heap.size; omega)) (.int .i64 0))
  go_upto_region 4 with fail
  clear c6 c7 c8 bf hlb
  clear XB11 XR11 C11 F11
  generalize (((w11.setCell ⟨w8.heap.size, 6, none⟩ (.int .i64 x10)).setCell ⟨w8.heap.size, 7, none⟩ (.int .i64 x11)).setCell ⟨w8.heap.size, 8, none⟩ (.int .i64 0)) = ws at *
  have hlb := zAg XBs.out
  have hlr := zAg XRs.out
  have zf := zAh XRs.out
  have c0 := zAb (XBs.out) 0 rfl
  have z0 := zAb (XRs.out) 0 rfl
  have c1 := zAb (XBs.out) 1 rfl
  have z1 := zAb (XRs.out) 1 rfl
  have c2 := zAb (XBs.out) 2 rfl
  have z2 := zAb (XRs.out) 2 rfl
  have c3 := zAb (XBs.out) 3 rfl
  have z3 := zAb (XRs.out) 3 rfl
  have c4 := zAb (XBs.out) 4 rfl
  have z4 := zAb (XRs.out) 4 rfl
  have c5 := zAb (XBs.out) 5 rfl
  have z5 := zAb (XRs.out) 5 rfl
  have c6 := zAb (XBs.out) 6 rfl
  have z6 := zAb (XRs.out) 6 rfl
  have c7 := zAb (XBs.out) 7 rfl
  have z7 := zAb (XRs.out) 7 rfl
  have c8 := zAb (XBs.out) 8 rfl
  have z8 := zAb (XRs.out) 8 rfl
  have c9 := zAb (XBs.out) 9 rfl
  have z9 := zAb (XRs.out) 9 rfl
  have c10 := zAb (XBs.out) 10 rfl
  have z10 := zAb (XRs.out) 10 rfl
  simp only [zgc, zga, zgb] at c0 z0 c1 z1 c2 z2 c3 z3 c4 z4 c5 z5 c6 z6 c7 z7 c8 z8 c9 z9 c10 z10
  go_wp2
  (try go_light)
  refine bodyPost_ret (v := .agg #[.int .i64 (1 + x1), .int .i64 (x2), .int .i64 (1 + x3), .int .i64 (1 + x4), .int .i64 (x5), .int .i64 (x6 / 3), .int .i64 (x10), .int .i64 (x11), .int .i64 (0), .int .i64 (1 + x7), .int .i64 (x8)]) (by simp [results, Tryz.results216, go_sem, *]) rfl ?_
  exact ⟨⟨1 + x1, x2, 1 + x3, 1 + x4, x5, x6 / 3, x10, x11, 0, 1 + x7, x8⟩, rfl, cur11 Cs.out hgw _ _ _ _ _ _ _ _ _ _ _, fr11 Fs.out _ _ _ _ _ _ _ _ _ _ _⟩
 ·skip
  have hlb := zAg XB9.out
  have hlr := zAg XR9.out
  have zf := zAh XR9.out
  have c0 := zAb (XB9.out) 0 rfl
  have z0 := zAb (XR9.out) 0 rfl
  have c1 := zAb (XB9.out) 1 rfl
  have z1 := zAb (XR9.out) 1 rfl
  have c2 := zAb (XB9.out) 2 rfl
  have z2 := zAb (XR9.out) 2 rfl
  have c3 := zAb (XB9.out) 3 rfl
  have z3 := zAb (XR9.out) 3 rfl
  have c4 := zAb (XB9.out) 4 rfl
  have z4 := zAb (XR9.out) 4 rfl
  have c5 := zAb (XB9.out) 5 rfl
  have z5 := zAb (XR9.out) 5 rfl
  have c6 := zAb (XB9.out) 6 rfl
  have z6 := zAb (XR9.out) 6 rfl
  have c7 := zAb (XB9.out) 7 rfl
  have z7 := zAb (XR9.out) 7 rfl
  have c8 := zAb (XB9.out) 8 rfl
  have z8 := zAb (XR9.out) 8 rfl
  have c9 := zAb (XB9.out) 9 rfl
  have z9 := zAb (XR9.out) 9 rfl
  have c10 := zAb (XB9.out) 10 rfl
  have z10 := zAb (XR9.out) 10 rfl
  simp only [zgc, zga, zgb] at c0 z0 c1 z1 c2 z2 c3 z3 c4 z4 c5 z5 c6 z6 c7 z7 c8 z8 c9 z9 c10 z10
  go_wp2
  (try go_light)
  refine bodyPost_ret (v := .agg #[.int .i64 (1 + x1), .int .i64 (x2), .int .i64 (1 + x3), .int .i64 (1 + x4), .int .i64 (x5), .int .i64 (x6 / 3), .int .i64 (0), .int .i64 (0), .int .i64 (0), .int .i64 (1 + x7), .int .i64 (x8)]) (by simp [results, Tryz.results216, go_sem, *]) rfl ?_
  exact ⟨⟨1 + x1, x2, 1 + x3, 1 + x4, x5, x6 / 3, 0, 0, 0, 1 + x7, x8⟩, rfl, cur11 C9.out hgw _ _ _ _ _ _ _ _ _ _ _, fr11 F9.out _ _ _ _ _ _ _ _ _ _ _⟩
set_option maxHeartbeats 8000000 in
set_option maxRecDepth 20000 in
theorem cur_anyJob (g : Nat) (w : World) (h : Cur w g) :
  Calls Tryz.prog 193 #[.pointer (some ⟨g, 0, none⟩)] w fun e w' => ∃ j : J, e = .returned (.agg #[.int .i64 j.id, .int .i64 j.pr, .int .i64 j.nn, .int .i64 j.na, .int .i64 j.nb, .int .i64 j.nc, .int .i64 j.la, .int .i64 j.lb, .int .i64 j.lc, .int .i64 j.wl, .int .i64 j.lv]) ∧ Cur w' g ∧ Fr (· = g) w w' := by
 have hgw := h.lt
 have C0 := Lib.hid (h.alloc (.cells #[.int .i64 0, .int .i64 0, .int .i64 0, .int .i64 0, .int .i64 0, .int .i64 0, .int .i64 0, .int .i64 0, .int .i64 0, .int .i64 0, .int .i64 0] 95))
 have F0 := Lib.hid ((Fr.refl (· = g) w).alloc (.cells #[.int .i64 0, .int .i64 0, .int .i64 0, .int .i64 0, .int .i64 0, .int .i64 0, .int .i64 0, .int .i64 0, .int .i64 0, .int .i64 0, .int .i64 0] 95))
 have XR0 : Hid ((w.alloc (.cells #[.int .i64 0, .int .i64 0, .int .i64 0, .int .i64 0, .int .i64 0, .int .i64 0, .int .i64 0, .int .i64 0, .int .i64 0, .int .i64 0, .int .i64 0] 95)).heap[w.heap.size]? = some (.cells #[.int .i64 0, .int .i64 0, .int .i64 0, .int .i64 0, .int .i64 0, .int .i64 0, .int .i64 0, .int .i64 0, .int .i64 0, .int .i64 0, .int .i64 0] 95 (0, 0))) := Lib.hid (zAj _ rfl)
 clear h
 go_enter Tryz.func193, Tryz.ntmps193
 go_wp2_with fail
 refine (cur_job g _ C0.out).mono ?_
 rintro e w1 ⟨j, rfl, cu1, fr1⟩
 have C1 := Lib.hid cu1
 have F1 := Lib.hid ((F0.out).trans fr1)
 have XR1 := Lib.hid (bx_fr (XR0.out) fr1 (by omega))
 clear cu1 fr1 C0 F0 XR0
 have h8 := zAg XR1.out
 go_wp2_with fail
 refine (zAt g 16 _ (C1.out.alloc _) (by omega) (by omega)).mono ?_
 rintro e w2 ⟨x2, rfl, p2, q2, cu2, fr2⟩
 have C2 := Lib.hid cu2
 have F2 := Lib.hid ((F1.out.alloc _).trans fr2)
 have XR2 := Lib.hid (bx_fr (zAs XR1.out _) fr2 (by omega))
 have XB2 := Lib.hid (bx_fr ((zAj _ rfl : (w1.alloc (.cells #[.int .i64 (j.id), .int .i64 (j.pr), .int .i64 (j.nn), .int .i64 (j.na), .int .i64 (j.nb), .int .i64 (j.nc), .int .i64 (j.la), .int .i64 (j.lb), .int .i64 (j.lc), .int .i64 (j.wl), .int .i64 (j.lv)] 95 (0, 0))).heap[w1.heap.size]? = some (.cells #[.int .i64 (j.id), .int .i64 (j.pr), .int .i64 (j.nn), .int .i64 (j.na), .int .i64 (j.nb), .int .i64 (j.nc), .int .i64 (j.la), .int .i64 (j.lb), .int .i64 (j.lc), .int .i64 (j.wl), .int .i64 (j.lv)] 95 (0, 0)))) fr2 (by omega))
 clear cu2 fr2 C1 F1 XR1
 by_cases h0 : x2 = 0
 ·subst h0
  go_wp2_with fail
  refine (cur_raw g _ C2.out).mono ?_
  rintro e w3 ⟨a3, rfl, i3, cu3, fr3⟩
  have C3 := Lib.hid cu3
  have F3 := Lib.hid ((F2.out).trans fr3)
  have XR3 := Lib.hid (bx_fr (XR2.out) fr3 (by omega))
  have XB3 := Lib.hid (bx_fr (XB2.out) fr3 (by omega))
  clear cu3 fr3 C2 F2 XR2 XB2
  have hlb := zAg XB3.out
  have bf := zAh XB3.out
  have c0 := zAb XB3.out 0 rfl
  simp only [zgc, zga, zgb] at c0
  have XBs : Hid ((w3.setCell ⟨w1.heap.size, 0, none⟩ (.int .i64 a3)).heap[w1.heap.size]? = some (.cells #[.int .i64 (a3), .int .i64 (j.pr), .int .i64 (j.nn), .int .i64 (j.na), .int .i64 (j.nb), .int .i64 (j.nc), .int .i64 (j.la), .int .i64 (j.lb), .int .i64 (j.lc), .int .i64 (j.wl), .int .i64 (j.lv)] 95 (0, 0))) := Lib.hid (by simpa using (heap_set (i := 0) (v := .int .i64 a3) XB3.out))
  have XRs := Lib.hid (bx_set XR3.out (a := ⟨w1.heap.size, 0, none⟩) (by show w.heap.size ≠ w1.heap.size; omega) (.int .i64 a3))
  have Cs := Lib.hid (C3.out.set (p := ⟨w1.heap.size, 0, none⟩) (by show g < w1.heap.size; omega) (.int .i64 a3))
  have Fs := Lib.hid (F3.out.setCell (p := ⟨w1.heap.size, 0, none⟩) (Or.inr (by show w.heap.size ≤ w1.heap.size; omega)) (.int .i64 a3))
  go_upto_region 5 with fail
  clear c0 bf hlb
  clear XB3 XR3 C3 F3
  generalize (w3.setCell ⟨w1.heap.size, 0, none⟩ (.int .i64 a3)) = ws at *
  have hlb := zAg XBs.out
  have hlr := zAg XRs.out
  have zf := zAh XRs.out
  have c0 := zAb (XBs.out) 0 rfl
  have z0 := zAb (XRs.out) 0 rfl
  have c1 := zAb (XBs.out) 1 rfl
  have z1 := zAb (XRs.out) 1 rfl
  have c2 := zAb (XBs.out) 2 rfl
  have z2 := zAb (XRs.out) 2 rfl
  have c3 := zAb (XBs.out) 3 rfl
  have z3 := zAb (XRs.out) 3 rfl
  have c4 := zAb (XBs.out) 4 rfl
  have z4 := zAb (XRs.out) 4 rfl
  have c5 := zAb (XBs.out) 5 rfl
  have z5 := zAb (XRs.out) 5 rfl
  have c6 := zAb (XBs.out) 6 rfl
  have z6 := zAb (XRs.out) 6 rfl
  have c7 := zAb (XBs.out) 7 rfl
  have z7 := zAb (XRs.out) 7 rfl
  have c8 := zAb (XBs.out) 8 rfl
  have z8 := zAb (XRs.out) 8 rfl
  have c9 := zAb (XBs.out) 9 rfl
  have z9 := zAb (XRs.out) 9 rfl
  have c10 := zAb (XBs.out) 10 rfl
  have z10 := zAb (XRs.out) 10 rfl
  simp only [zgc, zga, zgb] at c0 z0 c1 z1 c2 z2 c3 z3 c4 z4 c5 z5 c6 z6 c7 z7 c8 z8 c9 z9 c10 z10
  go_wp2
  (try go_light)
  refine bodyPost_ret (v := .agg #[.int .i64 (a3), .int .i64 (j.pr), .int .i64 (j.nn), .int .i64 (j.na), .int .i64 (j.nb), .int .i64 (j.nc), .int .i64 (j.la), .int .i64 (j.lb), .int .i64 (j.lc), .int .i64 (j.wl), .int .i64 (j.lv)]) (by simp [results, Tryz.results193, go_sem, *]) rfl ?_
  exact ⟨⟨a3, j.pr, j.nn, j.na, j.nb, j.nc, j.la, j.lb, j.lc, j.wl, j.lv⟩, rfl, cur11 Cs.out hgw _ _ _ _ _ _ _ _ _ _ _, fr11 Fs.out _ _ _ _ _ _ _ _ _ _ _⟩
 by_cases h1 : x2 = 1
 ·subst h1
  go_wp2_with fail
  refine (cur_raw g _ C2.out).mono ?_
  rintro e w3 ⟨a3, rfl, i3, cu3, fr3⟩
  have C3 := Lib.hid cu3
  have F3 := Lib.hid ((F2.out).trans fr3)
  have XR3 := Lib.hid (bx_fr (XR2.out) fr3 (by omega))
  have XB3 := Lib.hid (bx_fr (XB2.out) fr3 (by omega))
  clear cu3 fr3 C2 F2 XR2 XB2
  have hlb := zAg XB3.out
  have bf := zAh XB3.out
  have c2 := zAb XB3.out 2 rfl
  simp only [zgc, zga, zgb] at c2
  have XBs : Hid ((w3.setCell ⟨w1.heap.size, 2, none⟩ (.int .i64 a3)).heap[w1.heap.size]? = some (.cells #[.int .i64 (j.id), .int .i64 (j.pr), .int .i64 (a3), .int .i64 (j.na), .int .i64 (j.nb), .int .i64 (j.nc), .int .i64 (j.la), .int .i64 (j.lb), .int .i64 (j.lc), .int .i64 (j.wl), .int .i64 (j.lv)] 95 (0, 0))) := Lib.hid (by simpa using (heap_set (i := 2) (v := .int .i64 a3) XB3.out))
  have XRs := Lib.hid (bx_set XR3.out (a := ⟨w1.heap.size, 2, none⟩) (by show w.heap.size ≠ w1.heap.size; omega) (.int .i64 a3))
  have Cs := Lib.hid (C3.out.set (p := ⟨w1.heap.size, 2, none⟩) (by show g < w1.heap.size; omega) (.int .i64 a3))
  have Fs := Lib.hid (F3.out.setCell (p := ⟨w1.heap.size, 2, none⟩) (Or.inr (by show w.heap.size ≤ w1.heap.size; omega)) (.int .i64 a3))
  go_upto_region 7 with fail
  clear c2 bf hlb
  clear XB3 XR3 C3 F3
  generalize (w3.setCell ⟨w1.heap.size, 2, none⟩ (.int .i64 a3)) = ws at *
  have hlb := zAg XBs.out
  have hlr := zAg XRs.out
  have zf := zAh XRs.out
  have c0 := zAb (XBs.out) 0 rfl
  have z0 := zAb (XRs.out) 0 rfl
  have c1 := zAb (XBs.out) 1 rfl
  have z1 := zAb (XRs.out) 1 rfl
  have c2 := zAb (XBs.out) 2 rfl
  have z2 := zAb (XRs.out) 2 rfl
  have c3 := zAb (XBs.out) 3 rfl
  have z3 := zAb (XRs.out) 3 rfl
  have c4 := zAb (XBs.out) 4 rfl
  have z4 := zAb (XRs.out) 4 rfl
  have c5 := zAb (XBs.out) 5 rfl
  have z5 := zAb (XRs.out) 5 rfl
  have c6 := zAb (XBs.out) 6 rfl
  have z6 := zAb (XRs.out) 6 rfl
  have c7 := zAb (XBs.out) 7 rfl
  have z7 := zAb (XRs.out) 7 rfl
  have c8 := zAb (XBs.out) 8 rfl
  have z8 := zAb (XRs.out) 8 rfl
  have c9 := zAb (XBs.out) 9 rfl
  have z9 := zAb (XRs.out) 9 rfl
  have c10 := zAb (XBs.out) 10 rfl
  have z10 := zAb (XRs.out) 10 rfl
  simp only [zgc, zga, zgb] at c0 z0 c1 z1 c2 z2 c3 z3 c4 z4 c5 z5 c6 z6 c7 z7 c8 z8 c9 z9 c10 z10
  go_wp2
  (try go_light)
  refine bodyPost_ret (v := .agg #[.int .i64 (j.id), .int .i64 (j.pr), .int .i64 (a3), .int .i64 (j.na), .int .i64 (j.nb), .int .i64 (j.nc), .int .i64 (j.la), .int .i64 (j.lb), .int .i64 (j.lc), .int .i64 (j.wl), .int .i64 (j.lv)]) (by simp [results, Tryz.results193, go_sem, *]) rfl ?_
  exact ⟨⟨j.id, j.pr, a3, j.na, j.nb, j.nc, j.la, j.lb, j.lc, j.wl, j.lv⟩, rfl, cur11 Cs.out hgw _ _ _ _ _ _ _ _ _ _ _, fr11 Fs.out _ _ _ _ _ _ _ _ _ _ _⟩
 by_cases h2 : x2 = 2
 ·subst h2
  go_wp2_with fail
  refine (cur_any g _ C2.out).mono ?_
  rintro e w3 ⟨va, vb, vc, rfl, i3, i4, i5, cu3, fr3⟩
  have C3 := Lib.hid cu3
  have F3 := Lib.hid ((F2.out).trans fr3)
  have XR3 := Lib.hid (bx_fr (XR2.out) fr3 (by omega))
  have XB3 := Lib.hid (bx_fr (XB2.out) fr3 (by omega))
  clear cu3 fr3 C2 F2 XR2 XB2
  have hlb := zAg XB3.out
  have bf := zAh XB3.out
  have c3 := zAb XB3.out 3 rfl
  have c4 := zAb XB3.out 4 rfl
  have c5 := zAb XB3.out 5 rfl
  simp only [zgc, zga, zgb] at c3 c4 c5
  have XBs : Hid ((((w3.setCell ⟨w1.heap.size, 3, none⟩ (.int .i64 va)).setCell ⟨w1.heap.size, 4, none⟩ (.int .i64 vb)).setCell ⟨w1.heap.size, 5, none⟩ (.int .i64 vc)).heap[w1.heap.size]? = some (.cells #[.int .i64 (j.id), .int .i64 (j.pr), .int .i64 (j.nn), .int .i64 (va), .int .i64 (vb), .int .i64 (vc), .int .i64 (j.la), .int .i64 (j.lb), .int .i64 (j.lc), .int .i64 (j.wl), .int .i64 (j.lv)] 95 (0, 0))) := Lib.hid (by simpa using (heap_set (i := 5) (v := .int .i64 vc) (heap_set (i := 4) (v := .int .i64 vb) (heap_set (i := 3) (v := .int .i64 va) XB3.out))))
  have XRs := Lib.hid (bx_set (bx_set (bx_set XR3.out (a := ⟨w1.heap.size, 3, none⟩) (by show w.heap.size ≠ w1.heap.size; omega) (.int .i64 va)) (a := ⟨w1.heap.size, 4, none⟩) (by show w.heap.size ≠ w1.heap.size; omega) (.int .i64 vb)) (a := ⟨w1.heap.size, 5, none⟩) (by show w.heap.size ≠ w1.heap.size; omega) (.int .i64 vc))
  have Cs := Lib.hid (((C3.out.set (p := ⟨w1.heap.size, 3, none⟩) (by show g < w1.heap.size; omega) (.int .i64 va)).set (p := ⟨w1.heap.size, 4, none⟩) (by show g < w1.heap.size; omega) (.int .i64 vb)).set (p := ⟨w1.heap.size, 5, none⟩) (by show g < w1.heap.size; omega) (.int .i64 vc))
  have Fs := Lib.hid (((F3.out.setCell (p := ⟨w1.heap.size, 3, none⟩) (Or.inr (by show w.heap.size ≤ w1.heap.size; omega)) (.int .i64 va)).setCell (p := ⟨w1.heap.size, 4, none⟩) (Or.inr (by show w.heap.size ≤ w1.heap.size; omega)) (.int .i64 vb)).setCell (p := ⟨w1.heap.size, 5, none⟩) (Or.inr (by show w.heap.size ≤ w1.heap.size; omega)) (.int .i64 vc))
  go_upto_region 9 with fail
  clear c3 c4 c5 bf hlb
  clear XB3 XR3 C3 F3
  generalize (((w3.setCell ⟨w1.heap.size, 3, none⟩ (.int .i64 va)).setCell ⟨w1.heap.size, 4, none⟩ (.int .i64 vb)).setCell ⟨w1.heap.size, 5, none⟩ (.int .i64 vc)) = ws at *
  have hlb := zAg XBs.out
  have hlr := zAg XRs.out
  have zf := zAh XRs.out
  have c0 := zAb (XBs.out) 0 rfl
  have z0 := zAb (XRs.out) 0 rfl
  have c1 := zAb (XBs.out) 1 rfl
  have z1 := zAb (XRs.out) 1 rfl
  have c2 := zAb (XBs.out) 2 rfl
  have z2 := zAb (XRs.out) 2 rfl
  have c3 := zAb (XBs.out) 3 rfl
  have z3 := zAb (XRs.out) 3 rfl
  have c4 := zAb (XBs.out) 4 rfl
  have z4 := zAb (XRs.out) 4 rfl
  have c5 := zAb (XBs.out) 5 rfl
  have z5 := zAb (XRs.out) 5 rfl
  have c6 := zAb (XBs.out) 6 rfl
  have z6 := zAb (XRs.out) 6 rfl
  have c7 := zAb (XBs.out) 7 rfl
  have z7 := zAb (XRs.out) 7 rfl
  have c8 := zAb (XBs.out) 8 rfl
  have z8 := zAb (XRs.out) 8 rfl
  have c9 := zAb (XBs.out) 9 rfl
  have z9 := zAb (XRs.out) 9 rfl
  have c10 := zAb (XBs.out) 10 rfl
  have z10 := zAb (XRs.out) 10 rfl
  simp only [zgc, zga, zgb] at c0 z0 c1 z1 c2 z2 c3 z3 c4 z4 c5 z5 c6 z6 c7 z7 c8 z8 c9 z9 c10 z10
  go_wp2
  (try go_light)
  refine bodyPost_ret (v := .agg #[.int .i64 (j.id), .int .i64 (j.pr), .int .i64 (j.nn), .int .i64 (va), .int .i64 (vb), .int .i64 (vc), .int .i64 (j.la), .int .i64 (j.lb), .int .i64 (j.lc), .int .i64 (j.wl), .int .i64 (j.lv)]) (by simp [results, Tryz.results193, go_sem, *]) rfl ?_
  exact ⟨⟨j.id, j.pr, j.nn, va, vb, vc, j.la, j.lb, j.lc, j.wl, j.lv⟩, rfl, cur11 Cs.out hgw _ _ _ _ _ _ _ _ _ _ _, fr11 Fs.out _ _ _ _ _ _ _ _ _ _ _⟩
 by_cases h3 : x2 = 3
 ·subst h3
  go_wp2_with fail
  refine (cur_raw g _ C2.out).mono ?_
  rintro e w3 ⟨a3, rfl, i3, cu3, fr3⟩
  have C3 := Lib.hid cu3
  have F3 := Lib.hid ((F2.out).trans fr3)
  have XR3 := Lib.hid (bx_fr (XR2.out) fr3 (by omega))
  have XB3 := Lib.hid (bx_fr (XB2.out) fr3 (by omega))
  clear cu3 fr3 C2 F2 XR2 XB2
  have hlb := zAg XB3.out
  have bf := zAh XB3.out
  have c9 := zAb XB3.out 9 rfl
  simp only [zgc, zga, zgb] at c9
  have XBs : Hid ((w3.setCell ⟨w1.heap.size, 9, none⟩ (.int .i64 a3)).heap[w1.heap.size]? = some (.cells #[.int .i64 (j.id), .int .i64 (j.pr), .int .i64 (j.nn), .int .i64 (j.na), .int .i64 (j.nb), .int .i64 (j.nc), .int .i64 (j.la), .int .i64 (j.lb), .int .i64 (j.lc), .int .i64 (a3), .int .i64 (j.lv)] 95 (0, 0))) := Lib.hid (by simpa using (heap_set (i := 9) (v := .int .i64 a3) XB3.out))
  have XRs := Lib.hid (bx_set XR3.out (a := ⟨w1.heap.size, 9, none⟩) (by show w.heap.size ≠ w1.heap.size; omega) (.int .i64 a3))
  have Cs := Lib.hid (C3.out.set (p := ⟨w1.heap.size, 9, none⟩) (by show g < w1.heap.size; omega) (.int .i64 a3))
  have Fs := Lib.hid (F3.out.setCell (p := ⟨w1.heap.size, 9, none⟩) (Or.inr (by show w.heap.size ≤ w1.heap.size; omega)) (.int .i64 a3))
  go_upto_region 11 with fail
  clear c9 bf hlb
  clear XB3 XR3 C3 F3
  generalize (w3.setCell ⟨w1.heap.size, 9, none⟩ (.int .i64 a3)) = ws at *
  have hlb := zAg XBs.out
  have hlr := zAg XRs.out
  have zf := zAh XRs.out
  have c0 := zAb (XBs.out) 0 rfl
  have z0 := zAb (XRs.out) 0 rfl
  have c1 := zAb (XBs.out) 1 rfl
  have z1 := zAb (XRs.out) 1 rfl
  have c2 := zAb (XBs.out) 2 rfl
  have z2 := zAb (XRs.out) 2 rfl
  have c3 := zAb (XBs.out) 3 rfl
  have z3 := zAb (XRs.out) 3 rfl
  have c4 := zAb (XBs.out) 4 rfl
  have z4 := zAb (XRs.out) 4 rfl
  have c5 := zAb (XBs.out) 5 rfl
  have z5 := zAb (XRs.out) 5 rfl
  have c6 := zAb (XBs.out) 6 rfl
  have z6 := zAb (XRs.out) 6 rfl
  have c7 := zAb (XBs.out) 7 rfl
  have z7 := zAb (XRs.out) 7 rfl
  have c8 := zAb (XBs.out) 8 rfl
  have z8 := zAb (XRs.out) 8 rfl
  have c9 := zAb (XBs.out) 9 rfl
  have z9 := zAb (XRs.out) 9 rfl
  have c10 := zAb (XBs.out) 10 rfl
  have z10 := zAb (XRs.out) 10 rfl
  simp only [zgc, zga, zgb] at c0 z0 c1 z1 c2 z2 c3 z3 c4 z4 c5 z5 c6 z6 c7 z7 c8 z8 c9 z9 c10 z10
  go_wp2
  (try go_light)
  refine bodyPost_ret (v := .agg #[.int .i64 (j.id), .int .i64 (j.pr), .int .i64 (j.nn), .int .i64 (j.na), .int .i64 (j.nb), .int .i64 (j.nc), .int .i64 (j.la), .int .i64 (j.lb), .int .i64 (j.lc), .int .i64 (a3), .int .i64 (j.lv)]) (by simp [results, Tryz.results193, go_sem, *]) rfl ?_
  exact ⟨⟨j.id, j.pr, j.nn, j.na, j.nb, j.nc, j.la, j.lb, j.lc, a3, j.lv⟩, rfl, cur11 Cs.out hgw _ _ _ _ _ _ _ _ _ _ _, fr11 Fs.out _ _ _ _ _ _ _ _ _ _ _⟩
 by_cases h4 : x2 = 4
 ·subst h4
  go_wp2_with fail
  refine (cur_raw g _ C2.out).mono ?_
  rintro e w3 ⟨a3, rfl, i3, cu3, fr3⟩
  have C3 := Lib.hid cu3
  have F3 := Lib.hid ((F2.out).trans fr3)
  have XR3 := Lib.hid (bx_fr (XR2.out) fr3 (by omega))
  have XB3 := Lib.hid (bx_fr (XB2.out) fr3 (by omega))
  clear cu3 fr3 C2 F2 XR2 XB2
  have hlb := zAg XB3.out
  have bf := zAh XB3.out
  have c10 := zAb XB3.out 10 rfl
  simp only [zgc, zga, zgb] at c10
  have XBs : Hid ((w3.setCell ⟨w1.heap.size, 10, none⟩ (.int .i64 a3)).heap[w1.heap.size]? = some (.cells #[.int .i64 (j.id), .int .i64 (j.pr), .int .i64 (j.nn), .int .i64 (j.na), .int .i64 (j.nb), .int .i64 (j.nc), .int .i64 (j.la), .int .i64 (j.lb), .int .i64 (j.lc), .int .i64 (j.wl), .int .i64 (a3)] 95 (0, 0))) := Lib.hid (by simpa using (heap_set (i := 10) (v := .int .i64 a3) XB3.out))
  have XRs := Lib.hid (bx_set XR3.out (a := ⟨w1.heap.size, 10, none⟩) (by show w.heap.size ≠ w1.heap.size; omega) (.int .i64 a3))
  have Cs := Lib.hid (C3.out.set (p := ⟨w1.heap.size, 10, none⟩) (by show g < w1.heap.size; omega) (.int .i64 a3))
  have Fs := Lib.hid (F3.out.setCell (p := ⟨w1.heap.size, 10, none⟩) (Or.inr (by show w.heap.size ≤ w1.heap.size; omega)) (.int .i64 a3))
  go_upto_region 13 with fail
  clear c10 bf hlb
  clear XB3 XR3 C3 F3
  generalize (w3.setCell ⟨w1.heap.size, 10, none⟩ (.int .i64 a3)) = ws at *
  have hlb := zAg XBs.out
  have hlr := zAg XRs.out
  have zf := zAh XRs.out
  have c0 := zAb (XBs.out) 0 rfl
  have z0 := zAb (XRs.out) 0 rfl
  have c1 := zAb (XBs.out) 1 rfl
  have z1 := zAb (XRs.out) 1 rfl
  have c2 := zAb (XBs.out) 2 rfl
  have z2 := zAb (XRs.out) 2 rfl
  have c3 := zAb (XBs.out) 3 rfl
  have z3 := zAb (XRs.out) 3 rfl
  have c4 := zAb (XBs.out) 4 rfl
  have z4 := zAb (XRs.out) 4 rfl
  have c5 := zAb (XBs.out) 5 rfl
  have z5 := zAb (XRs.out) 5 rfl
  have c6 := zAb (XBs.out) 6 rfl
  have z6 := zAb (XRs.out) 6 rfl
  have c7 := zAb (XBs.out) 7 rfl
  have z7 := zAb (XRs.out) 7 rfl
  have c8 := zAb (XBs.out) 8 rfl
  have z8 := zAb (XRs.out) 8 rfl
  have c9 := zAb (XBs.out) 9 rfl
  have z9 := zAb (XRs.out) 9 rfl
  have c10 := zAb (XBs.out) 10 rfl
  have z10 := zAb (XRs.out) 10 rfl
  simp only [zgc, zga, zgb] at c0 z0 c1 z1 c2 z2 c3 z3 c4 z4 c5 z5 c6 z6 c7 z7 c8 z8 c9 z9 c10 z10
  go_wp2
  (try go_light)
  refine bodyPost_ret (v := .agg #[.int .i64 (j.id), .int .i64 (j.pr), .int .i64 (j.nn), .int .i64 (j.na), .int .i64 (j.nb), .int .i64 (j.nc), .int .i64 (j.la), .int .i64 (j.lb), .int .i64 (j.lc), .int .i64 (j.wl), .int .i64 (a3)]) (by simp [results, Tryz.results193, go_sem, *]) rfl ?_
  exact ⟨⟨j.id, j.pr, j.nn, j.na, j.nb, j.nc, j.la, j.lb, j.lc, j.wl, a3⟩, rfl, cur11 Cs.out hgw _ _ _ _ _ _ _ _ _ _ _, fr11 Fs.out _ _ _ _ _ _ _ _ _ _ _⟩
 by_cases h5 : x2 = 5
 ·subst h5
  go_wp2_with fail
  refine (cur_raw g _ C2.out).mono ?_
  rintro e w3 ⟨a3, rfl, i3, cu3, fr3⟩
  have C3 := Lib.hid cu3
  have F3 := Lib.hid ((F2.out).trans fr3)
  have XR3 := Lib.hid (bx_fr (XR2.out) fr3 (by omega))
  have XB3 := Lib.hid (bx_fr (XB2.out) fr3 (by omega))
  clear cu3 fr3 C2 F2 XR2 XB2
  have hlb := zAg XB3.out
  have bf := zAh XB3.out
  have c1 := zAb XB3.out 1 rfl
  simp only [zgc, zga, zgb] at c1
  have XBs : Hid ((w3.setCell ⟨w1.heap.size, 1, none⟩ (.int .i64 a3)).heap[w1.heap.size]? = some (.cells #[.int .i64 (j.id), .int .i64 (a3), .int .i64 (j.nn), .int .i64 (j.na), .int .i64 (j.nb), .int .i64 (j.nc), .int .i64 (j.la), .int .i64 (j.lb), .int .i64 (j.lc), .int .i64 (j.wl), .int .i64 (j.lv)] 95 (0, 0))) := Lib.hid (by simpa using (heap_set (i := 1) (v := .int .i64 a3) XB3.out))
  have XRs := Lib.hid (bx_set XR3.out (a := ⟨w1.heap.size, 1, none⟩) (by show w.heap.size ≠ w1.heap.size; omega) (.int .i64 a3))
  have Cs := Lib.hid (C3.out.set (p := ⟨w1.heap.size, 1, none⟩) (by show g < w1.heap.size; omega) (.int .i64 a3))
  have Fs := Lib.hid (F3.out.setCell (p := ⟨w1.heap.size, 1, none⟩) (Or.inr (by show w.heap.size ≤ w1.heap.size; omega)) (.int .i64 a3))
  go_upto_region 15 with fail
  clear c1 bf hlb
  clear XB3 XR3 C3 F3
  generalize (w3.setCell ⟨w1.heap.size, 1, none⟩ (.int .i64 a3)) = ws at *
  have hlb := zAg XBs.out
  have hlr := zAg XRs.out
  have zf := zAh XRs.out
  have c0 := zAb (XBs.out) 0 rfl
  have z0 := zAb (XRs.out) 0 rfl
  have c1 := zAb (XBs.out) 1 rfl
  have z1 := zAb (XRs.out) 1 rfl
  have c2 := zAb (XBs.out) 2 rfl
  have z2 := zAb (XRs.out) 2 rfl
  have c3 := zAb (XBs.out) 3 rfl
  have z3 := zAb (XRs.out) 3 rfl
  have c4 := zAb (XBs.out) 4 rfl
  have z4 := zAb (XRs.out) 4 rfl
  have c5 := zAb (XBs.out) 5 rfl
  have z5 := zAb (XRs.out) 5 rfl
  have c6 := zAb (XBs.out) 6 rfl
  have z6 := zAb (XRs.out) 6 rfl
  have c7 := zAb (XBs.out) 7 rfl
  have z7 := zAb (XRs.out) 7 rfl
  have c8 := zAb (XBs.out) 8 rfl
  have z8 := zAb (XRs.out) 8 rfl
  have c9 := zAb (XBs.out) 9 rfl
  have z9 := zAb (XRs.out) 9 rfl
  have c10 := zAb (XBs.out) 10 rfl
  have z10 := zAb (XRs.out) 10 rfl
  simp only [zgc, zga, zgb] at c0 z0 c1 z1 c2 z2 c3 z3 c4 z4 c5 z5 c6 z6 c7 z7 c8 z8 c9 z9 c10 z10
  go_wp2
  (try go_light)
  refine bodyPost_ret (v := .agg #[.int .i64 (j.id), .int .i64 (a3), .int .i64 (j.nn), .int .i64 (j.na), .int .i64 (j.nb), .int .i64 (j.nc), .int .i64 (j.la), .int .i64 (j.lb), .int .i64 (j.lc), .int .i64 (j.wl), .int .i64 (j.lv)]) (by simp [results, Tryz.results193, go_sem, *]) rfl ?_
  exact ⟨⟨j.id, a3, j.nn, j.na, j.nb, j.nc, j.la, j.lb, j.lc, j.wl, j.lv⟩, rfl, cur11 Cs.out hgw _ _ _ _ _ _ _ _ _ _ _, fr11 Fs.out _ _ _ _ _ _ _ _ _ _ _⟩
 have hlb := zAg XB2.out
 have hlr := zAg XR2.out
 have zf := zAh XR2.out
 have c0 := zAb (XB2.out) 0 rfl
 have z0 := zAb (XR2.out) 0 rfl
 have c1 := zAb (XB2.out) 1 rfl
 have z1 := zAb (XR2.out) 1 rfl
 have c2 := zAb (XB2.out) 2 rfl
 have z2 := zAb (XR2.out) 2 rfl
 have c3 := zAb (XB2.out) 3 rfl
 have z3 := zAb (XR2.out) 3 rfl
 have c4 := zAb (XB2.out) 4 rfl
 have z4 := zAb (XR2.out) 4 rfl
 have c5 := zAb (XB2.out) 5 rfl
 have z5 := zAb (XR2.out) 5 rfl
 have c6 := zAb (XB2.out) 6 rfl
 have z6 := zAb (XR2.out) 6 rfl
 have c7 := zAb (XB2.out) 7 rfl
 have z7 := zAb (XR2.out) 7 rfl
 have c8 := zAb (XB2.out) 8 rfl
 have z8 := zAb (XR2.out) 8 rfl
 have c9 := zAb (XB2.out) 9 rfl
 have z9 := zAb (XR2.out) 9 rfl
 have c10 := zAb (XB2.out) 10 rfl
 have z10 := zAb (XR2.out) 10 rfl
 simp only [zgc, zga, zgb] at c0 z0 c1 z1 c2 z2 c3 z3 c4 z4 c5 z5 c6 z6 c7 z7 c8 z8 c9 z9 c10 z10
 go_wp2
 (try go_light)
 refine bodyPost_ret (v := .agg #[.int .i64 (j.id), .int .i64 (j.pr), .int .i64 (j.nn), .int .i64 (j.na), .int .i64 (j.nb), .int .i64 (j.nc), .int .i64 (j.la), .int .i64 (j.lb), .int .i64 (j.lc), .int .i64 (j.wl), .int .i64 (j.lv)]) (by simp [results, Tryz.results193, go_sem, *]) rfl ?_
 exact ⟨⟨j.id, j.pr, j.nn, j.na, j.nb, j.nc, j.la, j.lb, j.lc, j.wl, j.lv⟩, rfl, cur11 C2.out hgw _ _ _ _ _ _ _ _ _ _ _, fr11 F2.out _ _ _ _ _ _ _ _ _ _ _⟩
end Go.Proofs.YtnphjhbfpoekpaaGreat
