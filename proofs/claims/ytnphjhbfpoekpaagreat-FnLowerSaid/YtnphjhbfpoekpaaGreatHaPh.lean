import Derived.Test.YtnphjhbfpoekpaaGreatA11Ph
import Derived.Test.YtnphjhbfpoekpaaGreatGdPh
namespace Go.Proofs.YtnphjhbfpoekpaaGreat
set_option linter.unusedSimpArgs false
set_option linter.unusedVariables false
set_option linter.unnecessarySimpa false
open Go.RowKit
def zJ : J := ⟨0, 0, 0, 0, 0, 0, 0, 0, 0, 0, 0⟩
theorem find_at {js : List J} {id : Int} {k : Nat} {j : J} (hj : js[k]? = some j) (he : j.id = id) (h : ∀ i x, i < k → js[i]? = some x → x.id ≠ id) : findJ js id = some j := by
 unfold findJ
 rw [List.find?_eq_some_iff_getElem]
 obtain ⟨hl, hv⟩ := List.getElem?_eq_some_iff.1 hj
 refine ⟨by simp [he], k, hl, hv, fun i hi => ?_⟩
 have hil : i < js.length := by omega
 simpa using h i js[i] hi (zgh hil)
theorem find_no {js : List J} {id : Int} {n : Nat} (hn : js.length = n) (h : ∀ i x, i < n → js[i]? = some x → x.id ≠ id) : findJ js id = none := by
 unfold findJ
 rw [List.find?_eq_none]
 intro x hx
 obtain ⟨i, hi, rfl⟩ := List.getElem_of_mem hx
 simp [h i _ (by omega) (zgh hi)]
set_option maxHeartbeats 8000000 in
set_option maxRecDepth 20000 in
theorem sFind_any (A : Option Addr) (n c : Nat) (js : List J) (id : Int) (w : World) (hn : n ≤ 1048577) (hr : Rd w A n 11 (jflat js)) (hl : ∀ g, A = some ⟨g, 0, none⟩ → g < w.heap.size) :
  Calls Tryz.prog 71 #[.slice A n c, .int .i64 id] w fun e w' => ∃ q : J, e = .returned (.tuple #[.agg #[.int .i64 q.id, .int .i64 q.pr, .int .i64 q.nn, .int .i64 q.na, .int .i64 q.nb, .int .i64 q.nc, .int .i64 q.la, .int .i64 q.lb, .int .i64 q.lc, .int .i64 q.wl, .int .i64 q.lv], .bool (findJ js id).isSome]) ∧ q = (findJ js id).getD zJ ∧ Below w.heap.size w w' := by
 have hm : n ≤ 9223372036854775807 := by omega
 have HPL := Lib.hid hr.jlen
 have HR := Lib.hid hr
 have HL := Lib.hid hl
 clear hr hl
 go_enter Tryz.func71, Tryz.ntmps71
 have Z0 : Hid ((w.alloc (.cells #[.int .i64 0, .int .i64 0, .int .i64 0, .int .i64 0, .int .i64 0, .int .i64 0, .int .i64 0, .int .i64 0, .int .i64 0, .int .i64 0, .int .i64 0] 95)).heap[w.heap.size]? = some (.cells #[.int .i64 0, .int .i64 0, .int .i64 0, .int .i64 0, .int .i64 0, .int .i64 0, .int .i64 0, .int .i64 0, .int .i64 0, .int .i64 0, .int .i64 0] 95 (0, 0))) := Lib.hid (zAj _ rfl)
 have B0 := Lib.hid (zAa w (.cells #[.int .i64 0, .int .i64 0, .int .i64 0, .int .i64 0, .int .i64 0, .int .i64 0, .int .i64 0, .int .i64 0, .int .i64 0, .int .i64 0, .int .i64 0] 95))
 go_upto_region 1 with fail
 generalize w.alloc (.cells #[.int .i64 0, .int .i64 0, .int .i64 0, .int .i64 0, .int .i64 0, .int .i64 0, .int .i64 0, .int .i64 0, .int .i64 0, .int .i64 0, .int .i64 0] 95) = w1 at *
 go_wp2
 go_loopw [10] (fun i wr => ∃ k : Nat, k ≤ n ∧ i = .int .i64 k ∧ Below w.heap.size w wr ∧ wr.heap[w.heap.size]? = some (.cells #[.int .i64 0, .int .i64 0, .int .i64 0, .int .i64 0, .int .i64 0, .int .i64 0, .int .i64 0, .int .i64 0, .int .i64 0, .int .i64 0, .int .i64 0] 95 (0, 0)) ∧ Hid (∀ i x, i < k → js[i]? = some x → x.id ≠ id)) (fun i _ => n - (intOf i).toNat)
 case atStart => exact ⟨0, Nat.zero_le _, rfl, B0.out, Z0.out, Lib.hid (fun i x hi => absurd hi (by omega))⟩
 case round =>
  clear Z0 B0
  obtain ⟨k, hk, rfl, hbw, hz, hno⟩ := hrel
  obtain ⟨wo, rfl⟩ : ∃ x, x = wr := ⟨wr, rfl⟩
  have HZ := Lib.hid hz
  have HBW := Lib.hid hbw
  by_cases hlt : k < n
  ·have hlt' : (k : Int) < n := by omega
   obtain ⟨g, q, rfl, hq, d0, d1, d2, d3, d4, d5, d6, d7, d8, d9, d10⟩ := (HR.out.below HL.out hbw).j hlt
   have HQ := Lib.hid hq
   clear hq hbw hz
   by_cases he : q.id = id
   ·have HF := Lib.hid (find_at HQ.out he hno.out)
    subst he
    have HZ2 := Lib.hid (zAs HZ.out (.cells #[.int .i64 q.id, .int .i64 q.pr, .int .i64 q.nn, .int .i64 q.na, .int .i64 q.nb, .int .i64 q.nc, .int .i64 q.la, .int .i64 q.lb, .int .i64 q.lc, .int .i64 q.wl, .int .i64 q.lv] 95))
    have HQ2 : Hid ((wo.alloc (.cells #[.int .i64 q.id, .int .i64 q.pr, .int .i64 q.nn, .int .i64 q.na, .int .i64 q.nb, .int .i64 q.nc, .int .i64 q.la, .int .i64 q.lb, .int .i64 q.lc, .int .i64 q.wl, .int .i64 q.lv] 95)).heap[wo.heap.size]? = some (.cells #[.int .i64 q.id, .int .i64 q.pr, .int .i64 q.nn, .int .i64 q.na, .int .i64 q.nb, .int .i64 q.nc, .int .i64 q.la, .int .i64 q.lb, .int .i64 q.lc, .int .i64 q.wl, .int .i64 q.lv] 95 (0, 0))) := Lib.hid (zAj _ rfl)
    have HB2 := Lib.hid (zAc HBW.out (zAa wo (.cells #[.int .i64 q.id, .int .i64 q.pr, .int .i64 q.nn, .int .i64 q.na, .int .i64 q.nb, .int .i64 q.nc, .int .i64 q.la, .int .i64 q.lb, .int .i64 q.lc, .int .i64 q.wl, .int .i64 q.lv] 95)))
    go_upto_region 4 with fail
    generalize wo.alloc (.cells #[.int .i64 q.id, .int .i64 q.pr, .int .i64 q.nn, .int .i64 q.na, .int .i64 q.nb, .int .i64 q.nc, .int .i64 q.la, .int .i64 q.lb, .int .i64 q.lc, .int .i64 q.wl, .int .i64 q.lv] 95) = w4 at *
    generalize wo.heap.size = b4 at *
    clear d0 d1 d2 d3 d4 d5 d6 d7 d8 d9 d10
    have y0 := zAb HQ2.out 0 rfl
    have y1 := zAb HQ2.out 1 rfl
    have y2 := zAb HQ2.out 2 rfl
    have y3 := zAb HQ2.out 3 rfl
    have y4 := zAb HQ2.out 4 rfl
    have y5 := zAb HQ2.out 5 rfl
    have y6 := zAb HQ2.out 6 rfl
    have y7 := zAb HQ2.out 7 rfl
    have y8 := zAb HQ2.out 8 rfl
    have y9 := zAb HQ2.out 9 rfl
    have y10 := zAb HQ2.out 10 rfl
    have yf := zAh HQ2.out
    have yl := zAg HQ2.out
    simp only [zgc, zga, zgb] at y0 y1 y2 y3 y4 y5 y6 y7 y8 y9 y10
    have z0 := zAb HZ2.out 0 rfl
    have z1 := zAb HZ2.out 1 rfl
    have z2 := zAb HZ2.out 2 rfl
    have z3 := zAb HZ2.out 3 rfl
    have z4 := zAb HZ2.out 4 rfl
    have z5 := zAb HZ2.out 5 rfl
    have z6 := zAb HZ2.out 6 rfl
    have z7 := zAb HZ2.out 7 rfl
    have z8 := zAb HZ2.out 8 rfl
    have z9 := zAb HZ2.out 9 rfl
    have z10 := zAb HZ2.out 10 rfl
    have zf := zAh HZ2.out
    have zl := zAg HZ2.out
    simp only [zgc, zga, zgb] at z0 z1 z2 z3 z4 z5 z6 z7 z8 z9 z10
    go_wp2
    (try go_light)
    refine bodyPost_ret (v := .tuple #[.agg #[.int .i64 q.id, .int .i64 q.pr, .int .i64 q.nn, .int .i64 q.na, .int .i64 q.nb, .int .i64 q.nc, .int .i64 q.la, .int .i64 q.lb, .int .i64 q.lc, .int .i64 q.wl, .int .i64 q.lv], .bool true]) (by simp [results, Tryz.results71, go_sem, *]) rfl ?_
    rw [HF.out]
    exact ⟨q, rfl, rfl, (Below.setCell (Below.setCell (Below.setCell (Below.setCell (Below.setCell (Below.setCell (Below.setCell (Below.setCell (Below.setCell (Below.setCell (Below.setCell HB2.out (p := ⟨w.heap.size, 0, none⟩) (Nat.le_refl _) _) (p := ⟨w.heap.size, 1, none⟩) (Nat.le_refl _) _) (p := ⟨w.heap.size, 2, none⟩) (Nat.le_refl _) _) (p := ⟨w.heap.size, 3, none⟩) (Nat.le_refl _) _) (p := ⟨w.heap.size, 4, none⟩) (Nat.le_refl _) _) (p := ⟨w.heap.size, 5, none⟩) (Nat.le_refl _) _) (p := ⟨w.heap.size, 6, none⟩) (Nat.le_refl _) _) (p := ⟨w.heap.size, 7, none⟩) (Nat.le_refl _) _) (p := ⟨w.heap.size, 8, none⟩) (Nat.le_refl _) _) (p := ⟨w.heap.size, 9, none⟩) (Nat.le_refl _) _) (p := ⟨w.heap.size, 10, none⟩) (Nat.le_refl _) _)⟩
   ·have HNO := Lib.hid (show ∀ i x, i < k + 1 → js[i]? = some x → x.id ≠ id from fun i x hi hx => by
     by_cases hik : i < k
     ·exact hno.out i x hik hx
     ·obtain rfl : i = k := by omega
      rw [HQ.out] at hx
      obtain rfl := Option.some.inj hx
      exact he)
    have HZ2 := Lib.hid (zAs HZ.out (.cells #[.int .i64 q.id, .int .i64 q.pr, .int .i64 q.nn, .int .i64 q.na, .int .i64 q.nb, .int .i64 q.nc, .int .i64 q.la, .int .i64 q.lb, .int .i64 q.lc, .int .i64 q.wl, .int .i64 q.lv] 95))
    go_wp2
    exact ⟨⟨k + 1, by omega, by go_num, zAc HBW.out (zAa _ _), HZ2.out, HNO⟩, by simp [intOf]; omega⟩
  ·have hlt' : ¬ (k : Int) < n := by omega
   obtain rfl : k = n := by omega
   have HF := Lib.hid (find_no HPL.out hno.out)
   have z0 := zAb HZ.out 0 rfl
   have z1 := zAb HZ.out 1 rfl
   have z2 := zAb HZ.out 2 rfl
   have z3 := zAb HZ.out 3 rfl
   have z4 := zAb HZ.out 4 rfl
   have z5 := zAb HZ.out 5 rfl
   have z6 := zAb HZ.out 6 rfl
   have z7 := zAb HZ.out 7 rfl
   have z8 := zAb HZ.out 8 rfl
   have z9 := zAb HZ.out 9 rfl
   have z10 := zAb HZ.out 10 rfl
   have zf := zAh HZ.out
   have zl := zAg HZ.out
   simp only [zgc, zga, zgb] at z0 z1 z2 z3 z4 z5 z6 z7 z8 z9 z10
   clear hbw hz
   go_wp2
   (try go_light)
   refine bodyPost_ret (v := .tuple #[.agg #[.int .i64 zJ.id, .int .i64 zJ.pr, .int .i64 zJ.nn, .int .i64 zJ.na, .int .i64 zJ.nb, .int .i64 zJ.nc, .int .i64 zJ.la, .int .i64 zJ.lb, .int .i64 zJ.lc, .int .i64 zJ.wl, .int .i64 zJ.lv], .bool false]) (by simp [results, Tryz.results71, go_sem, zJ, *]) rfl ?_
   rw [HF.out]
   exact ⟨zJ, rfl, rfl, (Below.setCell (Below.setCell (Below.setCell (Below.setCell (Below.setCell (Below.setCell (Below.setCell (Below.setCell (Below.setCell (Below.setCell (Below.setCell HBW.out (p := ⟨w.heap.size, 0, none⟩) (Nat.le_refl _) _) (p := ⟨w.heap.size, 1, none⟩) (Nat.le_refl _) _) (p := ⟨w.heap.size, 2, none⟩) (Nat.le_refl _) _) (p := ⟨w.heap.size, 3, none⟩) (Nat.le_refl _) _) (p := ⟨w.heap.size, 4, none⟩) (Nat.le_refl _) _) (p := ⟨w.heap.size, 5, none⟩) (Nat.le_refl _) _) (p := ⟨w.heap.size, 6, none⟩) (Nat.le_refl _) _) (p := ⟨w.heap.size, 7, none⟩) (Nat.le_refl _) _) (p := ⟨w.heap.size, 8, none⟩) (Nat.le_refl _) _) (p := ⟨w.heap.size, 9, none⟩) (Nat.le_refl _) _) (p := ⟨w.heap.size, 10, none⟩) (Nat.le_refl _) _)⟩
end Go.Proofs.YtnphjhbfpoekpaaGreat
namespace Go.Proofs.YtnphjhbfpoekpaaGreat
set_option linter.unusedSimpArgs false
set_option linter.unusedVariables false
set_option linter.unnecessarySimpa false
open Go Go.RowKit
structure RD (w wr : World) (g lo br bj : Nat) (a : RA) (r : Rm) (xs : List Value) (j : J) : Prop where
 rb : wr.heap[br]? = some (.cells #[.slice a.A a.n a.c, .slice a.B a.m a.d, .slice a.U a.nu a.cu, .slice a.R a.np a.cp, .slice a.L a.nl a.cl] 33 (0, 0))
 jb : wr.heap[bj]? = some (.cells #[.int .i64 j.id, .int .i64 j.pr, .int .i64 j.nn, .int .i64 j.na, .int .i64 j.nb, .int .i64 j.nc, .int .i64 j.la, .int .i64 j.lb, .int .i64 j.lc, .int .i64 j.wl, .int .i64 j.lv] 95 (0, 0))
 own : RoomOwn wr lo a r xs
 cur : Cur wr g
 z0 : wr.heap[w.heap.size]? = some (.cells #[.slice none 0 0, .slice none 0 0, .slice none 0 0, .slice none 0 0, .slice none 0 0] 33 (0, 0))
 z1 : wr.heap[w.heap.size + 1]? = some (.cells #[.int .i64 0, .int .i64 0, .int .i64 0, .int .i64 0, .int .i64 0, .int .i64 0, .int .i64 0, .int .i64 0, .int .i64 0, .int .i64 0, .int .i64 0] 95 (0, 0))
 bel : Below w.heap.size w wr
 hb : w.heap.size + 1 < g ∧ g < lo ∧ g < br ∧ br < bj
theorem RD.bel' {w wr w' : World} {g lo br bj : Nat} {a : RA} {r : Rm} {xs : List Value} {j : J} (h : RD w wr g lo br bj a r xs j) (hb : Below wr.heap.size wr w') : RD w w' g lo br bj a r xs j :=
 ⟨zAf h.rb hb, zAf h.jb hb, h.own.bel hb, h.cur.below hb, zAf h.z0 hb, zAf h.z1 hb, zAc h.bel hb, h.hb⟩
theorem RD.cs {w wr w' : World} {g lo br bj : Nat} {a : RA} {r : Rm} {xs : List Value} {j : J} (h : RD w wr g lo br bj a r xs j) (hf : Fr (· = g) wr w') (hc : Cur w' g) : RD w w' g lo br bj a r xs j := by
 have hh := h.hb
 have hs := h.bel.size
 exact ⟨bx_fr h.rb hf (by omega), bx_fr h.jb hf (by omega), h.own.fr hf (fun k hk e => by have := (room_rng2 h.own k hk).1; omega), hc, bx_fr h.z0 hf (by omega), bx_fr h.z1 hf (by omega), h.bel.trans (hf.bel (B := w.heap.size) (fun k e => by omega) hs), h.hb⟩
end Go.Proofs.YtnphjhbfpoekpaaGreat
