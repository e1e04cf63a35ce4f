import Derived.Test.YtdppjjdhidkjoaaGreatGdPd
namespace Go.Proofs.YtdppjjdhidkjoaaGreat
set_option linter.unusedSimpArgs false
set_option linter.unusedVariables false
set_option linter.unnecessarySimpa false
open Go Go.RowKit
structure RD (w wr : World) (g lo br bj : Nat) (a : RA) (r : Rm) (xs : List Value) (j : J) : Prop where
  rb : wr.heap[br]? = some (.cells #[.slice a.A a.n a.c, .slice a.B a.m a.d, .slice a.U a.nu a.cu, .slice a.R a.np a.cp, .slice a.L a.nl a.cl] 33 (0, 0))
  jb : wr.heap[bj]? = some (.cells #[.int .i64 j.id, .int .i64 j.pr, .int .i64 j.nn, .int .i64 j.na, .int .i64 j.nb, .int .i64 j.nc, .int .i64 j.la, .int .i64 j.lb, .int .i64 j.lc, .int .i64 j.wl, .int .i64 j.lv] 37 (0, 0))
  own : RoomOwn wr lo a r xs
  cur : Cur wr g
  z0 : wr.heap[w.heap.size]? = some (.cells #[.slice none 0 0, .slice none 0 0, .slice none 0 0, .slice none 0 0, .slice none 0 0] 33 (0, 0))
  z1 : wr.heap[w.heap.size + 1]? = some (.cells #[.int .i64 0, .int .i64 0, .int .i64 0, .int .i64 0, .int .i64 0, .int .i64 0, .int .i64 0, .int .i64 0, .int .i64 0, .int .i64 0, .int .i64 0] 37 (0, 0))
  bel : Below w.heap.size w wr
  hb : w.heap.size + 1 < g ∧ g < lo ∧ g < br ∧ br < bj
theorem RD.bel' {w wr w' : World} {g lo br bj : Nat} {a : RA} {r : Rm} {xs : List Value} {j : J} (h : RD w wr g lo br bj a r xs j) (hb : Below wr.heap.size wr w') : RD w w' g lo br bj a r xs j :=
  ⟨zAe h.rb hb, zAe h.jb hb, h.own.bel hb, h.cur.below hb, zAe h.z0 hb, zAe h.z1 hb, zAd h.bel hb, h.hb⟩
theorem RD.cs {w wr w' : World} {g lo br bj : Nat} {a : RA} {r : Rm} {xs : List Value} {j : J} (h : RD w wr g lo br bj a r xs j) (hf : Fr (· = g) wr w') (hc : Cur w' g) : RD w w' g lo br bj a r xs j := by
  have hh := h.hb
  have hs := h.bel.size
  exact ⟨bx_fr h.rb hf (by omega), bx_fr h.jb hf (by omega), h.own.fr hf (fun k hk e => by have := (room_rng2 h.own k hk).1; omega), hc, bx_fr h.z0 hf (by omega), bx_fr h.z1 hf (by omega), h.bel.trans (hf.bel (B := w.heap.size) (fun k e => by omega) hs), h.hb⟩
theorem set11 {w : World} {b : Nat} {z0 z1 z2 z3 z4 z5 z6 z7 z8 z9 z10 v0 v1 v2 v3 v4 v5 v6 v7 v8 v9 v10 : Value} {t : TypeId} {f : Nat × Nat} (h : w.heap[b]? = some (.cells #[z0, z1, z2, z3, z4, z5, z6, z7, z8, z9, z10] t f)) :
    (((((((((((w.setCell ⟨b, 0, none⟩ v0).setCell ⟨b, 1, none⟩ v1).setCell ⟨b, 2, none⟩ v2).setCell ⟨b, 3, none⟩ v3).setCell ⟨b, 4, none⟩ v4).setCell ⟨b, 5, none⟩ v5).setCell ⟨b, 6, none⟩ v6).setCell ⟨b, 7, none⟩ v7).setCell ⟨b, 8, none⟩ v8).setCell ⟨b, 9, none⟩ v9).setCell ⟨b, 10, none⟩ v10).heap[b]? = some (.cells #[v0, v1, v2, v3, v4, v5, v6, v7, v8, v9, v10] t f) := by
  have := (zAv (i := 10) (v := v10) (zAv (i := 9) (v := v9) (zAv (i := 8) (v := v8) (zAv (i := 7) (v := v7) (zAv (i := 6) (v := v6) (zAv (i := 5) (v := v5) (zAv (i := 4) (v := v4) (zAv (i := 3) (v := v3) (zAv (i := 2) (v := v2) (zAv (i := 1) (v := v1) (zAv (i := 0) (v := v0) h)))))))))))
  simpa using this
theorem bx_set11 {w : World} {b k : Nat} {o : Obj} (h : w.heap[k]? = some o) (hn : k ≠ b) (v0 v1 v2 v3 v4 v5 v6 v7 v8 v9 v10 : Value) :
    (((((((((((w.setCell ⟨b, 0, none⟩ v0).setCell ⟨b, 1, none⟩ v1).setCell ⟨b, 2, none⟩ v2).setCell ⟨b, 3, none⟩ v3).setCell ⟨b, 4, none⟩ v4).setCell ⟨b, 5, none⟩ v5).setCell ⟨b, 6, none⟩ v6).setCell ⟨b, 7, none⟩ v7).setCell ⟨b, 8, none⟩ v8).setCell ⟨b, 9, none⟩ v9).setCell ⟨b, 10, none⟩ v10).heap[k]? = some o :=
  (zAw (zAw (zAw (zAw (zAw (zAw (zAw (zAw (zAw (zAw (zAw h hn _) hn _) hn _) hn _) hn _) hn _) hn _) hn _) hn _) hn _) hn _)

set_option maxHeartbeats 16000000 in
set_option maxRecDepth 20000 in
theorem drawEarliest_any (A0 : Option Addr) (n0 c0 : Nat) (w : World) (hn : n0 ≤ 1048576) (h : ByIn w A0 n0) :
    Calls Tryz.prog 16 #[.slice A0 n0 c0] w fun e w' => ∃ (a : RA) (j : J) (f_ : Int), e = .returned (.tuple #[RA.v a, .agg #[.int .i64 j.id, .int .i64 j.pr, .int .i64 j.nn, .int .i64 j.na, .int .i64 j.nb, .int .i64 j.nc, .int .i64 j.la, .int .i64 j.lb, .int .i64 j.lc, .int .i64 j.wl, .int .i64 j.lv], .int .i64 f_]) ∧ (∃ r, r.few 12 ∧ ∃ xs, RoomOwn w' w.heap.size a r xs) ∧ Below w.heap.size w w' := by
  have HB := Lib.hid h
  clear h
  go_enter Tryz.func16, Tryz.ntmps16
  go_wp2_with fail
  refine (cur_new A0 n0 c0 _ hn (HB.out.below (zAd (zAa w (.cells #[.slice none 0 0, .slice none 0 0, .slice none 0 0, .slice none 0 0, .slice none 0 0] 33)) (zAa _ (.cells #[.int .i64 0, .int .i64 0, .int .i64 0, .int .i64 0, .int .i64 0, .int .i64 0, .int .i64 0, .int .i64 0, .int .i64 0, .int .i64 0, .int .i64 0] 37))))).mono ?_
  rintro e w1 ⟨g, rfl, hg, cu1, hb1⟩
  have C1 := Lib.hid cu1
  have hgl := cu1.lt
  have hg' : w.heap.size + 1 < g := by simp at hg; omega
  have B1 := Lib.hid (zAd (zAd (zAa w (.cells #[.slice none 0 0, .slice none 0 0, .slice none 0 0, .slice none 0 0, .slice none 0 0] 33)) (zAa _ (.cells #[.int .i64 0, .int .i64 0, .int .i64 0, .int .i64 0, .int .i64 0, .int .i64 0, .int .i64 0, .int .i64 0, .int .i64 0, .int .i64 0, .int .i64 0] 37))) hb1)
  have XR1 := Lib.hid (zAe (zAr (zAl (w := w) (.cells #[.slice none 0 0, .slice none 0 0, .slice none 0 0, .slice none 0 0, .slice none 0 0] 33) rfl) (.cells #[.int .i64 0, .int .i64 0, .int .i64 0, .int .i64 0, .int .i64 0, .int .i64 0, .int .i64 0, .int .i64 0, .int .i64 0, .int .i64 0, .int .i64 0] 37)) hb1)
  have XJ1 := Lib.hid (zAe (zAl (w := w.alloc (.cells #[.slice none 0 0, .slice none 0 0, .slice none 0 0, .slice none 0 0, .slice none 0 0] 33)) (.cells #[.int .i64 0, .int .i64 0, .int .i64 0, .int .i64 0, .int .i64 0, .int .i64 0, .int .i64 0, .int .i64 0, .int .i64 0, .int .i64 0, .int .i64 0] 37) (k := w.heap.size + 1) (by simp)) hb1)
  have hs1 : w.heap.size ≤ w1.heap.size := B1.out.size
  clear cu1 hb1 hg
  go_wp2_with fail
  refine (cur_anyRoom g _ C1.out).mono ?_
  rintro e w2 ⟨a, rfl, r, hfw, ⟨xs, oa⟩, cu2, fr2⟩
  obtain ⟨A, B, U, R, L, n, m1, nu, np, nl, c, d, cu, cp, cl⟩ := a
  dsimp only [RA.v]
  have FW := Lib.hid hfw
  have hs2 := fr2.size
  have B2 := Lib.hid (B1.out.trans (fr2.bel (B := w.heap.size) (fun k e => by omega) hs1))
  have XR2 := Lib.hid (bx_fr XR1.out fr2 (by omega))
  have XJ2 := Lib.hid (bx_fr XJ1.out fr2 (by omega))
  have C2 := Lib.hid cu2
  have O2 := Lib.hid oa
  clear hfw oa cu2 fr2 C1 B1 XR1 XJ1
  have RB2 : Hid ((w2.alloc (.cells #[.slice A n c, .slice B m1 d, .slice U nu cu, .slice R np cp, .slice L nl cl] 33)).heap[w2.heap.size]? = some (.cells #[.slice A n c, .slice B m1 d, .slice U nu cu, .slice R np cp, .slice L nl cl] 33 (0, 0))) := Lib.hid (zAl _ rfl)
  go_wp2_with fail
  refine (cur_anyJob g _ (C2.out.alloc _)).mono ?_
  rintro e w3 ⟨j, rfl, cu3, fr3⟩
  have bal2 := zAa w2 (.cells #[.slice A n c, .slice B m1 d, .slice U nu cu, .slice R np cp, .slice L nl cl] 33)
  have hs3 := fr3.size
  (try simp at hs3)
  have D3 : Hid (RD w (w3.alloc (.cells #[.int .i64 j.id, .int .i64 j.pr, .int .i64 j.nn, .int .i64 j.na, .int .i64 j.nb, .int .i64 j.nc, .int .i64 j.la, .int .i64 j.lb, .int .i64 j.lc, .int .i64 j.wl, .int .i64 j.lv] 37)) g w1.heap.size w2.heap.size w3.heap.size ⟨A, B, U, R, L, n, m1, nu, np, nl, c, d, cu, cp, cl⟩ r xs j) := Lib.hid
    ⟨zAr (bx_fr RB2.out fr3 (by omega)) _, zAl _ rfl, ((O2.out.bel bal2).fr fr3 (fun k hk e => by have := (room_rng2 O2.out k hk).1; omega)).bel (zAa _ _), cu3.alloc _, zAr (bx_fr (zAr XR2.out _) fr3 (by omega)) _, zAr (bx_fr (zAr XJ2.out _) fr3 (by omega)) _,
      zAd ((zAd B2.out bal2).trans (fr3.bel (B := w.heap.size) (fun k e => by omega) (by simp; omega))) (zAa _ _), ⟨hg', hgl, by omega, by omega⟩⟩
  have hbj : w3.heap.size < (w3.alloc (.cells #[.int .i64 j.id, .int .i64 j.pr, .int .i64 j.nn, .int .i64 j.na, .int .i64 j.nb, .int .i64 j.nc, .int .i64 j.la, .int .i64 j.lb, .int .i64 j.lc, .int .i64 j.wl, .int .i64 j.lv] 37)).heap.size := by simp
  have hbo : w.heap.size + 1 < w1.heap.size := by omega
  clear cu3 fr3 bal2 O2 RB2 XR2 XJ2 C2 B2
  go_upto_region 4 with fail
  generalize w3.alloc (.cells #[.int .i64 j.id, .int .i64 j.pr, .int .i64 j.nn, .int .i64 j.na, .int .i64 j.nb, .int .i64 j.nc, .int .i64 j.la, .int .i64 j.lb, .int .i64 j.lc, .int .i64 j.wl, .int .i64 j.lv] 37) = w4 at *
  generalize w3.heap.size = bj at *
  generalize w2.heap.size = br at *
  go_wp2_with fail
  refine (zAs g 60 _ D3.out.cur (by omega) (by omega)).mono ?_
  rintro e w5 ⟨x5, rfl, p5, q5, cu5, fr5⟩
  have T5 := Lib.hid (D3.out.cs fr5 cu5)
  clear cu5 fr5 D3
  go_wp2_with fail
  refine (zAs g 12 _ T5.out.cur (by omega) (by omega)).mono ?_
  rintro e w6 ⟨x6, rfl, p6, q6, cu6, fr6⟩
  have T6 := Lib.hid (T5.out.cs fr6 cu6)
  clear cu6 fr6 T5
  by_cases h0 : x6 = 0
  · subst h0
    go_wp2_with fail
    refine (cur_raw g _ T6.out.cur).mono ?_
    rintro e w7 ⟨x7, rfl, i7, cu7, fr7⟩
    have T7 := Lib.hid (T6.out.cs fr7 cu7)
    clear cu7 fr7 T6
    go_upto_region 10 with fail
    have k0 := zAc T7.out.rb 0 rfl
    have k1 := zAc T7.out.rb 1 rfl
    have k2 := zAc T7.out.rb 2 rfl
    have k3 := zAc T7.out.rb 3 rfl
    have k4 := zAc T7.out.rb 4 rfl
    have kf := zAh T7.out.rb
    have kl := zAi T7.out.rb
    simp only [List.getElem_toArray, List.getElem_cons_zero, List.getElem_cons_succ] at k0 k1 k2 k3 k4
    have v0 := zAc T7.out.jb 0 rfl
    have v1 := zAc T7.out.jb 1 rfl
    have v2 := zAc T7.out.jb 2 rfl
    have v3 := zAc T7.out.jb 3 rfl
    have v4 := zAc T7.out.jb 4 rfl
    have v5 := zAc T7.out.jb 5 rfl
    have v6 := zAc T7.out.jb 6 rfl
    have v7 := zAc T7.out.jb 7 rfl
    have v8 := zAc T7.out.jb 8 rfl
    have v9 := zAc T7.out.jb 9 rfl
    have v10 := zAc T7.out.jb 10 rfl
    have vf := zAh T7.out.jb
    have vl := zAi T7.out.jb
    simp only [List.getElem_toArray, List.getElem_cons_zero, List.getElem_cons_succ] at v0 v1 v2 v3 v4 v5 v6 v7 v8 v9 v10
    have z0 := zAc T7.out.z0 0 rfl
    have z1 := zAc T7.out.z0 1 rfl
    have z2 := zAc T7.out.z0 2 rfl
    have z3 := zAc T7.out.z0 3 rfl
    have z4 := zAc T7.out.z0 4 rfl
    have zf := zAh T7.out.z0
    have zl := zAi T7.out.z0
    simp only [List.getElem_toArray, List.getElem_cons_zero, List.getElem_cons_succ] at z0 z1 z2 z3 z4
    have y0 := zAc T7.out.z1 0 rfl
    have y1 := zAc T7.out.z1 1 rfl
    have y2 := zAc T7.out.z1 2 rfl
    have y3 := zAc T7.out.z1 3 rfl
    have y4 := zAc T7.out.z1 4 rfl
    have y5 := zAc T7.out.z1 5 rfl
    have y6 := zAc T7.out.z1 6 rfl
    have y7 := zAc T7.out.z1 7 rfl
    have y8 := zAc T7.out.z1 8 rfl
    have y9 := zAc T7.out.z1 9 rfl
    have y10 := zAc T7.out.z1 10 rfl
    have yf := zAh T7.out.z1
    have yl := zAi T7.out.z1
    simp only [List.getElem_toArray, List.getElem_cons_zero, List.getElem_cons_succ] at y0 y1 y2 y3 y4 y5 y6 y7 y8 y9 y10
    have hh := T7.out.hb
    have n1 : w.heap.size ≠ br := by omega
    have n2 : w.heap.size ≠ bj := by omega
    have n3 : w.heap.size + 1 ≠ br := by omega
    have n4 : w.heap.size + 1 ≠ bj := by omega
    have n5 : br ≠ w.heap.size := by omega
    have n6 : bj ≠ w.heap.size := by omega
    have n7 : br ≠ w.heap.size + 1 := by omega
    have n8 : bj ≠ w.heap.size + 1 := by omega
    have FF := Lib.hid (((((((((((((((((Fr.refl (fun k => k < w.heap.size + 2) w7).setCell (p := ⟨w.heap.size, 0, none⟩) (Or.inl (by show w.heap.size < w.heap.size + 2; omega)) (.slice A n c)).setCell (p := ⟨w.heap.size, 1, none⟩) (Or.inl (by show w.heap.size < w.heap.size + 2; omega)) (.slice B m1 d)).setCell (p := ⟨w.heap.size, 2, none⟩) (Or.inl (by show w.heap.size < w.heap.size + 2; omega)) (.slice U nu cu)).setCell (p := ⟨w.heap.size, 3, none⟩) (Or.inl (by show w.heap.size < w.heap.size + 2; omega)) (.slice R np cp)).setCell (p := ⟨w.heap.size, 4, none⟩) (Or.inl (by show w.heap.size < w.heap.size + 2; omega)) (.slice L nl cl)).setCell (p := ⟨w.heap.size + 1, 0, none⟩) (Or.inl (by show w.heap.size + 1 < w.heap.size + 2; omega)) (.int .i64 j.id)).setCell (p := ⟨w.heap.size + 1, 1, none⟩) (Or.inl (by show w.heap.size + 1 < w.heap.size + 2; omega)) (.int .i64 j.pr)).setCell (p := ⟨w.heap.size + 1, 2, none⟩) (Or.inl (by show w.heap.size + 1 < w.heap.size + 2; omega)) (.int .i64 j.nn)).setCell (p := ⟨w.heap.size + 1, 3, none⟩) (Or.inl (by show w.heap.size + 1 < w.heap.size + 2; omega)) (.int .i64 j.na)).setCell (p := ⟨w.heap.size + 1, 4, none⟩) (Or.inl (by show w.heap.size + 1 < w.heap.size + 2; omega)) (.int .i64 j.nb)).setCell (p := ⟨w.heap.size + 1, 5, none⟩) (Or.inl (by show w.heap.size + 1 < w.heap.size + 2; omega)) (.int .i64 j.nc)).setCell (p := ⟨w.heap.size + 1, 6, none⟩) (Or.inl (by show w.heap.size + 1 < w.heap.size + 2; omega)) (.int .i64 j.la)).setCell (p := ⟨w.heap.size + 1, 7, none⟩) (Or.inl (by show w.heap.size + 1 < w.heap.size + 2; omega)) (.int .i64 j.lb)).setCell (p := ⟨w.heap.size + 1, 8, none⟩) (Or.inl (by show w.heap.size + 1 < w.heap.size + 2; omega)) (.int .i64 j.lc)).setCell (p := ⟨w.heap.size + 1, 9, none⟩) (Or.inl (by show w.heap.size + 1 < w.heap.size + 2; omega)) (.int .i64 j.wl)).setCell (p := ⟨w.heap.size + 1, 10, none⟩) (Or.inl (by show w.heap.size + 1 < w.heap.size + 2; omega)) (.int .i64 j.lv))
    have BB : Hid (Below w.heap.size w ((((((((((((((((w7.setCell ⟨w.heap.size, 0, none⟩ (.slice A n c)).setCell ⟨w.heap.size, 1, none⟩ (.slice B m1 d)).setCell ⟨w.heap.size, 2, none⟩ (.slice U nu cu)).setCell ⟨w.heap.size, 3, none⟩ (.slice R np cp)).setCell ⟨w.heap.size, 4, none⟩ (.slice L nl cl)).setCell ⟨w.heap.size + 1, 0, none⟩ (.int .i64 j.id)).setCell ⟨w.heap.size + 1, 1, none⟩ (.int .i64 j.pr)).setCell ⟨w.heap.size + 1, 2, none⟩ (.int .i64 j.nn)).setCell ⟨w.heap.size + 1, 3, none⟩ (.int .i64 j.na)).setCell ⟨w.heap.size + 1, 4, none⟩ (.int .i64 j.nb)).setCell ⟨w.heap.size + 1, 5, none⟩ (.int .i64 j.nc)).setCell ⟨w.heap.size + 1, 6, none⟩ (.int .i64 j.la)).setCell ⟨w.heap.size + 1, 7, none⟩ (.int .i64 j.lb)).setCell ⟨w.heap.size + 1, 8, none⟩ (.int .i64 j.lc)).setCell ⟨w.heap.size + 1, 9, none⟩ (.int .i64 j.wl)).setCell ⟨w.heap.size + 1, 10, none⟩ (.int .i64 j.lv))) := Lib.hid (Below.setCell (Below.setCell (Below.setCell (Below.setCell (Below.setCell (Below.setCell (Below.setCell (Below.setCell (Below.setCell (Below.setCell (Below.setCell (Below.setCell (Below.setCell (Below.setCell (Below.setCell (Below.setCell T7.out.bel (p := ⟨w.heap.size, 0, none⟩) (by show w.heap.size ≤ w.heap.size; omega) _) (p := ⟨w.heap.size, 1, none⟩) (by show w.heap.size ≤ w.heap.size; omega) _) (p := ⟨w.heap.size, 2, none⟩) (by show w.heap.size ≤ w.heap.size; omega) _) (p := ⟨w.heap.size, 3, none⟩) (by show w.heap.size ≤ w.heap.size; omega) _) (p := ⟨w.heap.size, 4, none⟩) (by show w.heap.size ≤ w.heap.size; omega) _) (p := ⟨w.heap.size + 1, 0, none⟩) (by show w.heap.size ≤ w.heap.size + 1; omega) _) (p := ⟨w.heap.size + 1, 1, none⟩) (by show w.heap.size ≤ w.heap.size + 1; omega) _) (p := ⟨w.heap.size + 1, 2, none⟩) (by show w.heap.size ≤ w.heap.size + 1; omega) _) (p := ⟨w.heap.size + 1, 3, none⟩) (by show w.heap.size ≤ w.heap.size + 1; omega) _) (p := ⟨w.heap.size + 1, 4, none⟩) (by show w.heap.size ≤ w.heap.size + 1; omega) _) (p := ⟨w.heap.size + 1, 5, none⟩) (by show w.heap.size ≤ w.heap.size + 1; omega) _) (p := ⟨w.heap.size + 1, 6, none⟩) (by show w.heap.size ≤ w.heap.size + 1; omega) _) (p := ⟨w.heap.size + 1, 7, none⟩) (by show w.heap.size ≤ w.heap.size + 1; omega) _) (p := ⟨w.heap.size + 1, 8, none⟩) (by show w.heap.size ≤ w.heap.size + 1; omega) _) (p := ⟨w.heap.size + 1, 9, none⟩) (by show w.heap.size ≤ w.heap.size + 1; omega) _) (p := ⟨w.heap.size + 1, 10, none⟩) (by show w.heap.size ≤ w.heap.size + 1; omega) _)
    have RO := Lib.hid ((T7.out.own.fr FF.out (fun k hk e => by have := (room_rng2 T7.out.own k hk).1; omega)).mono (lo' := w.heap.size) (by omega))
    have ZB : Hid (((((((((((((((((w7.setCell ⟨w.heap.size, 0, none⟩ (.slice A n c)).setCell ⟨w.heap.size, 1, none⟩ (.slice B m1 d)).setCell ⟨w.heap.size, 2, none⟩ (.slice U nu cu)).setCell ⟨w.heap.size, 3, none⟩ (.slice R np cp)).setCell ⟨w.heap.size, 4, none⟩ (.slice L nl cl)).setCell ⟨w.heap.size + 1, 0, none⟩ (.int .i64 j.id)).setCell ⟨w.heap.size + 1, 1, none⟩ (.int .i64 j.pr)).setCell ⟨w.heap.size + 1, 2, none⟩ (.int .i64 j.nn)).setCell ⟨w.heap.size + 1, 3, none⟩ (.int .i64 j.na)).setCell ⟨w.heap.size + 1, 4, none⟩ (.int .i64 j.nb)).setCell ⟨w.heap.size + 1, 5, none⟩ (.int .i64 j.nc)).setCell ⟨w.heap.size + 1, 6, none⟩ (.int .i64 j.la)).setCell ⟨w.heap.size + 1, 7, none⟩ (.int .i64 j.lb)).setCell ⟨w.heap.size + 1, 8, none⟩ (.int .i64 j.lc)).setCell ⟨w.heap.size + 1, 9, none⟩ (.int .i64 j.wl)).setCell ⟨w.heap.size + 1, 10, none⟩ (.int .i64 j.lv)).heap[w.heap.size]? = some (.cells #[.slice A n c, .slice B m1 d, .slice U nu cu, .slice R np cp, .slice L nl cl] 33 (0, 0))) := Lib.hid (bx_set11 (set5 T7.out.z0) (by omega) _ _ _ _ _ _ _ _ _ _ _)
    have YB : Hid (((((((((((((((((w7.setCell ⟨w.heap.size, 0, none⟩ (.slice A n c)).setCell ⟨w.heap.size, 1, none⟩ (.slice B m1 d)).setCell ⟨w.heap.size, 2, none⟩ (.slice U nu cu)).setCell ⟨w.heap.size, 3, none⟩ (.slice R np cp)).setCell ⟨w.heap.size, 4, none⟩ (.slice L nl cl)).setCell ⟨w.heap.size + 1, 0, none⟩ (.int .i64 j.id)).setCell ⟨w.heap.size + 1, 1, none⟩ (.int .i64 j.pr)).setCell ⟨w.heap.size + 1, 2, none⟩ (.int .i64 j.nn)).setCell ⟨w.heap.size + 1, 3, none⟩ (.int .i64 j.na)).setCell ⟨w.heap.size + 1, 4, none⟩ (.int .i64 j.nb)).setCell ⟨w.heap.size + 1, 5, none⟩ (.int .i64 j.nc)).setCell ⟨w.heap.size + 1, 6, none⟩ (.int .i64 j.la)).setCell ⟨w.heap.size + 1, 7, none⟩ (.int .i64 j.lb)).setCell ⟨w.heap.size + 1, 8, none⟩ (.int .i64 j.lc)).setCell ⟨w.heap.size + 1, 9, none⟩ (.int .i64 j.wl)).setCell ⟨w.heap.size + 1, 10, none⟩ (.int .i64 j.lv)).heap[w.heap.size + 1]? = some (.cells #[.int .i64 j.id, .int .i64 j.pr, .int .i64 j.nn, .int .i64 j.na, .int .i64 j.nb, .int .i64 j.nc, .int .i64 j.la, .int .i64 j.lb, .int .i64 j.lc, .int .i64 j.wl, .int .i64 j.lv] 37 (0, 0))) := Lib.hid (set11 (bx_set5 T7.out.z1 (by omega) _ _ _ _ _))
    clear FF
    go_region_held3 (fun w' => w'.cell? ⟨br, 0, none⟩ = some (.slice A n c) ∧ w'.cell? ⟨br, 1, none⟩ = some (.slice B m1 d) ∧ w'.cell? ⟨br, 2, none⟩ = some (.slice U nu cu) ∧ w'.cell? ⟨br, 3, none⟩ = some (.slice R np cp) ∧ w'.cell? ⟨br, 4, none⟩ = some (.slice L nl cl) ∧ w'.cell? ⟨bj, 0, none⟩ = some (.int .i64 j.id) ∧ w'.cell? ⟨bj, 1, none⟩ = some (.int .i64 j.pr) ∧ w'.cell? ⟨bj, 2, none⟩ = some (.int .i64 j.nn) ∧ w'.cell? ⟨bj, 3, none⟩ = some (.int .i64 j.na) ∧ w'.cell? ⟨bj, 4, none⟩ = some (.int .i64 j.nb) ∧ w'.cell? ⟨bj, 5, none⟩ = some (.int .i64 j.nc) ∧ w'.cell? ⟨bj, 6, none⟩ = some (.int .i64 j.la) ∧ w'.cell? ⟨bj, 7, none⟩ = some (.int .i64 j.lb) ∧ w'.cell? ⟨bj, 8, none⟩ = some (.int .i64 j.lc) ∧ w'.cell? ⟨bj, 9, none⟩ = some (.int .i64 j.wl) ∧ w'.cell? ⟨bj, 10, none⟩ = some (.int .i64 j.lv)) (simp [go_sem, *, World.cell?_alloc_some, World.cell?_setCell_far, Nat.lt_add_right, Nat.ne_of_gt]) (fail)
    clear k0 k1 k2 k3 k4 kf kl v0 v1 v2 v3 v4 v5 v6 v7 v8 v9 v10 vf vl z0 z1 z2 z3 z4 zf zl y0 y1 y2 y3 y4 y5 y6 y7 y8 y9 y10 yf yl
    generalize ((((((((((((((((w7.setCell ⟨w.heap.size, 0, none⟩ (.slice A n c)).setCell ⟨w.heap.size, 1, none⟩ (.slice B m1 d)).setCell ⟨w.heap.size, 2, none⟩ (.slice U nu cu)).setCell ⟨w.heap.size, 3, none⟩ (.slice R np cp)).setCell ⟨w.heap.size, 4, none⟩ (.slice L nl cl)).setCell ⟨w.heap.size + 1, 0, none⟩ (.int .i64 j.id)).setCell ⟨w.heap.size + 1, 1, none⟩ (.int .i64 j.pr)).setCell ⟨w.heap.size + 1, 2, none⟩ (.int .i64 j.nn)).setCell ⟨w.heap.size + 1, 3, none⟩ (.int .i64 j.na)).setCell ⟨w.heap.size + 1, 4, none⟩ (.int .i64 j.nb)).setCell ⟨w.heap.size + 1, 5, none⟩ (.int .i64 j.nc)).setCell ⟨w.heap.size + 1, 6, none⟩ (.int .i64 j.la)).setCell ⟨w.heap.size + 1, 7, none⟩ (.int .i64 j.lb)).setCell ⟨w.heap.size + 1, 8, none⟩ (.int .i64 j.lc)).setCell ⟨w.heap.size + 1, 9, none⟩ (.int .i64 j.wl)).setCell ⟨w.heap.size + 1, 10, none⟩ (.int .i64 j.lv)) = wz at *
    have z0 := zAc ZB.out 0 rfl
    have z1 := zAc ZB.out 1 rfl
    have z2 := zAc ZB.out 2 rfl
    have z3 := zAc ZB.out 3 rfl
    have z4 := zAc ZB.out 4 rfl
    have zf := zAh ZB.out
    have zl := zAi ZB.out
    simp only [List.getElem_toArray, List.getElem_cons_zero, List.getElem_cons_succ] at z0 z1 z2 z3 z4
    have y0 := zAc YB.out 0 rfl
    have y1 := zAc YB.out 1 rfl
    have y2 := zAc YB.out 2 rfl
    have y3 := zAc YB.out 3 rfl
    have y4 := zAc YB.out 4 rfl
    have y5 := zAc YB.out 5 rfl
    have y6 := zAc YB.out 6 rfl
    have y7 := zAc YB.out 7 rfl
    have y8 := zAc YB.out 8 rfl
    have y9 := zAc YB.out 9 rfl
    have y10 := zAc YB.out 10 rfl
    have yf := zAh YB.out
    have yl := zAi YB.out
    simp only [List.getElem_toArray, List.getElem_cons_zero, List.getElem_cons_succ] at y0 y1 y2 y3 y4 y5 y6 y7 y8 y9 y10
    go_wp2
    (try go_light)
    refine bodyPost_ret (v := .tuple #[.agg #[.slice A n c, .slice B m1 d, .slice U nu cu, .slice R np cp, .slice L nl cl], .agg #[.int .i64 j.id, .int .i64 j.pr, .int .i64 j.nn, .int .i64 j.na, .int .i64 j.nb, .int .i64 j.nc, .int .i64 j.la, .int .i64 j.lb, .int .i64 j.lc, .int .i64 j.wl, .int .i64 j.lv], .int .i64 (x7)]) (by simp [results, Tryz.results16, go_sem, z0, z1, z2, z3, z4, zf, y0, y1, y2, y3, y4, y5, y6, y7, y8, y9, y10, yf]) rfl ?_
    exact ⟨⟨A, B, U, R, L, n, m1, nu, np, nl, c, d, cu, cp, cl⟩, j, x7, rfl, ⟨r, FW.out, xs, RO.out.bel ((Below.refl _ wz).drew)⟩, BB.out.drew⟩
  by_cases h1 : x6 = 1
  · subst h1
    go_wp2_with fail
    refine (zAs g 30 _ T6.out.cur (by omega) (by omega)).mono ?_
    rintro e w7 ⟨x7, rfl, p7, q7, cu7, fr7⟩
    have T7 := Lib.hid (T6.out.cs fr7 cu7)
    clear cu7 fr7 T6
    go_upto_region 10 with fail
    have k0 := zAc T7.out.rb 0 rfl
    have k1 := zAc T7.out.rb 1 rfl
    have k2 := zAc T7.out.rb 2 rfl
    have k3 := zAc T7.out.rb 3 rfl
    have k4 := zAc T7.out.rb 4 rfl
    have kf := zAh T7.out.rb
    have kl := zAi T7.out.rb
    simp only [List.getElem_toArray, List.getElem_cons_zero, List.getElem_cons_succ] at k0 k1 k2 k3 k4
    have v0 := zAc T7.out.jb 0 rfl
    have v1 := zAc T7.out.jb 1 rfl
    have v2 := zAc T7.out.jb 2 rfl
    have v3 := zAc T7.out.jb 3 rfl
    have v4 := zAc T7.out.jb 4 rfl
    have v5 := zAc T7.out.jb 5 rfl
    have v6 := zAc T7.out.jb 6 rfl
    have v7 := zAc T7.out.jb 7 rfl
    have v8 := zAc T7.out.jb 8 rfl
    have v9 := zAc T7.out.jb 9 rfl
    have v10 := zAc T7.out.jb 10 rfl
    have vf := zAh T7.out.jb
    have vl := zAi T7.out.jb
    simp only [List.getElem_toArray, List.getElem_cons_zero, List.getElem_cons_succ] at v0 v1 v2 v3 v4 v5 v6 v7 v8 v9 v10
    have z0 := zAc T7.out.z0 0 rfl
    have z1 := zAc T7.out.z0 1 rfl
    have z2 := zAc T7.out.z0 2 rfl
    have z3 := zAc T7.out.z0 3 rfl
    have z4 := zAc T7.out.z0 4 rfl
    have zf := zAh T7.out.z0
    have zl := zAi T7.out.z0
    simp only [List.getElem_toArray, List.getElem_cons_zero, List.getElem_cons_succ] at z0 z1 z2 z3 z4
    have y0 := zAc T7.out.z1 0 rfl
    have y1 := zAc T7.out.z1 1 rfl
    have y2 := zAc T7.out.z1 2 rfl
    have y3 := zAc T7.out.z1 3 rfl
    have y4 := zAc T7.out.z1 4 rfl
    have y5 := zAc T7.out.z1 5 rfl
    have y6 := zAc T7.out.z1 6 rfl
    have y7 := zAc T7.out.z1 7 rfl
    have y8 := zAc T7.out.z1 8 rfl
    have y9 := zAc T7.out.z1 9 rfl
    have y10 := zAc T7.out.z1 10 rfl
    have yf := zAh T7.out.z1
    have yl := zAi T7.out.z1
    simp only [List.getElem_toArray, List.getElem_cons_zero, List.getElem_cons_succ] at y0 y1 y2 y3 y4 y5 y6 y7 y8 y9 y10
    have hh := T7.out.hb
    have n1 : w.heap.size ≠ br := by omega
    have n2 : w.heap.size ≠ bj := by omega
    have n3 : w.heap.size + 1 ≠ br := by omega
    have n4 : w.heap.size + 1 ≠ bj := by omega
    have n5 : br ≠ w.heap.size := by omega
    have n6 : bj ≠ w.heap.size := by omega
    have n7 : br ≠ w.heap.size + 1 := by omega
    have n8 : bj ≠ w.heap.size + 1 := by omega
    have FF := Lib.hid (((((((((((((((((Fr.refl (fun k => k < w.heap.size + 2) w7).setCell (p := ⟨w.heap.size, 0, none⟩) (Or.inl (by show w.heap.size < w.heap.size + 2; omega)) (.slice A n c)).setCell (p := ⟨w.heap.size, 1, none⟩) (Or.inl (by show w.heap.size < w.heap.size + 2; omega)) (.slice B m1 d)).setCell (p := ⟨w.heap.size, 2, none⟩) (Or.inl (by show w.heap.size < w.heap.size + 2; omega)) (.slice U nu cu)).setCell (p := ⟨w.heap.size, 3, none⟩) (Or.inl (by show w.heap.size < w.heap.size + 2; omega)) (.slice R np cp)).setCell (p := ⟨w.heap.size, 4, none⟩) (Or.inl (by show w.heap.size < w.heap.size + 2; omega)) (.slice L nl cl)).setCell (p := ⟨w.heap.size + 1, 0, none⟩) (Or.inl (by show w.heap.size + 1 < w.heap.size + 2; omega)) (.int .i64 j.id)).setCell (p := ⟨w.heap.size + 1, 1, none⟩) (Or.inl (by show w.heap.size + 1 < w.heap.size + 2; omega)) (.int .i64 j.pr)).setCell (p := ⟨w.heap.size + 1, 2, none⟩) (Or.inl (by show w.heap.size + 1 < w.heap.size + 2; omega)) (.int .i64 j.nn)).setCell (p := ⟨w.heap.size + 1, 3, none⟩) (Or.inl (by show w.heap.size + 1 < w.heap.size + 2; omega)) (.int .i64 j.na)).setCell (p := ⟨w.heap.size + 1, 4, none⟩) (Or.inl (by show w.heap.size + 1 < w.heap.size + 2; omega)) (.int .i64 j.nb)).setCell (p := ⟨w.heap.size + 1, 5, none⟩) (Or.inl (by show w.heap.size + 1 < w.heap.size + 2; omega)) (.int .i64 j.nc)).setCell (p := ⟨w.heap.size + 1, 6, none⟩) (Or.inl (by show w.heap.size + 1 < w.heap.size + 2; omega)) (.int .i64 j.la)).setCell (p := ⟨w.heap.size + 1, 7, none⟩) (Or.inl (by show w.heap.size + 1 < w.heap.size + 2; omega)) (.int .i64 j.lb)).setCell (p := ⟨w.heap.size + 1, 8, none⟩) (Or.inl (by show w.heap.size + 1 < w.heap.size + 2; omega)) (.int .i64 j.lc)).setCell (p := ⟨w.heap.size + 1, 9, none⟩) (Or.inl (by show w.heap.size + 1 < w.heap.size + 2; omega)) (.int .i64 j.wl)).setCell (p := ⟨w.heap.size + 1, 10, none⟩) (Or.inl (by show w.heap.size + 1 < w.heap.size + 2; omega)) (.int .i64 j.lv))
    have BB : Hid (Below w.heap.size w ((((((((((((((((w7.setCell ⟨w.heap.size, 0, none⟩ (.slice A n c)).setCell ⟨w.heap.size, 1, none⟩ (.slice B m1 d)).setCell ⟨w.heap.size, 2, none⟩ (.slice U nu cu)).setCell ⟨w.heap.size, 3, none⟩ (.slice R np cp)).setCell ⟨w.heap.size, 4, none⟩ (.slice L nl cl)).setCell ⟨w.heap.size + 1, 0, none⟩ (.int .i64 j.id)).setCell ⟨w.heap.size + 1, 1, none⟩ (.int .i64 j.pr)).setCell ⟨w.heap.size + 1, 2, none⟩ (.int .i64 j.nn)).setCell ⟨w.heap.size + 1, 3, none⟩ (.int .i64 j.na)).setCell ⟨w.heap.size + 1, 4, none⟩ (.int .i64 j.nb)).setCell ⟨w.heap.size + 1, 5, none⟩ (.int .i64 j.nc)).setCell ⟨w.heap.size + 1, 6, none⟩ (.int .i64 j.la)).setCell ⟨w.heap.size + 1, 7, none⟩ (.int .i64 j.lb)).setCell ⟨w.heap.size + 1, 8, none⟩ (.int .i64 j.lc)).setCell ⟨w.heap.size + 1, 9, none⟩ (.int .i64 j.wl)).setCell ⟨w.heap.size + 1, 10, none⟩ (.int .i64 j.lv))) := Lib.hid (Below.setCell (Below.setCell (Below.setCell (Below.setCell (Below.setCell (Below.setCell (Below.setCell (Below.setCell (Below.setCell (Below.setCell (Below.setCell (Below.setCell (Below.setCell (Below.setCell (Below.setCell (Below.setCell T7.out.bel (p := ⟨w.heap.size, 0, none⟩) (by show w.heap.size ≤ w.heap.size; omega) _) (p := ⟨w.heap.size, 1, none⟩) (by show w.heap.size ≤ w.heap.size; omega) _) (p := ⟨w.heap.size, 2, none⟩) (by show w.heap.size ≤ w.heap.size; omega) _) (p := ⟨w.heap.size, 3, none⟩) (by show w.heap.size ≤ w.heap.size; omega) _) (p := ⟨w.heap.size, 4, none⟩) (by show w.heap.size ≤ w.heap.size; omega) _) (p := ⟨w.heap.size + 1, 0, none⟩) (by show w.heap.size ≤ w.heap.size + 1; omega) _) (p := ⟨w.heap.size + 1, 1, none⟩) (by show w.heap.size ≤ w.heap.size + 1; omega) _) (p := ⟨w.heap.size + 1, 2, none⟩) (by show w.heap.size ≤ w.heap.size + 1; omega) _) (p := ⟨w.heap.size + 1, 3, none⟩) (by show w.heap.size ≤ w.heap.size + 1; omega) _) (p := ⟨w.heap.size + 1, 4, none⟩) (by show w.heap.size ≤ w.heap.size + 1; omega) _) (p := ⟨w.heap.size + 1, 5, none⟩) (by show w.heap.size ≤ w.heap.size + 1; omega) _) (p := ⟨w.heap.size + 1, 6, none⟩) (by show w.heap.size ≤ w.heap.size + 1; omega) _) (p := ⟨w.heap.size + 1, 7, none⟩) (by show w.heap.size ≤ w.heap.size + 1; omega) _) (p := ⟨w.heap.size + 1, 8, none⟩) (by show w.heap.size ≤ w.heap.size + 1; omega) _) (p := ⟨w.heap.size + 1, 9, none⟩) (by show w.heap.size ≤ w.heap.size + 1; omega) _) (p := ⟨w.heap.size + 1, 10, none⟩) (by show w.heap.size ≤ w.heap.size + 1; omega) _)
    have RO := Lib.hid ((T7.out.own.fr FF.out (fun k hk e => by have := (room_rng2 T7.out.own k hk).1; omega)).mono (lo' := w.heap.size) (by omega))
    have ZB : Hid (((((((((((((((((w7.setCell ⟨w.heap.size, 0, none⟩ (.slice A n c)).setCell ⟨w.heap.size, 1, none⟩ (.slice B m1 d)).setCell ⟨w.heap.size, 2, none⟩ (.slice U nu cu)).setCell ⟨w.heap.size, 3, none⟩ (.slice R np cp)).setCell ⟨w.heap.size, 4, none⟩ (.slice L nl cl)).setCell ⟨w.heap.size + 1, 0, none⟩ (.int .i64 j.id)).setCell ⟨w.heap.size + 1, 1, none⟩ (.int .i64 j.pr)).setCell ⟨w.heap.size + 1, 2, none⟩ (.int .i64 j.nn)).setCell ⟨w.heap.size + 1, 3, none⟩ (.int .i64 j.na)).setCell ⟨w.heap.size + 1, 4, none⟩ (.int .i64 j.nb)).setCell ⟨w.heap.size + 1, 5, none⟩ (.int .i64 j.nc)).setCell ⟨w.heap.size + 1, 6, none⟩ (.int .i64 j.la)).setCell ⟨w.heap.size + 1, 7, none⟩ (.int .i64 j.lb)).setCell ⟨w.heap.size + 1, 8, none⟩ (.int .i64 j.lc)).setCell ⟨w.heap.size + 1, 9, none⟩ (.int .i64 j.wl)).setCell ⟨w.heap.size + 1, 10, none⟩ (.int .i64 j.lv)).heap[w.heap.size]? = some (.cells #[.slice A n c, .slice B m1 d, .slice U nu cu, .slice R np cp, .slice L nl cl] 33 (0, 0))) := Lib.hid (bx_set11 (set5 T7.out.z0) (by omega) _ _ _ _ _ _ _ _ _ _ _)
    have YB : Hid (((((((((((((((((w7.setCell ⟨w.heap.size, 0, none⟩ (.slice A n c)).setCell ⟨w.heap.size, 1, none⟩ (.slice B m1 d)).setCell ⟨w.heap.size, 2, none⟩ (.slice U nu cu)).setCell ⟨w.heap.size, 3, none⟩ (.slice R np cp)).setCell ⟨w.heap.size, 4, none⟩ (.slice L nl cl)).setCell ⟨w.heap.size + 1, 0, none⟩ (.int .i64 j.id)).setCell ⟨w.heap.size + 1, 1, none⟩ (.int .i64 j.pr)).setCell ⟨w.heap.size + 1, 2, none⟩ (.int .i64 j.nn)).setCell ⟨w.heap.size + 1, 3, none⟩ (.int .i64 j.na)).setCell ⟨w.heap.size + 1, 4, none⟩ (.int .i64 j.nb)).setCell ⟨w.heap.size + 1, 5, none⟩ (.int .i64 j.nc)).setCell ⟨w.heap.size + 1, 6, none⟩ (.int .i64 j.la)).setCell ⟨w.heap.size + 1, 7, none⟩ (.int .i64 j.lb)).setCell ⟨w.heap.size + 1, 8, none⟩ (.int .i64 j.lc)).setCell ⟨w.heap.size + 1, 9, none⟩ (.int .i64 j.wl)).setCell ⟨w.heap.size + 1, 10, none⟩ (.int .i64 j.lv)).heap[w.heap.size + 1]? = some (.cells #[.int .i64 j.id, .int .i64 j.pr, .int .i64 j.nn, .int .i64 j.na, .int .i64 j.nb, .int .i64 j.nc, .int .i64 j.la, .int .i64 j.lb, .int .i64 j.lc, .int .i64 j.wl, .int .i64 j.lv] 37 (0, 0))) := Lib.hid (set11 (bx_set5 T7.out.z1 (by omega) _ _ _ _ _))
    clear FF
    go_region_held3 (fun w' => w'.cell? ⟨br, 0, none⟩ = some (.slice A n c) ∧ w'.cell? ⟨br, 1, none⟩ = some (.slice B m1 d) ∧ w'.cell? ⟨br, 2, none⟩ = some (.slice U nu cu) ∧ w'.cell? ⟨br, 3, none⟩ = some (.slice R np cp) ∧ w'.cell? ⟨br, 4, none⟩ = some (.slice L nl cl) ∧ w'.cell? ⟨bj, 0, none⟩ = some (.int .i64 j.id) ∧ w'.cell? ⟨bj, 1, none⟩ = some (.int .i64 j.pr) ∧ w'.cell? ⟨bj, 2, none⟩ = some (.int .i64 j.nn) ∧ w'.cell? ⟨bj, 3, none⟩ = some (.int .i64 j.na) ∧ w'.cell? ⟨bj, 4, none⟩ = some (.int .i64 j.nb) ∧ w'.cell? ⟨bj, 5, none⟩ = some (.int .i64 j.nc) ∧ w'.cell? ⟨bj, 6, none⟩ = some (.int .i64 j.la) ∧ w'.cell? ⟨bj, 7, none⟩ = some (.int .i64 j.lb) ∧ w'.cell? ⟨bj, 8, none⟩ = some (.int .i64 j.lc) ∧ w'.cell? ⟨bj, 9, none⟩ = some (.int .i64 j.wl) ∧ w'.cell? ⟨bj, 10, none⟩ = some (.int .i64 j.lv)) (simp [go_sem, *, World.cell?_alloc_some, World.cell?_setCell_far, Nat.lt_add_right, Nat.ne_of_gt]) (fail)
    clear k0 k1 k2 k3 k4 kf kl v0 v1 v2 v3 v4 v5 v6 v7 v8 v9 v10 vf vl z0 z1 z2 z3 z4 zf zl y0 y1 y2 y3 y4 y5 y6 y7 y8 y9 y10 yf yl
    generalize ((((((((((((((((w7.setCell ⟨w.heap.size, 0, none⟩ (.slice A n c)).setCell ⟨w.heap.size, 1, none⟩ (.slice B m1 d)).setCell ⟨w.heap.size, 2, none⟩ (.slice U nu cu)).setCell ⟨w.heap.size, 3, none⟩ (.slice R np cp)).setCell ⟨w.heap.size, 4, none⟩ (.slice L nl cl)).setCell ⟨w.heap.size + 1, 0, none⟩ (.int .i64 j.id)).setCell ⟨w.heap.size + 1, 1, none⟩ (.int .i64 j.pr)).setCell ⟨w.heap.size + 1, 2, none⟩ (.int .i64 j.nn)).setCell ⟨w.heap.size + 1, 3, none⟩ (.int .i64 j.na)).setCell ⟨w.heap.size + 1, 4, none⟩ (.int .i64 j.nb)).setCell ⟨w.heap.size + 1, 5, none⟩ (.int .i64 j.nc)).setCell ⟨w.heap.size + 1, 6, none⟩ (.int .i64 j.la)).setCell ⟨w.heap.size + 1, 7, none⟩ (.int .i64 j.lb)).setCell ⟨w.heap.size + 1, 8, none⟩ (.int .i64 j.lc)).setCell ⟨w.heap.size + 1, 9, none⟩ (.int .i64 j.wl)).setCell ⟨w.heap.size + 1, 10, none⟩ (.int .i64 j.lv)) = wz at *
    have z0 := zAc ZB.out 0 rfl
    have z1 := zAc ZB.out 1 rfl
    have z2 := zAc ZB.out 2 rfl
    have z3 := zAc ZB.out 3 rfl
    have z4 := zAc ZB.out 4 rfl
    have zf := zAh ZB.out
    have zl := zAi ZB.out
    simp only [List.getElem_toArray, List.getElem_cons_zero, List.getElem_cons_succ] at z0 z1 z2 z3 z4
    have y0 := zAc YB.out 0 rfl
    have y1 := zAc YB.out 1 rfl
    have y2 := zAc YB.out 2 rfl
    have y3 := zAc YB.out 3 rfl
    have y4 := zAc YB.out 4 rfl
    have y5 := zAc YB.out 5 rfl
    have y6 := zAc YB.out 6 rfl
    have y7 := zAc YB.out 7 rfl
    have y8 := zAc YB.out 8 rfl
    have y9 := zAc YB.out 9 rfl
    have y10 := zAc YB.out 10 rfl
    have yf := zAh YB.out
    have yl := zAi YB.out
    simp only [List.getElem_toArray, List.getElem_cons_zero, List.getElem_cons_succ] at y0 y1 y2 y3 y4 y5 y6 y7 y8 y9 y10
    go_wp2
    (try go_light)
    refine bodyPost_ret (v := .tuple #[.agg #[.slice A n c, .slice B m1 d, .slice U nu cu, .slice R np cp, .slice L nl cl], .agg #[.int .i64 j.id, .int .i64 j.pr, .int .i64 j.nn, .int .i64 j.na, .int .i64 j.nb, .int .i64 j.nc, .int .i64 j.la, .int .i64 j.lb, .int .i64 j.lc, .int .i64 j.wl, .int .i64 j.lv], .int .i64 (1000000000 - x7)]) (by simp [results, Tryz.results16, go_sem, z0, z1, z2, z3, z4, zf, y0, y1, y2, y3, y4, y5, y6, y7, y8, y9, y10, yf]) rfl ?_
    exact ⟨⟨A, B, U, R, L, n, m1, nu, np, nl, c, d, cu, cp, cl⟩, j, (1000000000 - x7), rfl, ⟨r, FW.out, xs, RO.out.bel ((Below.refl _ wz).drew)⟩, BB.out.drew⟩
  go_upto_region 10 with fail
  have k0 := zAc T6.out.rb 0 rfl
  have k1 := zAc T6.out.rb 1 rfl
  have k2 := zAc T6.out.rb 2 rfl
  have k3 := zAc T6.out.rb 3 rfl
  have k4 := zAc T6.out.rb 4 rfl
  have kf := zAh T6.out.rb
  have kl := zAi T6.out.rb
  simp only [List.getElem_toArray, List.getElem_cons_zero, List.getElem_cons_succ] at k0 k1 k2 k3 k4
  have v0 := zAc T6.out.jb 0 rfl
  have v1 := zAc T6.out.jb 1 rfl
  have v2 := zAc T6.out.jb 2 rfl
  have v3 := zAc T6.out.jb 3 rfl
  have v4 := zAc T6.out.jb 4 rfl
  have v5 := zAc T6.out.jb 5 rfl
  have v6 := zAc T6.out.jb 6 rfl
  have v7 := zAc T6.out.jb 7 rfl
  have v8 := zAc T6.out.jb 8 rfl
  have v9 := zAc T6.out.jb 9 rfl
  have v10 := zAc T6.out.jb 10 rfl
  have vf := zAh T6.out.jb
  have vl := zAi T6.out.jb
  simp only [List.getElem_toArray, List.getElem_cons_zero, List.getElem_cons_succ] at v0 v1 v2 v3 v4 v5 v6 v7 v8 v9 v10
  have z0 := zAc T6.out.z0 0 rfl
  have z1 := zAc T6.out.z0 1 rfl
  have z2 := zAc T6.out.z0 2 rfl
  have z3 := zAc T6.out.z0 3 rfl
  have z4 := zAc T6.out.z0 4 rfl
  have zf := zAh T6.out.z0
  have zl := zAi T6.out.z0
  simp only [List.getElem_toArray, List.getElem_cons_zero, List.getElem_cons_succ] at z0 z1 z2 z3 z4
  have y0 := zAc T6.out.z1 0 rfl
  have y1 := zAc T6.out.z1 1 rfl
  have y2 := zAc T6.out.z1 2 rfl
  have y3 := zAc T6.out.z1 3 rfl
  have y4 := zAc T6.out.z1 4 rfl
  have y5 := zAc T6.out.z1 5 rfl
  have y6 := zAc T6.out.z1 6 rfl
  have y7 := zAc T6.out.z1 7 rfl
  have y8 := zAc T6.out.z1 8 rfl
  have y9 := zAc T6.out.z1 9 rfl
  have y10 := zAc T6.out.z1 10 rfl
  have yf := zAh T6.out.z1
  have yl := zAi T6.out.z1
  simp only [List.getElem_toArray, List.getElem_cons_zero, List.getElem_cons_succ] at y0 y1 y2 y3 y4 y5 y6 y7 y8 y9 y10
  have hh := T6.out.hb
  have n1 : w.heap.size ≠ br := by omega
  have n2 : w.heap.size ≠ bj := by omega
  have n3 : w.heap.size + 1 ≠ br := by omega
  have n4 : w.heap.size + 1 ≠ bj := by omega
  have n5 : br ≠ w.heap.size := by omega
  have n6 : bj ≠ w.heap.size := by omega
  have n7 : br ≠ w.heap.size + 1 := by omega
  have n8 : bj ≠ w.heap.size + 1 := by omega
  have FF := Lib.hid (((((((((((((((((Fr.refl (fun k => k < w.heap.size + 2) w6).setCell (p := ⟨w.heap.size, 0, none⟩) (Or.inl (by show w.heap.size < w.heap.size + 2; omega)) (.slice A n c)).setCell (p := ⟨w.heap.size, 1, none⟩) (Or.inl (by show w.heap.size < w.heap.size + 2; omega)) (.slice B m1 d)).setCell (p := ⟨w.heap.size, 2, none⟩) (Or.inl (by show w.heap.size < w.heap.size + 2; omega)) (.slice U nu cu)).setCell (p := ⟨w.heap.size, 3, none⟩) (Or.inl (by show w.heap.size < w.heap.size + 2; omega)) (.slice R np cp)).setCell (p := ⟨w.heap.size, 4, none⟩) (Or.inl (by show w.heap.size < w.heap.size + 2; omega)) (.slice L nl cl)).setCell (p := ⟨w.heap.size + 1, 0, none⟩) (Or.inl (by show w.heap.size + 1 < w.heap.size + 2; omega)) (.int .i64 j.id)).setCell (p := ⟨w.heap.size + 1, 1, none⟩) (Or.inl (by show w.heap.size + 1 < w.heap.size + 2; omega)) (.int .i64 j.pr)).setCell (p := ⟨w.heap.size + 1, 2, none⟩) (Or.inl (by show w.heap.size + 1 < w.heap.size + 2; omega)) (.int .i64 j.nn)).setCell (p := ⟨w.heap.size + 1, 3, none⟩) (Or.inl (by show w.heap.size + 1 < w.heap.size + 2; omega)) (.int .i64 j.na)).setCell (p := ⟨w.heap.size + 1, 4, none⟩) (Or.inl (by show w.heap.size + 1 < w.heap.size + 2; omega)) (.int .i64 j.nb)).setCell (p := ⟨w.heap.size + 1, 5, none⟩) (Or.inl (by show w.heap.size + 1 < w.heap.size + 2; omega)) (.int .i64 j.nc)).setCell (p := ⟨w.heap.size + 1, 6, none⟩) (Or.inl (by show w.heap.size + 1 < w.heap.size + 2; omega)) (.int .i64 j.la)).setCell (p := ⟨w.heap.size + 1, 7, none⟩) (Or.inl (by show w.heap.size + 1 < w.heap.size + 2; omega)) (.int .i64 j.lb)).setCell (p := ⟨w.heap.size + 1, 8, none⟩) (Or.inl (by show w.heap.size + 1 < w.heap.size + 2; omega)) (.int .i64 j.lc)).setCell (p := ⟨w.heap.size + 1, 9, none⟩) (Or.inl (by show w.heap.size + 1 < w.heap.size + 2; omega)) (.int .i64 j.wl)).setCell (p := ⟨w.heap.size + 1, 10, none⟩) (Or.inl (by show w.heap.size + 1 < w.heap.size + 2; omega)) (.int .i64 j.lv))
  have BB : Hid (Below w.heap.size w ((((((((((((((((w6.setCell ⟨w.heap.size, 0, none⟩ (.slice A n c)).setCell ⟨w.heap.size, 1, none⟩ (.slice B m1 d)).setCell ⟨w.heap.size, 2, none⟩ (.slice U nu cu)).setCell ⟨w.heap.size, 3, none⟩ (.slice R np cp)).setCell ⟨w.heap.size, 4, none⟩ (.slice L nl cl)).setCell ⟨w.heap.size + 1, 0, none⟩ (.int .i64 j.id)).setCell ⟨w.heap.size + 1, 1, none⟩ (.int .i64 j.pr)).setCell ⟨w.heap.size + 1, 2, none⟩ (.int .i64 j.nn)).setCell ⟨w.heap.size + 1, 3, none⟩ (.int .i64 j.na)).setCell ⟨w.heap.size + 1, 4, none⟩ (.int .i64 j.nb)).setCell ⟨w.heap.size + 1, 5, none⟩ (.int .i64 j.nc)).setCell ⟨w.heap.size + 1, 6, none⟩ (.int .i64 j.la)).setCell ⟨w.heap.size + 1, 7, none⟩ (.int .i64 j.lb)).setCell ⟨w.heap.size + 1, 8, none⟩ (.int .i64 j.lc)).setCell ⟨w.heap.size + 1, 9, none⟩ (.int .i64 j.wl)).setCell ⟨w.heap.size + 1, 10, none⟩ (.int .i64 j.lv))) := Lib.hid (Below.setCell (Below.setCell (Below.setCell (Below.setCell (Below.setCell (Below.setCell (Below.setCell (Below.setCell (Below.setCell (Below.setCell (Below.setCell (Below.setCell (Below.setCell (Below.setCell (Below.setCell (Below.setCell T6.out.bel (p := ⟨w.heap.size, 0, none⟩) (by show w.heap.size ≤ w.heap.size; omega) _) (p := ⟨w.heap.size, 1, none⟩) (by show w.heap.size ≤ w.heap.size; omega) _) (p := ⟨w.heap.size, 2, none⟩) (by show w.heap.size ≤ w.heap.size; omega) _) (p := ⟨w.heap.size, 3, none⟩) (by show w.heap.size ≤ w.heap.size; omega) _) (p := ⟨w.heap.size, 4, none⟩) (by show w.heap.size ≤ w.heap.size; omega) _) (p := ⟨w.heap.size + 1, 0, none⟩) (by show w.heap.size ≤ w.heap.size + 1; omega) _) (p := ⟨w.heap.size + 1, 1, none⟩) (by show w.heap.size ≤ w.heap.size + 1; omega) _) (p := ⟨w.heap.size + 1, 2, none⟩) (by show w.heap.size ≤ w.heap.size + 1; omega) _) (p := ⟨w.heap.size + 1, 3, none⟩) (by show w.heap.size ≤ w.heap.size + 1; omega) _) (p := ⟨w.heap.size + 1, 4, none⟩) (by show w.heap.size ≤ w.heap.size + 1; omega) _) (p := ⟨w.heap.size + 1, 5, none⟩) (by show w.heap.size ≤ w.heap.size + 1; omega) _) (p := ⟨w.heap.size + 1, 6, none⟩) (by show w.heap.size ≤ w.heap.size + 1; omega) _) (p := ⟨w.heap.size + 1, 7, none⟩) (by show w.heap.size ≤ w.heap.size + 1; omega) _) (p := ⟨w.heap.size + 1, 8, none⟩) (by show w.heap.size ≤ w.heap.size + 1; omega) _) (p := ⟨w.heap.size + 1, 9, none⟩) (by show w.heap.size ≤ w.heap.size + 1; omega) _) (p := ⟨w.heap.size + 1, 10, none⟩) (by show w.heap.size ≤ w.heap.size + 1; omega) _)
  have RO := Lib.hid ((T6.out.own.fr FF.out (fun k hk e => by have := (room_rng2 T6.out.own k hk).1; omega)).mono (lo' := w.heap.size) (by omega))
  have ZB : Hid (((((((((((((((((w6.setCell ⟨w.heap.size, 0, none⟩ (.slice A n c)).setCell ⟨w.heap.size, 1, none⟩ (.slice B m1 d)).setCell ⟨w.heap.size, 2, none⟩ (.slice U nu cu)).setCell ⟨w.heap.size, 3, none⟩ (.slice R np cp)).setCell ⟨w.heap.size, 4, none⟩ (.slice L nl cl)).setCell ⟨w.heap.size + 1, 0, none⟩ (.int .i64 j.id)).setCell ⟨w.heap.size + 1, 1, none⟩ (.int .i64 j.pr)).setCell ⟨w.heap.size + 1, 2, none⟩ (.int .i64 j.nn)).setCell ⟨w.heap.size + 1, 3, none⟩ (.int .i64 j.na)).setCell ⟨w.heap.size + 1, 4, none⟩ (.int .i64 j.nb)).setCell ⟨w.heap.size + 1, 5, none⟩ (.int .i64 j.nc)).setCell ⟨w.heap.size + 1, 6, none⟩ (.int .i64 j.la)).setCell ⟨w.heap.size + 1, 7, none⟩ (.int .i64 j.lb)).setCell ⟨w.heap.size + 1, 8, none⟩ (.int .i64 j.lc)).setCell ⟨w.heap.size + 1, 9, none⟩ (.int .i64 j.wl)).setCell ⟨w.heap.size + 1, 10, none⟩ (.int .i64 j.lv)).heap[w.heap.size]? = some (.cells #[.slice A n c, .slice B m1 d, .slice U nu cu, .slice R np cp, .slice L nl cl] 33 (0, 0))) := Lib.hid (bx_set11 (set5 T6.out.z0) (by omega) _ _ _ _ _ _ _ _ _ _ _)
  have YB : Hid (((((((((((((((((w6.setCell ⟨w.heap.size, 0, none⟩ (.slice A n c)).setCell ⟨w.heap.size, 1, none⟩ (.slice B m1 d)).setCell ⟨w.heap.size, 2, none⟩ (.slice U nu cu)).setCell ⟨w.heap.size, 3, none⟩ (.slice R np cp)).setCell ⟨w.heap.size, 4, none⟩ (.slice L nl cl)).setCell ⟨w.heap.size + 1, 0, none⟩ (.int .i64 j.id)).setCell ⟨w.heap.size + 1, 1, none⟩ (.int .i64 j.pr)).setCell ⟨w.heap.size + 1, 2, none⟩ (.int .i64 j.nn)).setCell ⟨w.heap.size + 1, 3, none⟩ (.int .i64 j.na)).setCell ⟨w.heap.size + 1, 4, none⟩ (.int .i64 j.nb)).setCell ⟨w.heap.size + 1, 5, none⟩ (.int .i64 j.nc)).setCell ⟨w.heap.size + 1, 6, none⟩ (.int .i64 j.la)).setCell ⟨w.heap.size + 1, 7, none⟩ (.int .i64 j.lb)).setCell ⟨w.heap.size + 1, 8, none⟩ (.int .i64 j.lc)).setCell ⟨w.heap.size + 1, 9, none⟩ (.int .i64 j.wl)).setCell ⟨w.heap.size + 1, 10, none⟩ (.int .i64 j.lv)).heap[w.heap.size + 1]? = some (.cells #[.int .i64 j.id, .int .i64 j.pr, .int .i64 j.nn, .int .i64 j.na, .int .i64 j.nb, .int .i64 j.nc, .int .i64 j.la, .int .i64 j.lb, .int .i64 j.lc, .int .i64 j.wl, .int .i64 j.lv] 37 (0, 0))) := Lib.hid (set11 (bx_set5 T6.out.z1 (by omega) _ _ _ _ _))
  clear FF
  go_region_held3 (fun w' => w'.cell? ⟨br, 0, none⟩ = some (.slice A n c) ∧ w'.cell? ⟨br, 1, none⟩ = some (.slice B m1 d) ∧ w'.cell? ⟨br, 2, none⟩ = some (.slice U nu cu) ∧ w'.cell? ⟨br, 3, none⟩ = some (.slice R np cp) ∧ w'.cell? ⟨br, 4, none⟩ = some (.slice L nl cl) ∧ w'.cell? ⟨bj, 0, none⟩ = some (.int .i64 j.id) ∧ w'.cell? ⟨bj, 1, none⟩ = some (.int .i64 j.pr) ∧ w'.cell? ⟨bj, 2, none⟩ = some (.int .i64 j.nn) ∧ w'.cell? ⟨bj, 3, none⟩ = some (.int .i64 j.na) ∧ w'.cell? ⟨bj, 4, none⟩ = some (.int .i64 j.nb) ∧ w'.cell? ⟨bj, 5, none⟩ = some (.int .i64 j.nc) ∧ w'.cell? ⟨bj, 6, none⟩ = some (.int .i64 j.la) ∧ w'.cell? ⟨bj, 7, none⟩ = some (.int .i64 j.lb) ∧ w'.cell? ⟨bj, 8, none⟩ = some (.int .i64 j.lc) ∧ w'.cell? ⟨bj, 9, none⟩ = some (.int .i64 j.wl) ∧ w'.cell? ⟨bj, 10, none⟩ = some (.int .i64 j.lv)) (simp [go_sem, *, World.cell?_alloc_some, World.cell?_setCell_far, Nat.lt_add_right, Nat.ne_of_gt]) (fail)
  clear k0 k1 k2 k3 k4 kf kl v0 v1 v2 v3 v4 v5 v6 v7 v8 v9 v10 vf vl z0 z1 z2 z3 z4 zf zl y0 y1 y2 y3 y4 y5 y6 y7 y8 y9 y10 yf yl
  generalize ((((((((((((((((w6.setCell ⟨w.heap.size, 0, none⟩ (.slice A n c)).setCell ⟨w.heap.size, 1, none⟩ (.slice B m1 d)).setCell ⟨w.heap.size, 2, none⟩ (.slice U nu cu)).setCell ⟨w.heap.size, 3, none⟩ (.slice R np cp)).setCell ⟨w.heap.size, 4, none⟩ (.slice L nl cl)).setCell ⟨w.heap.size + 1, 0, none⟩ (.int .i64 j.id)).setCell ⟨w.heap.size + 1, 1, none⟩ (.int .i64 j.pr)).setCell ⟨w.heap.size + 1, 2, none⟩ (.int .i64 j.nn)).setCell ⟨w.heap.size + 1, 3, none⟩ (.int .i64 j.na)).setCell ⟨w.heap.size + 1, 4, none⟩ (.int .i64 j.nb)).setCell ⟨w.heap.size + 1, 5, none⟩ (.int .i64 j.nc)).setCell ⟨w.heap.size + 1, 6, none⟩ (.int .i64 j.la)).setCell ⟨w.heap.size + 1, 7, none⟩ (.int .i64 j.lb)).setCell ⟨w.heap.size + 1, 8, none⟩ (.int .i64 j.lc)).setCell ⟨w.heap.size + 1, 9, none⟩ (.int .i64 j.wl)).setCell ⟨w.heap.size + 1, 10, none⟩ (.int .i64 j.lv)) = wz at *
  have z0 := zAc ZB.out 0 rfl
  have z1 := zAc ZB.out 1 rfl
  have z2 := zAc ZB.out 2 rfl
  have z3 := zAc ZB.out 3 rfl
  have z4 := zAc ZB.out 4 rfl
  have zf := zAh ZB.out
  have zl := zAi ZB.out
  simp only [List.getElem_toArray, List.getElem_cons_zero, List.getElem_cons_succ] at z0 z1 z2 z3 z4
  have y0 := zAc YB.out 0 rfl
  have y1 := zAc YB.out 1 rfl
  have y2 := zAc YB.out 2 rfl
  have y3 := zAc YB.out 3 rfl
  have y4 := zAc YB.out 4 rfl
  have y5 := zAc YB.out 5 rfl
  have y6 := zAc YB.out 6 rfl
  have y7 := zAc YB.out 7 rfl
  have y8 := zAc YB.out 8 rfl
  have y9 := zAc YB.out 9 rfl
  have y10 := zAc YB.out 10 rfl
  have yf := zAh YB.out
  have yl := zAi YB.out
  simp only [List.getElem_toArray, List.getElem_cons_zero, List.getElem_cons_succ] at y0 y1 y2 y3 y4 y5 y6 y7 y8 y9 y10
  go_wp2
  (try go_light)
  refine bodyPost_ret (v := .tuple #[.agg #[.slice A n c, .slice B m1 d, .slice U nu cu, .slice R np cp, .slice L nl cl], .agg #[.int .i64 j.id, .int .i64 j.pr, .int .i64 j.nn, .int .i64 j.na, .int .i64 j.nb, .int .i64 j.nc, .int .i64 j.la, .int .i64 j.lb, .int .i64 j.lc, .int .i64 j.wl, .int .i64 j.lv], .int .i64 (x5)]) (by simp [results, Tryz.results16, go_sem, z0, z1, z2, z3, z4, zf, y0, y1, y2, y3, y4, y5, y6, y7, y8, y9, y10, yf]) rfl ?_
  exact ⟨⟨A, B, U, R, L, n, m1, nu, np, nl, c, d, cu, cp, cl⟩, j, x5, rfl, ⟨r, FW.out, xs, RO.out.bel ((Below.refl _ wz).drew)⟩, BB.out.drew⟩
end Go.Proofs.YtdppjjdhidkjoaaGreat
