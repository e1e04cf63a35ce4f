/-
  The arguments of Reserve and of Earliest are drawn.
-/
import Derived.Test.YtdppjjdhidkjoaaGreatGdPc
namespace Go.Proofs.YtdppjjdhidkjoaaGreat
set_option linter.unusedSimpArgs false
set_option linter.unusedVariables false
set_option linter.unnecessarySimpa false
open Go Go.RowKit
/-- A room and a job in boxes, a cursor, and the boxes of the results. -/
structure RD (w wr : World) (g lo br bj : Nat) (a : RA) (r : Rm) (xs : List Value) (j : J) : Prop where
  rb : wr.heap[br]? = some (.cells #[.slice a.A a.n a.c, .slice a.B a.m a.d, .slice a.U a.nu a.cu, .slice a.R a.np a.cp, .slice a.L a.nl a.cl] 33 (0, 0))
  jb : wr.heap[bj]? = some (.cells #[.int .i64 j.id, .int .i64 j.pr, .int .i64 j.nn, .int .i64 j.na, .int .i64 j.nb, .int .i64 j.nc, .int .i64 j.la, .int .i64 j.lb, .int .i64 j.lc, .int .i64 j.wl, .int .i64 j.lv] 37 (0, 0))
  own : RoomOwn wr lo a r xs
  cur : Cur wr g
  z0 : wr.heap[w.heap.size]? = some (.cells #[.slice none 0 0, .slice none 0 0, .slice none 0 0, .slice none 0 0, .slice none 0 0] 33 (0, 0))
  z1 : wr.heap[w.heap.size + 1]? = some (.cells #[.int .i64 0, .int .i64 0, .int .i64 0, .int .i64 0, .int .i64 0, .int .i64 0, .int .i64 0, .int .i64 0, .int .i64 0, .int .i64 0, .int .i64 0] 37 (0, 0))
  bel : Below w.heap.size w wr
  hb : w.heap.size + 1 < g ∧ g < lo ∧ g < br ∧ br < bj
theorem RD.bel' {w wr w' : World} {g lo br bj : Nat} {a : RA} {r : Rm} {xs : List Value} {j : J} (h : RD w wr g lo br bj a r xs j) (hb : Below wr.heap.size wr w') : RD w w' g lo br bj a r xs j :=
  ⟨bx_below h.rb hb, bx_below h.jb hb, h.own.bel hb, h.cur.below hb, bx_below h.z0 hb, bx_below h.z1 hb, bstep h.bel hb, h.hb⟩
theorem RD.cs {w wr w' : World} {g lo br bj : Nat} {a : RA} {r : Rm} {xs : List Value} {j : J} (h : RD w wr g lo br bj a r xs j) (hf : Fr (· = g) wr w') (hc : Cur w' g) : RD w w' g lo br bj a r xs j := by
  have hh := h.hb
  have hs := h.bel.size
  exact ⟨bx_fr h.rb hf (by omega), bx_fr h.jb hf (by omega), h.own.fr hf (fun k hk e => by have := (room_rng2 h.own k hk).1; omega), hc, bx_fr h.z0 hf (by omega), bx_fr h.z1 hf (by omega), h.bel.trans (hf.bel (B := w.heap.size) (fun k e => by omega) hs), h.hb⟩
theorem set11 {w : World} {b : Nat} {z0 z1 z2 z3 z4 z5 z6 z7 z8 z9 z10 v0 v1 v2 v3 v4 v5 v6 v7 v8 v9 v10 : Value} {t : TypeId} {f : Nat × Nat} (h : w.heap[b]? = some (.cells #[z0, z1, z2, z3, z4, z5, z6, z7, z8, z9, z10] t f)) :
    (((((((((((w.setCell ⟨b, 0, none⟩ v0).setCell ⟨b, 1, none⟩ v1).setCell ⟨b, 2, none⟩ v2).setCell ⟨b, 3, none⟩ v3).setCell ⟨b, 4, none⟩ v4).setCell ⟨b, 5, none⟩ v5).setCell ⟨b, 6, none⟩ v6).setCell ⟨b, 7, none⟩ v7).setCell ⟨b, 8, none⟩ v8).setCell ⟨b, 9, none⟩ v9).setCell ⟨b, 10, none⟩ v10).heap[b]? = some (.cells #[v0, v1, v2, v3, v4, v5, v6, v7, v8, v9, v10] t f) := by
  have := (heap_set (i := 10) (v := v10) (heap_set (i := 9) (v := v9) (heap_set (i := 8) (v := v8) (heap_set (i := 7) (v := v7) (heap_set (i := 6) (v := v6) (heap_set (i := 5) (v := v5) (heap_set (i := 4) (v := v4) (heap_set (i := 3) (v := v3) (heap_set (i := 2) (v := v2) (heap_set (i := 1) (v := v1) (heap_set (i := 0) (v := v0) h)))))))))))
  simpa using this
theorem bx_set11 {w : World} {b k : Nat} {o : Obj} (h : w.heap[k]? = some o) (hn : k ≠ b) (v0 v1 v2 v3 v4 v5 v6 v7 v8 v9 v10 : Value) :
    (((((((((((w.setCell ⟨b, 0, none⟩ v0).setCell ⟨b, 1, none⟩ v1).setCell ⟨b, 2, none⟩ v2).setCell ⟨b, 3, none⟩ v3).setCell ⟨b, 4, none⟩ v4).setCell ⟨b, 5, none⟩ v5).setCell ⟨b, 6, none⟩ v6).setCell ⟨b, 7, none⟩ v7).setCell ⟨b, 8, none⟩ v8).setCell ⟨b, 9, none⟩ v9).setCell ⟨b, 10, none⟩ v10).heap[k]? = some o :=
  (bx_set (bx_set (bx_set (bx_set (bx_set (bx_set (bx_set (bx_set (bx_set (bx_set (bx_set h hn _) hn _) hn _) hn _) hn _) hn _) hn _) hn _) hn _) hn _) hn _)

set_option maxHeartbeats 16000000 in
set_option maxRecDepth 20000 in
theorem drawReserve_any (A0 : Option Addr) (n0 c0 : Nat) (w : World) (hn : n0 ≤ 1048576) (h : ByIn w A0 n0) :
    Calls Tryz.prog 31 #[.slice A0 n0 c0] w fun e w' => ∃ (a : RA) (j : J) (at_ : Int) (D : Option Addr) (e9 : Nat) (nd : List Int), e = .returned (.tuple #[RA.v a, .agg #[.int .i64 j.id, .int .i64 j.pr, .int .i64 j.nn, .int .i64 j.na, .int .i64 j.nb, .int .i64 j.nc, .int .i64 j.la, .int .i64 j.lb, .int .i64 j.lc, .int .i64 j.wl, .int .i64 j.lv], .int .i64 at_, .slice D nd.length e9]) ∧ nd.length ≤ 24 ∧ (∃ r, r.few 12 ∧ ∃ xs, RoomOwn w' w.heap.size a r xs) ∧ w'.ownsRow w.heap.size 3 1 (.slice D nd.length e9) nd.length (ints nd) ∧ Below w.heap.size w w' := by
  have HB := Lib.hid h
  clear h
  go_enter Tryz.func31, Tryz.ntmps31
  go_wp2_with fail
  refine (cur_new A0 n0 c0 _ hn (HB.out.below (bstep (below_alloc w (.cells #[.slice none 0 0, .slice none 0 0, .slice none 0 0, .slice none 0 0, .slice none 0 0] 33)) (below_alloc _ (.cells #[.int .i64 0, .int .i64 0, .int .i64 0, .int .i64 0, .int .i64 0, .int .i64 0, .int .i64 0, .int .i64 0, .int .i64 0, .int .i64 0, .int .i64 0] 37))))).mono ?_
  rintro e w1 ⟨g, rfl, hg, cu1, hb1⟩
  have C1 := Lib.hid cu1
  have hgl := cu1.lt
  have hg' : w.heap.size + 1 < g := by simp at hg; omega
  have B1 := Lib.hid (bstep (bstep (below_alloc w (.cells #[.slice none 0 0, .slice none 0 0, .slice none 0 0, .slice none 0 0, .slice none 0 0] 33)) (below_alloc _ (.cells #[.int .i64 0, .int .i64 0, .int .i64 0, .int .i64 0, .int .i64 0, .int .i64 0, .int .i64 0, .int .i64 0, .int .i64 0, .int .i64 0, .int .i64 0] 37))) hb1)
  have XR1 := Lib.hid (bx_below (bx_alloc (heap_at (w := w) (.cells #[.slice none 0 0, .slice none 0 0, .slice none 0 0, .slice none 0 0, .slice none 0 0] 33) rfl) (.cells #[.int .i64 0, .int .i64 0, .int .i64 0, .int .i64 0, .int .i64 0, .int .i64 0, .int .i64 0, .int .i64 0, .int .i64 0, .int .i64 0, .int .i64 0] 37)) hb1)
  have XJ1 := Lib.hid (bx_below (heap_at (w := w.alloc (.cells #[.slice none 0 0, .slice none 0 0, .slice none 0 0, .slice none 0 0, .slice none 0 0] 33)) (.cells #[.int .i64 0, .int .i64 0, .int .i64 0, .int .i64 0, .int .i64 0, .int .i64 0, .int .i64 0, .int .i64 0, .int .i64 0, .int .i64 0, .int .i64 0] 37) (k := w.heap.size + 1) (by simp)) hb1)
  have hs1 : w.heap.size ≤ w1.heap.size := B1.out.size
  clear cu1 hb1 hg
  go_wp2_with fail
  refine (cur_anyRoom g _ C1.out).mono ?_
  rintro e w2 ⟨a, rfl, r, hfw, ⟨xs, oa⟩, cu2, fr2⟩
  obtain ⟨A, B, U, R, L, n, m1, nu, np, nl, c, d, cu, cp, cl⟩ := a
  dsimp only [RA.v]
  have FW := Lib.hid hfw
  have hs2 := fr2.size
  have B2 := Lib.hid (B1.out.trans (fr2.bel (B := w.heap.size) (fun k e => by omega) hs1))
  have XR2 := Lib.hid (bx_fr XR1.out fr2 (by omega))
  have XJ2 := Lib.hid (bx_fr XJ1.out fr2 (by omega))
  have C2 := Lib.hid cu2
  have O2 := Lib.hid oa
  clear hfw oa cu2 fr2 C1 B1 XR1 XJ1
  have RB2 : Hid ((w2.alloc (.cells #[.slice A n c, .slice B m1 d, .slice U nu cu, .slice R np cp, .slice L nl cl] 33)).heap[w2.heap.size]? = some (.cells #[.slice A n c, .slice B m1 d, .slice U nu cu, .slice R np cp, .slice L nl cl] 33 (0, 0))) := Lib.hid (heap_at _ rfl)
  go_wp2_with fail
  refine (cur_anyJob g _ (C2.out.alloc _)).mono ?_
  rintro e w3 ⟨j, rfl, cu3, fr3⟩
  have bal2 := below_alloc w2 (.cells #[.slice A n c, .slice B m1 d, .slice U nu cu, .slice R np cp, .slice L nl cl] 33)
  have hs3 := fr3.size
  (try simp at hs3)
  have D3 : Hid (RD w (w3.alloc (.cells #[.int .i64 j.id, .int .i64 j.pr, .int .i64 j.nn, .int .i64 j.na, .int .i64 j.nb, .int .i64 j.nc, .int .i64 j.la, .int .i64 j.lb, .int .i64 j.lc, .int .i64 j.wl, .int .i64 j.lv] 37)) g w1.heap.size w2.heap.size w3.heap.size ⟨A, B, U, R, L, n, m1, nu, np, nl, c, d, cu, cp, cl⟩ r xs j) := Lib.hid
    ⟨bx_alloc (bx_fr RB2.out fr3 (by omega)) _, heap_at _ rfl, ((O2.out.bel bal2).fr fr3 (fun k hk e => by have := (room_rng2 O2.out k hk).1; omega)).bel (below_alloc _ _), cu3.alloc _, bx_alloc (bx_fr (bx_alloc XR2.out _) fr3 (by omega)) _, bx_alloc (bx_fr (bx_alloc XJ2.out _) fr3 (by omega)) _,
      bstep ((bstep B2.out bal2).trans (fr3.bel (B := w.heap.size) (fun k e => by omega) (by simp; omega))) (below_alloc _ _), ⟨hg', hgl, by omega, by omega⟩⟩
  have hbj : w3.heap.size < (w3.alloc (.cells #[.int .i64 j.id, .int .i64 j.pr, .int .i64 j.nn, .int .i64 j.na, .int .i64 j.nb, .int .i64 j.nc, .int .i64 j.la, .int .i64 j.lb, .int .i64 j.lc, .int .i64 j.wl, .int .i64 j.lv] 37)).heap.size := by simp
  have hbo : w.heap.size + 1 < w1.heap.size := by omega
  clear cu3 fr3 bal2 O2 RB2 XR2 XJ2 C2 B2
  go_upto_region 4 with fail
  generalize w3.alloc (.cells #[.int .i64 j.id, .int .i64 j.pr, .int .i64 j.nn, .int .i64 j.na, .int .i64 j.nb, .int .i64 j.nc, .int .i64 j.la, .int .i64 j.lb, .int .i64 j.lc, .int .i64 j.wl, .int .i64 j.lv] 37) = w4 at *
  generalize w3.heap.size = bj at *
  generalize w2.heap.size = br at *
  have k0 := bx_cell D3.out.rb 0 rfl
  have k1 := bx_cell D3.out.rb 1 rfl
  have k2 := bx_cell D3.out.rb 2 rfl
  have k3 := bx_cell D3.out.rb 3 rfl
  have k4 := bx_cell D3.out.rb 4 rfl
  have kf := bx_frz D3.out.rb
  have kl := heap_lt D3.out.rb
  simp only [List.getElem_toArray, List.getElem_cons_zero, List.getElem_cons_succ] at k0 k1 k2 k3 k4
  have v0 := bx_cell D3.out.jb 0 rfl
  have v1 := bx_cell D3.out.jb 1 rfl
  have v2 := bx_cell D3.out.jb 2 rfl
  have v3 := bx_cell D3.out.jb 3 rfl
  have v4 := bx_cell D3.out.jb 4 rfl
  have v5 := bx_cell D3.out.jb 5 rfl
  have v6 := bx_cell D3.out.jb 6 rfl
  have v7 := bx_cell D3.out.jb 7 rfl
  have v8 := bx_cell D3.out.jb 8 rfl
  have v9 := bx_cell D3.out.jb 9 rfl
  have v10 := bx_cell D3.out.jb 10 rfl
  have vf := bx_frz D3.out.jb
  have vl := heap_lt D3.out.jb
  simp only [List.getElem_toArray, List.getElem_cons_zero, List.getElem_cons_succ] at v0 v1 v2 v3 v4 v5 v6 v7 v8 v9 v10
  go_wp2_with fail
  go_region_held3 (fun w' => w'.cell? ⟨br, 0, none⟩ = some (.slice A n c) ∧ w'.cell? ⟨br, 1, none⟩ = some (.slice B m1 d) ∧ w'.cell? ⟨br, 2, none⟩ = some (.slice U nu cu) ∧ w'.cell? ⟨br, 3, none⟩ = some (.slice R np cp) ∧ w'.cell? ⟨br, 4, none⟩ = some (.slice L nl cl) ∧ w'.cell? ⟨bj, 0, none⟩ = some (.int .i64 j.id) ∧ w'.cell? ⟨bj, 1, none⟩ = some (.int .i64 j.pr) ∧ w'.cell? ⟨bj, 2, none⟩ = some (.int .i64 j.nn) ∧ w'.cell? ⟨bj, 3, none⟩ = some (.int .i64 j.na) ∧ w'.cell? ⟨bj, 4, none⟩ = some (.int .i64 j.nb) ∧ w'.cell? ⟨bj, 5, none⟩ = some (.int .i64 j.nc) ∧ w'.cell? ⟨bj, 6, none⟩ = some (.int .i64 j.la) ∧ w'.cell? ⟨bj, 7, none⟩ = some (.int .i64 j.lb) ∧ w'.cell? ⟨bj, 8, none⟩ = some (.int .i64 j.lc) ∧ w'.cell? ⟨bj, 9, none⟩ = some (.int .i64 j.wl) ∧ w'.cell? ⟨bj, 10, none⟩ = some (.int .i64 j.lv)) (simp [go_sem, *, World.cell?_alloc_some, World.cell?_setCell_far, Nat.lt_add_right, Nat.ne_of_gt]) (first | (go_at_call 79; refine (cur_below g 30 _ (D3.out.cur.below (below_drewN _ 1)) (by omega) (by omega)).mono ?_; rintro e w5 ⟨x5, rfl, p5, q5, cu5, fr5⟩; have T5 := Lib.hid ((D3.out.bel' ((Below.refl _ w4).drew)).cs fr5 cu5); have hs5 := fr5.size; (try simp at hs5); have hh5 := D3.out.hb; have hk5 := fun o => fr5.cell (b := br) (by first | omega | (simp <;> omega)) (by omega) o; have hj5 := fun o => fr5.cell (b := bj) (by first | omega | (simp <;> omega)) (by omega) o) | (go_at_call 18; refine (sEarliest_any ⟨A, B, U, R, L, n, m1, nu, np, nl, c, d, cu, cp, cl⟩ r xs _ j x5 _ T5.out.own).mono ?_; rintro e w6 ⟨u6, rfl, own6, hb6⟩; have T6 := Lib.hid (T5.out.bel' hb6); have hs6 := hb6.size; (try simp at hs6); have hk6 := fun o => hb6.cell (p := ⟨br, o, none⟩) (by first | omega | (simp <;> omega)); have hj6 := fun o => hb6.cell (p := ⟨bj, o, none⟩) (by first | omega | (simp <;> omega)); obtain ⟨X6, c6, rfl, _⟩ := own_rd own6))
  obtain ⟨et, het⟩ : ∃ y, y = eT (earlV r j x5) := ⟨_, rfl⟩
  obtain ⟨el, hel⟩ : ∃ y, y = eL (earlV r j x5) := ⟨_, rfl⟩
  obtain ⟨eb, heb⟩ : ∃ y, y = (earlV r j x5).isSome := ⟨_, rfl⟩
  have hell : el.length ≤ 24 := by rw [hel]; exact earl_len9 r j x5
  have hlo5 : w1.heap.size ≤ w5.heap.size := by omega
  have O6 : Hid (w6.ownsRow w1.heap.size 3 1 (.slice X6 el.length c6) el.length (ints el)) := Lib.hid (by rw [hel]; exact own_mono own6 hlo5)
  rw [← het, ← heb, ← hel]
  clear het hel heb D3 T5 k0 k1 k2 k3 k4 kf kl v0 v1 v2 v3 v4 v5 v6 v7 v8 v9 v10 vf vl fr5 cu5 hb6 own6 hk5 hj5 hk6 hj6 hs5 hs6 hlo5 hbj
  have hgx : g < w6.heap.size := T6.out.cur.lt
  cases eb
  · skip
    go_wp2_with fail
    refine (cur_below g 40 _ T6.out.cur (by omega) (by omega)).mono ?_
    rintro e w8 ⟨x8, rfl, p8, q8, cu8, fr8⟩
    have T8 := Lib.hid (T6.out.cs fr8 cu8)
    clear cu8 fr8
    have k0 := bx_cell T8.out.rb 0 rfl
    have k1 := bx_cell T8.out.rb 1 rfl
    have k2 := bx_cell T8.out.rb 2 rfl
    have k3 := bx_cell T8.out.rb 3 rfl
    have k4 := bx_cell T8.out.rb 4 rfl
    have kf := bx_frz T8.out.rb
    have kl := heap_lt T8.out.rb
    simp only [List.getElem_toArray, List.getElem_cons_zero, List.getElem_cons_succ] at k0 k1 k2 k3 k4
    have hm1 : m1 ≤ 1048576 := T8.out.own.m
    go_wp2_with fail
    refine (cur_some g A B n c m1 d _ T8.out.cur (by omega)).mono ?_
    rintro e w9 ⟨D, e9, nd, rfl, hnd, od, cu9, fr9⟩
    have T9 := Lib.hid (T8.out.cs fr9 cu9)
    have hlo8 : w1.heap.size ≤ w8.heap.size := by have := T8.out.cur.lt; have := heap_lt T8.out.rb; have := T8.out.hb; omega
    have OD := Lib.hid (own_mono (lo' := w.heap.size + 2) od (by omega))
    clear cu9 fr9 T8 od k0 k1 k2 k3 k4 kf kl
    go_upto_region 8 with fail
    have k0 := bx_cell T9.out.rb 0 rfl
    have k1 := bx_cell T9.out.rb 1 rfl
    have k2 := bx_cell T9.out.rb 2 rfl
    have k3 := bx_cell T9.out.rb 3 rfl
    have k4 := bx_cell T9.out.rb 4 rfl
    have kf := bx_frz T9.out.rb
    have kl := heap_lt T9.out.rb
    simp only [List.getElem_toArray, List.getElem_cons_zero, List.getElem_cons_succ] at k0 k1 k2 k3 k4
    have v0 := bx_cell T9.out.jb 0 rfl
    have v1 := bx_cell T9.out.jb 1 rfl
    have v2 := bx_cell T9.out.jb 2 rfl
    have v3 := bx_cell T9.out.jb 3 rfl
    have v4 := bx_cell T9.out.jb 4 rfl
    have v5 := bx_cell T9.out.jb 5 rfl
    have v6 := bx_cell T9.out.jb 6 rfl
    have v7 := bx_cell T9.out.jb 7 rfl
    have v8 := bx_cell T9.out.jb 8 rfl
    have v9 := bx_cell T9.out.jb 9 rfl
    have v10 := bx_cell T9.out.jb 10 rfl
    have vf := bx_frz T9.out.jb
    have vl := heap_lt T9.out.jb
    simp only [List.getElem_toArray, List.getElem_cons_zero, List.getElem_cons_succ] at v0 v1 v2 v3 v4 v5 v6 v7 v8 v9 v10
    have z0 := bx_cell T9.out.z0 0 rfl
    have z1 := bx_cell T9.out.z0 1 rfl
    have z2 := bx_cell T9.out.z0 2 rfl
    have z3 := bx_cell T9.out.z0 3 rfl
    have z4 := bx_cell T9.out.z0 4 rfl
    have zf := bx_frz T9.out.z0
    have zl := heap_lt T9.out.z0
    simp only [List.getElem_toArray, List.getElem_cons_zero, List.getElem_cons_succ] at z0 z1 z2 z3 z4
    have y0 := bx_cell T9.out.z1 0 rfl
    have y1 := bx_cell T9.out.z1 1 rfl
    have y2 := bx_cell T9.out.z1 2 rfl
    have y3 := bx_cell T9.out.z1 3 rfl
    have y4 := bx_cell T9.out.z1 4 rfl
    have y5 := bx_cell T9.out.z1 5 rfl
    have y6 := bx_cell T9.out.z1 6 rfl
    have y7 := bx_cell T9.out.z1 7 rfl
    have y8 := bx_cell T9.out.z1 8 rfl
    have y9 := bx_cell T9.out.z1 9 rfl
    have y10 := bx_cell T9.out.z1 10 rfl
    have yf := bx_frz T9.out.z1
    have yl := heap_lt T9.out.z1
    simp only [List.getElem_toArray, List.getElem_cons_zero, List.getElem_cons_succ] at y0 y1 y2 y3 y4 y5 y6 y7 y8 y9 y10
    have hh := T9.out.hb
    have n1 : w.heap.size ≠ br := by omega
    have n2 : w.heap.size ≠ bj := by omega
    have n3 : w.heap.size + 1 ≠ br := by omega
    have n4 : w.heap.size + 1 ≠ bj := by omega
    have n5 : br ≠ w.heap.size := by omega
    have n6 : bj ≠ w.heap.size := by omega
    have n7 : br ≠ w.heap.size + 1 := by omega
    have n8 : bj ≠ w.heap.size + 1 := by omega
    have FF := Lib.hid (((((((((((((((((Fr.refl (fun k => k < w.heap.size + 2) w9).setCell (p := ⟨w.heap.size, 0, none⟩) (Or.inl (by show w.heap.size < w.heap.size + 2; omega)) (.slice A n c)).setCell (p := ⟨w.heap.size, 1, none⟩) (Or.inl (by show w.heap.size < w.heap.size + 2; omega)) (.slice B m1 d)).setCell (p := ⟨w.heap.size, 2, none⟩) (Or.inl (by show w.heap.size < w.heap.size + 2; omega)) (.slice U nu cu)).setCell (p := ⟨w.heap.size, 3, none⟩) (Or.inl (by show w.heap.size < w.heap.size + 2; omega)) (.slice R np cp)).setCell (p := ⟨w.heap.size, 4, none⟩) (Or.inl (by show w.heap.size < w.heap.size + 2; omega)) (.slice L nl cl)).setCell (p := ⟨w.heap.size + 1, 0, none⟩) (Or.inl (by show w.heap.size + 1 < w.heap.size + 2; omega)) (.int .i64 j.id)).setCell (p := ⟨w.heap.size + 1, 1, none⟩) (Or.inl (by show w.heap.size + 1 < w.heap.size + 2; omega)) (.int .i64 j.pr)).setCell (p := ⟨w.heap.size + 1, 2, none⟩) (Or.inl (by show w.heap.size + 1 < w.heap.size + 2; omega)) (.int .i64 j.nn)).setCell (p := ⟨w.heap.size + 1, 3, none⟩) (Or.inl (by show w.heap.size + 1 < w.heap.size + 2; omega)) (.int .i64 j.na)).setCell (p := ⟨w.heap.size + 1, 4, none⟩) (Or.inl (by show w.heap.size + 1 < w.heap.size + 2; omega)) (.int .i64 j.nb)).setCell (p := ⟨w.heap.size + 1, 5, none⟩) (Or.inl (by show w.heap.size + 1 < w.heap.size + 2; omega)) (.int .i64 j.nc)).setCell (p := ⟨w.heap.size + 1, 6, none⟩) (Or.inl (by show w.heap.size + 1 < w.heap.size + 2; omega)) (.int .i64 j.la)).setCell (p := ⟨w.heap.size + 1, 7, none⟩) (Or.inl (by show w.heap.size + 1 < w.heap.size + 2; omega)) (.int .i64 j.lb)).setCell (p := ⟨w.heap.size + 1, 8, none⟩) (Or.inl (by show w.heap.size + 1 < w.heap.size + 2; omega)) (.int .i64 j.lc)).setCell (p := ⟨w.heap.size + 1, 9, none⟩) (Or.inl (by show w.heap.size + 1 < w.heap.size + 2; omega)) (.int .i64 j.wl)).setCell (p := ⟨w.heap.size + 1, 10, none⟩) (Or.inl (by show w.heap.size + 1 < w.heap.size + 2; omega)) (.int .i64 j.lv))
    have BB : Hid (Below w.heap.size w ((((((((((((((((w9.setCell ⟨w.heap.size, 0, none⟩ (.slice A n c)).setCell ⟨w.heap.size, 1, none⟩ (.slice B m1 d)).setCell ⟨w.heap.size, 2, none⟩ (.slice U nu cu)).setCell ⟨w.heap.size, 3, none⟩ (.slice R np cp)).setCell ⟨w.heap.size, 4, none⟩ (.slice L nl cl)).setCell ⟨w.heap.size + 1, 0, none⟩ (.int .i64 j.id)).setCell ⟨w.heap.size + 1, 1, none⟩ (.int .i64 j.pr)).setCell ⟨w.heap.size + 1, 2, none⟩ (.int .i64 j.nn)).setCell ⟨w.heap.size + 1, 3, none⟩ (.int .i64 j.na)).setCell ⟨w.heap.size + 1, 4, none⟩ (.int .i64 j.nb)).setCell ⟨w.heap.size + 1, 5, none⟩ (.int .i64 j.nc)).setCell ⟨w.heap.size + 1, 6, none⟩ (.int .i64 j.la)).setCell ⟨w.heap.size + 1, 7, none⟩ (.int .i64 j.lb)).setCell ⟨w.heap.size + 1, 8, none⟩ (.int .i64 j.lc)).setCell ⟨w.heap.size + 1, 9, none⟩ (.int .i64 j.wl)).setCell ⟨w.heap.size + 1, 10, none⟩ (.int .i64 j.lv))) := Lib.hid (Below.setCell (Below.setCell (Below.setCell (Below.setCell (Below.setCell (Below.setCell (Below.setCell (Below.setCell (Below.setCell (Below.setCell (Below.setCell (Below.setCell (Below.setCell (Below.setCell (Below.setCell (Below.setCell T9.out.bel (p := ⟨w.heap.size, 0, none⟩) (by show w.heap.size ≤ w.heap.size; omega) _) (p := ⟨w.heap.size, 1, none⟩) (by show w.heap.size ≤ w.heap.size; omega) _) (p := ⟨w.heap.size, 2, none⟩) (by show w.heap.size ≤ w.heap.size; omega) _) (p := ⟨w.heap.size, 3, none⟩) (by show w.heap.size ≤ w.heap.size; omega) _) (p := ⟨w.heap.size, 4, none⟩) (by show w.heap.size ≤ w.heap.size; omega) _) (p := ⟨w.heap.size + 1, 0, none⟩) (by show w.heap.size ≤ w.heap.size + 1; omega) _) (p := ⟨w.heap.size + 1, 1, none⟩) (by show w.heap.size ≤ w.heap.size + 1; omega) _) (p := ⟨w.heap.size + 1, 2, none⟩) (by show w.heap.size ≤ w.heap.size + 1; omega) _) (p := ⟨w.heap.size + 1, 3, none⟩) (by show w.heap.size ≤ w.heap.size + 1; omega) _) (p := ⟨w.heap.size + 1, 4, none⟩) (by show w.heap.size ≤ w.heap.size + 1; omega) _) (p := ⟨w.heap.size + 1, 5, none⟩) (by show w.heap.size ≤ w.heap.size + 1; omega) _) (p := ⟨w.heap.size + 1, 6, none⟩) (by show w.heap.size ≤ w.heap.size + 1; omega) _) (p := ⟨w.heap.size + 1, 7, none⟩) (by show w.heap.size ≤ w.heap.size + 1; omega) _) (p := ⟨w.heap.size + 1, 8, none⟩) (by show w.heap.size ≤ w.heap.size + 1; omega) _) (p := ⟨w.heap.size + 1, 9, none⟩) (by show w.heap.size ≤ w.heap.size + 1; omega) _) (p := ⟨w.heap.size + 1, 10, none⟩) (by show w.heap.size ≤ w.heap.size + 1; omega) _)
    have RO := Lib.hid ((T9.out.own.fr FF.out (fun k hk e => by have := (room_rng2 T9.out.own k hk).1; omega)).mono (lo' := w.heap.size) (by omega))
    have ZB : Hid (((((((((((((((((w9.setCell ⟨w.heap.size, 0, none⟩ (.slice A n c)).setCell ⟨w.heap.size, 1, none⟩ (.slice B m1 d)).setCell ⟨w.heap.size, 2, none⟩ (.slice U nu cu)).setCell ⟨w.heap.size, 3, none⟩ (.slice R np cp)).setCell ⟨w.heap.size, 4, none⟩ (.slice L nl cl)).setCell ⟨w.heap.size + 1, 0, none⟩ (.int .i64 j.id)).setCell ⟨w.heap.size + 1, 1, none⟩ (.int .i64 j.pr)).setCell ⟨w.heap.size + 1, 2, none⟩ (.int .i64 j.nn)).setCell ⟨w.heap.size + 1, 3, none⟩ (.int .i64 j.na)).setCell ⟨w.heap.size + 1, 4, none⟩ (.int .i64 j.nb)).setCell ⟨w.heap.size + 1, 5, none⟩ (.int .i64 j.nc)).setCell ⟨w.heap.size + 1, 6, none⟩ (.int .i64 j.la)).setCell ⟨w.heap.size + 1, 7, none⟩ (.int .i64 j.lb)).setCell ⟨w.heap.size + 1, 8, none⟩ (.int .i64 j.lc)).setCell ⟨w.heap.size + 1, 9, none⟩ (.int .i64 j.wl)).setCell ⟨w.heap.size + 1, 10, none⟩ (.int .i64 j.lv)).heap[w.heap.size]? = some (.cells #[.slice A n c, .slice B m1 d, .slice U nu cu, .slice R np cp, .slice L nl cl] 33 (0, 0))) := Lib.hid (bx_set11 (set5 T9.out.z0) (by omega) _ _ _ _ _ _ _ _ _ _ _)
    have YB : Hid (((((((((((((((((w9.setCell ⟨w.heap.size, 0, none⟩ (.slice A n c)).setCell ⟨w.heap.size, 1, none⟩ (.slice B m1 d)).setCell ⟨w.heap.size, 2, none⟩ (.slice U nu cu)).setCell ⟨w.heap.size, 3, none⟩ (.slice R np cp)).setCell ⟨w.heap.size, 4, none⟩ (.slice L nl cl)).setCell ⟨w.heap.size + 1, 0, none⟩ (.int .i64 j.id)).setCell ⟨w.heap.size + 1, 1, none⟩ (.int .i64 j.pr)).setCell ⟨w.heap.size + 1, 2, none⟩ (.int .i64 j.nn)).setCell ⟨w.heap.size + 1, 3, none⟩ (.int .i64 j.na)).setCell ⟨w.heap.size + 1, 4, none⟩ (.int .i64 j.nb)).setCell ⟨w.heap.size + 1, 5, none⟩ (.int .i64 j.nc)).setCell ⟨w.heap.size + 1, 6, none⟩ (.int .i64 j.la)).setCell ⟨w.heap.size + 1, 7, none⟩ (.int .i64 j.lb)).setCell ⟨w.heap.size + 1, 8, none⟩ (.int .i64 j.lc)).setCell ⟨w.heap.size + 1, 9, none⟩ (.int .i64 j.wl)).setCell ⟨w.heap.size + 1, 10, none⟩ (.int .i64 j.lv)).heap[w.heap.size + 1]? = some (.cells #[.int .i64 j.id, .int .i64 j.pr, .int .i64 j.nn, .int .i64 j.na, .int .i64 j.nb, .int .i64 j.nc, .int .i64 j.la, .int .i64 j.lb, .int .i64 j.lc, .int .i64 j.wl, .int .i64 j.lv] 37 (0, 0))) := Lib.hid (set11 (bx_set5 T9.out.z1 (by omega) _ _ _ _ _))
    have OD9 := Lib.hid (own_mono (lo' := w.heap.size) (own_fr OD.out FF.out (fun k hk e => by have := own_ge OD.out k hk; omega)) (by omega))
    clear FF
    go_region_held3 (fun w' => w'.cell? ⟨br, 0, none⟩ = some (.slice A n c) ∧ w'.cell? ⟨br, 1, none⟩ = some (.slice B m1 d) ∧ w'.cell? ⟨br, 2, none⟩ = some (.slice U nu cu) ∧ w'.cell? ⟨br, 3, none⟩ = some (.slice R np cp) ∧ w'.cell? ⟨br, 4, none⟩ = some (.slice L nl cl) ∧ w'.cell? ⟨bj, 0, none⟩ = some (.int .i64 j.id) ∧ w'.cell? ⟨bj, 1, none⟩ = some (.int .i64 j.pr) ∧ w'.cell? ⟨bj, 2, none⟩ = some (.int .i64 j.nn) ∧ w'.cell? ⟨bj, 3, none⟩ = some (.int .i64 j.na) ∧ w'.cell? ⟨bj, 4, none⟩ = some (.int .i64 j.nb) ∧ w'.cell? ⟨bj, 5, none⟩ = some (.int .i64 j.nc) ∧ w'.cell? ⟨bj, 6, none⟩ = some (.int .i64 j.la) ∧ w'.cell? ⟨bj, 7, none⟩ = some (.int .i64 j.lb) ∧ w'.cell? ⟨bj, 8, none⟩ = some (.int .i64 j.lc) ∧ w'.cell? ⟨bj, 9, none⟩ = some (.int .i64 j.wl) ∧ w'.cell? ⟨bj, 10, none⟩ = some (.int .i64 j.lv)) (simp [go_sem, *, World.cell?_alloc_some, World.cell?_setCell_far, Nat.lt_add_right, Nat.ne_of_gt]) (fail)
    clear k0 k1 k2 k3 k4 kf kl v0 v1 v2 v3 v4 v5 v6 v7 v8 v9 v10 vf vl z0 z1 z2 z3 z4 zf zl y0 y1 y2 y3 y4 y5 y6 y7 y8 y9 y10 yf yl
    generalize ((((((((((((((((w9.setCell ⟨w.heap.size, 0, none⟩ (.slice A n c)).setCell ⟨w.heap.size, 1, none⟩ (.slice B m1 d)).setCell ⟨w.heap.size, 2, none⟩ (.slice U nu cu)).setCell ⟨w.heap.size, 3, none⟩ (.slice R np cp)).setCell ⟨w.heap.size, 4, none⟩ (.slice L nl cl)).setCell ⟨w.heap.size + 1, 0, none⟩ (.int .i64 j.id)).setCell ⟨w.heap.size + 1, 1, none⟩ (.int .i64 j.pr)).setCell ⟨w.heap.size + 1, 2, none⟩ (.int .i64 j.nn)).setCell ⟨w.heap.size + 1, 3, none⟩ (.int .i64 j.na)).setCell ⟨w.heap.size + 1, 4, none⟩ (.int .i64 j.nb)).setCell ⟨w.heap.size + 1, 5, none⟩ (.int .i64 j.nc)).setCell ⟨w.heap.size + 1, 6, none⟩ (.int .i64 j.la)).setCell ⟨w.heap.size + 1, 7, none⟩ (.int .i64 j.lb)).setCell ⟨w.heap.size + 1, 8, none⟩ (.int .i64 j.lc)).setCell ⟨w.heap.size + 1, 9, none⟩ (.int .i64 j.wl)).setCell ⟨w.heap.size + 1, 10, none⟩ (.int .i64 j.lv)) = wz at *
    have z0 := bx_cell ZB.out 0 rfl
    have z1 := bx_cell ZB.out 1 rfl
    have z2 := bx_cell ZB.out 2 rfl
    have z3 := bx_cell ZB.out 3 rfl
    have z4 := bx_cell ZB.out 4 rfl
    have zf := bx_frz ZB.out
    have zl := heap_lt ZB.out
    simp only [List.getElem_toArray, List.getElem_cons_zero, List.getElem_cons_succ] at z0 z1 z2 z3 z4
    have y0 := bx_cell YB.out 0 rfl
    have y1 := bx_cell YB.out 1 rfl
    have y2 := bx_cell YB.out 2 rfl
    have y3 := bx_cell YB.out 3 rfl
    have y4 := bx_cell YB.out 4 rfl
    have y5 := bx_cell YB.out 5 rfl
    have y6 := bx_cell YB.out 6 rfl
    have y7 := bx_cell YB.out 7 rfl
    have y8 := bx_cell YB.out 8 rfl
    have y9 := bx_cell YB.out 9 rfl
    have y10 := bx_cell YB.out 10 rfl
    have yf := bx_frz YB.out
    have yl := heap_lt YB.out
    simp only [List.getElem_toArray, List.getElem_cons_zero, List.getElem_cons_succ] at y0 y1 y2 y3 y4 y5 y6 y7 y8 y9 y10
    go_wp2
    (try go_light)
    refine bodyPost_ret (v := .tuple #[.agg #[.slice A n c, .slice B m1 d, .slice U nu cu, .slice R np cp, .slice L nl cl], .agg #[.int .i64 j.id, .int .i64 j.pr, .int .i64 j.nn, .int .i64 j.na, .int .i64 j.nb, .int .i64 j.nc, .int .i64 j.la, .int .i64 j.lb, .int .i64 j.lc, .int .i64 j.wl, .int .i64 j.lv], .int .i64 x8, .slice D nd.length e9]) (by simp [results, Tryz.results31, go_sem, z0, z1, z2, z3, z4, zf, y0, y1, y2, y3, y4, y5, y6, y7, y8, y9, y10, yf]) rfl ?_
    exact ⟨⟨A, B, U, R, L, n, m1, nu, np, nl, c, d, cu, cp, cl⟩, j, x8, D, _, nd, rfl, by omega, ⟨r, FW.out, xs, RO.out.bel ((Below.refl _ wz).drew)⟩, own_bel OD9.out ((Below.refl _ wz).drew), BB.out.drew⟩
  · go_wp2_with fail
    refine (cur_below g 3 _ T6.out.cur (by omega) (by omega)).mono ?_
    rintro e w7 ⟨x7, rfl, p7, q7, cu7, fr7⟩
    have T7 := Lib.hid (T6.out.cs fr7 cu7)
    have O7 := Lib.hid (own_fr O6.out fr7 (fun k hk e => by have := own_ge O6.out k hk; omega))
    clear cu7 fr7 T6 O6
    by_cases h7 : x7 = 0
    · subst h7
      go_wp2_with fail
      refine (cur_below g 40 _ T7.out.cur (by omega) (by omega)).mono ?_
      rintro e w8 ⟨x8, rfl, p8, q8, cu8, fr8⟩
      have T8 := Lib.hid (T7.out.cs fr8 cu8)
      clear cu8 fr8
      have k0 := bx_cell T8.out.rb 0 rfl
      have k1 := bx_cell T8.out.rb 1 rfl
      have k2 := bx_cell T8.out.rb 2 rfl
      have k3 := bx_cell T8.out.rb 3 rfl
      have k4 := bx_cell T8.out.rb 4 rfl
      have kf := bx_frz T8.out.rb
      have kl := heap_lt T8.out.rb
      simp only [List.getElem_toArray, List.getElem_cons_zero, List.getElem_cons_succ] at k0 k1 k2 k3 k4
      have hm1 : m1 ≤ 1048576 := T8.out.own.m
      go_wp2_with fail
      refine (cur_some g A B n c m1 d _ T8.out.cur (by omega)).mono ?_
      rintro e w9 ⟨D, e9, nd, rfl, hnd, od, cu9, fr9⟩
      have T9 := Lib.hid (T8.out.cs fr9 cu9)
      have hlo8 : w1.heap.size ≤ w8.heap.size := by have := T8.out.cur.lt; have := heap_lt T8.out.rb; have := T8.out.hb; omega
      have OD := Lib.hid (own_mono (lo' := w.heap.size + 2) od (by omega))
      clear cu9 fr9 T8 od k0 k1 k2 k3 k4 kf kl
      go_upto_region 8 with fail
      have k0 := bx_cell T9.out.rb 0 rfl
      have k1 := bx_cell T9.out.rb 1 rfl
      have k2 := bx_cell T9.out.rb 2 rfl
      have k3 := bx_cell T9.out.rb 3 rfl
      have k4 := bx_cell T9.out.rb 4 rfl
      have kf := bx_frz T9.out.rb
      have kl := heap_lt T9.out.rb
      simp only [List.getElem_toArray, List.getElem_cons_zero, List.getElem_cons_succ] at k0 k1 k2 k3 k4
      have v0 := bx_cell T9.out.jb 0 rfl
      have v1 := bx_cell T9.out.jb 1 rfl
      have v2 := bx_cell T9.out.jb 2 rfl
      have v3 := bx_cell T9.out.jb 3 rfl
      have v4 := bx_cell T9.out.jb 4 rfl
      have v5 := bx_cell T9.out.jb 5 rfl
      have v6 := bx_cell T9.out.jb 6 rfl
      have v7 := bx_cell T9.out.jb 7 rfl
      have v8 := bx_cell T9.out.jb 8 rfl
      have v9 := bx_cell T9.out.jb 9 rfl
      have v10 := bx_cell T9.out.jb 10 rfl
      have vf := bx_frz T9.out.jb
      have vl := heap_lt T9.out.jb
      simp only [List.getElem_toArray, List.getElem_cons_zero, List.getElem_cons_succ] at v0 v1 v2 v3 v4 v5 v6 v7 v8 v9 v10
      have z0 := bx_cell T9.out.z0 0 rfl
      have z1 := bx_cell T9.out.z0 1 rfl
      have z2 := bx_cell T9.out.z0 2 rfl
      have z3 := bx_cell T9.out.z0 3 rfl
      have z4 := bx_cell T9.out.z0 4 rfl
      have zf := bx_frz T9.out.z0
      have zl := heap_lt T9.out.z0
      simp only [List.getElem_toArray, List.getElem_cons_zero, List.getElem_cons_succ] at z0 z1 z2 z3 z4
      have y0 := bx_cell T9.out.z1 0 rfl
      have y1 := bx_cell T9.out.z1 1 rfl
      have y2 := bx_cell T9.out.z1 2 rfl
      have y3 := bx_cell T9.out.z1 3 rfl
      have y4 := bx_cell T9.out.z1 4 rfl
      have y5 := bx_cell T9.out.z1 5 rfl
      have y6 := bx_cell T9.out.z1 6 rfl
      have y7 := bx_cell T9.out.z1 7 rfl
      have y8 := bx_cell T9.out.z1 8 rfl
      have y9 := bx_cell T9.out.z1 9 rfl
      have y10 := bx_cell T9.out.z1 10 rfl
      have yf := bx_frz T9.out.z1
      have yl := heap_lt T9.out.z1
      simp only [List.getElem_toArray, List.getElem_cons_zero, List.getElem_cons_succ] at y0 y1 y2 y3 y4 y5 y6 y7 y8 y9 y10
      have hh := T9.out.hb
      have n1 : w.heap.size ≠ br := by omega
      have n2 : w.heap.size ≠ bj := by omega
      have n3 : w.heap.size + 1 ≠ br := by omega
      have n4 : w.heap.size + 1 ≠ bj := by omega
      have n5 : br ≠ w.heap.size := by omega
      have n6 : bj ≠ w.heap.size := by omega
      have n7 : br ≠ w.heap.size + 1 := by omega
      have n8 : bj ≠ w.heap.size + 1 := by omega
      have FF := Lib.hid (((((((((((((((((Fr.refl (fun k => k < w.heap.size + 2) w9).setCell (p := ⟨w.heap.size, 0, none⟩) (Or.inl (by show w.heap.size < w.heap.size + 2; omega)) (.slice A n c)).setCell (p := ⟨w.heap.size, 1, none⟩) (Or.inl (by show w.heap.size < w.heap.size + 2; omega)) (.slice B m1 d)).setCell (p := ⟨w.heap.size, 2, none⟩) (Or.inl (by show w.heap.size < w.heap.size + 2; omega)) (.slice U nu cu)).setCell (p := ⟨w.heap.size, 3, none⟩) (Or.inl (by show w.heap.size < w.heap.size + 2; omega)) (.slice R np cp)).setCell (p := ⟨w.heap.size, 4, none⟩) (Or.inl (by show w.heap.size < w.heap.size + 2; omega)) (.slice L nl cl)).setCell (p := ⟨w.heap.size + 1, 0, none⟩) (Or.inl (by show w.heap.size + 1 < w.heap.size + 2; omega)) (.int .i64 j.id)).setCell (p := ⟨w.heap.size + 1, 1, none⟩) (Or.inl (by show w.heap.size + 1 < w.heap.size + 2; omega)) (.int .i64 j.pr)).setCell (p := ⟨w.heap.size + 1, 2, none⟩) (Or.inl (by show w.heap.size + 1 < w.heap.size + 2; omega)) (.int .i64 j.nn)).setCell (p := ⟨w.heap.size + 1, 3, none⟩) (Or.inl (by show w.heap.size + 1 < w.heap.size + 2; omega)) (.int .i64 j.na)).setCell (p := ⟨w.heap.size + 1, 4, none⟩) (Or.inl (by show w.heap.size + 1 < w.heap.size + 2; omega)) (.int .i64 j.nb)).setCell (p := ⟨w.heap.size + 1, 5, none⟩) (Or.inl (by show w.heap.size + 1 < w.heap.size + 2; omega)) (.int .i64 j.nc)).setCell (p := ⟨w.heap.size + 1, 6, none⟩) (Or.inl (by show w.heap.size + 1 < w.heap.size + 2; omega)) (.int .i64 j.la)).setCell (p := ⟨w.heap.size + 1, 7, none⟩) (Or.inl (by show w.heap.size + 1 < w.heap.size + 2; omega)) (.int .i64 j.lb)).setCell (p := ⟨w.heap.size + 1, 8, none⟩) (Or.inl (by show w.heap.size + 1 < w.heap.size + 2; omega)) (.int .i64 j.lc)).setCell (p := ⟨w.heap.size + 1, 9, none⟩) (Or.inl (by show w.heap.size + 1 < w.heap.size + 2; omega)) (.int .i64 j.wl)).setCell (p := ⟨w.heap.size + 1, 10, none⟩) (Or.inl (by show w.heap.size + 1 < w.heap.size + 2; omega)) (.int .i64 j.lv))
      have BB : Hid (Below w.heap.size w ((((((((((((((((w9.setCell ⟨w.heap.size, 0, none⟩ (.slice A n c)).setCell ⟨w.heap.size, 1, none⟩ (.slice B m1 d)).setCell ⟨w.heap.size, 2, none⟩ (.slice U nu cu)).setCell ⟨w.heap.size, 3, none⟩ (.slice R np cp)).setCell ⟨w.heap.size, 4, none⟩ (.slice L nl cl)).setCell ⟨w.heap.size + 1, 0, none⟩ (.int .i64 j.id)).setCell ⟨w.heap.size + 1, 1, none⟩ (.int .i64 j.pr)).setCell ⟨w.heap.size + 1, 2, none⟩ (.int .i64 j.nn)).setCell ⟨w.heap.size + 1, 3, none⟩ (.int .i64 j.na)).setCell ⟨w.heap.size + 1, 4, none⟩ (.int .i64 j.nb)).setCell ⟨w.heap.size + 1, 5, none⟩ (.int .i64 j.nc)).setCell ⟨w.heap.size + 1, 6, none⟩ (.int .i64 j.la)).setCell ⟨w.heap.size + 1, 7, none⟩ (.int .i64 j.lb)).setCell ⟨w.heap.size + 1, 8, none⟩ (.int .i64 j.lc)).setCell ⟨w.heap.size + 1, 9, none⟩ (.int .i64 j.wl)).setCell ⟨w.heap.size + 1, 10, none⟩ (.int .i64 j.lv))) := Lib.hid (Below.setCell (Below.setCell (Below.setCell (Below.setCell (Below.setCell (Below.setCell (Below.setCell (Below.setCell (Below.setCell (Below.setCell (Below.setCell (Below.setCell (Below.setCell (Below.setCell (Below.setCell (Below.setCell T9.out.bel (p := ⟨w.heap.size, 0, none⟩) (by show w.heap.size ≤ w.heap.size; omega) _) (p := ⟨w.heap.size, 1, none⟩) (by show w.heap.size ≤ w.heap.size; omega) _) (p := ⟨w.heap.size, 2, none⟩) (by show w.heap.size ≤ w.heap.size; omega) _) (p := ⟨w.heap.size, 3, none⟩) (by show w.heap.size ≤ w.heap.size; omega) _) (p := ⟨w.heap.size, 4, none⟩) (by show w.heap.size ≤ w.heap.size; omega) _) (p := ⟨w.heap.size + 1, 0, none⟩) (by show w.heap.size ≤ w.heap.size + 1; omega) _) (p := ⟨w.heap.size + 1, 1, none⟩) (by show w.heap.size ≤ w.heap.size + 1; omega) _) (p := ⟨w.heap.size + 1, 2, none⟩) (by show w.heap.size ≤ w.heap.size + 1; omega) _) (p := ⟨w.heap.size + 1, 3, none⟩) (by show w.heap.size ≤ w.heap.size + 1; omega) _) (p := ⟨w.heap.size + 1, 4, none⟩) (by show w.heap.size ≤ w.heap.size + 1; omega) _) (p := ⟨w.heap.size + 1, 5, none⟩) (by show w.heap.size ≤ w.heap.size + 1; omega) _) (p := ⟨w.heap.size + 1, 6, none⟩) (by show w.heap.size ≤ w.heap.size + 1; omega) _) (p := ⟨w.heap.size + 1, 7, none⟩) (by show w.heap.size ≤ w.heap.size + 1; omega) _) (p := ⟨w.heap.size + 1, 8, none⟩) (by show w.heap.size ≤ w.heap.size + 1; omega) _) (p := ⟨w.heap.size + 1, 9, none⟩) (by show w.heap.size ≤ w.heap.size + 1; omega) _) (p := ⟨w.heap.size + 1, 10, none⟩) (by show w.heap.size ≤ w.heap.size + 1; omega) _)
      have RO := Lib.hid ((T9.out.own.fr FF.out (fun k hk e => by have := (room_rng2 T9.out.own k hk).1; omega)).mono (lo' := w.heap.size) (by omega))
      have ZB : Hid (((((((((((((((((w9.setCell ⟨w.heap.size, 0, none⟩ (.slice A n c)).setCell ⟨w.heap.size, 1, none⟩ (.slice B m1 d)).setCell ⟨w.heap.size, 2, none⟩ (.slice U nu cu)).setCell ⟨w.heap.size, 3, none⟩ (.slice R np cp)).setCell ⟨w.heap.size, 4, none⟩ (.slice L nl cl)).setCell ⟨w.heap.size + 1, 0, none⟩ (.int .i64 j.id)).setCell ⟨w.heap.size + 1, 1, none⟩ (.int .i64 j.pr)).setCell ⟨w.heap.size + 1, 2, none⟩ (.int .i64 j.nn)).setCell ⟨w.heap.size + 1, 3, none⟩ (.int .i64 j.na)).setCell ⟨w.heap.size + 1, 4, none⟩ (.int .i64 j.nb)).setCell ⟨w.heap.size + 1, 5, none⟩ (.int .i64 j.nc)).setCell ⟨w.heap.size + 1, 6, none⟩ (.int .i64 j.la)).setCell ⟨w.heap.size + 1, 7, none⟩ (.int .i64 j.lb)).setCell ⟨w.heap.size + 1, 8, none⟩ (.int .i64 j.lc)).setCell ⟨w.heap.size + 1, 9, none⟩ (.int .i64 j.wl)).setCell ⟨w.heap.size + 1, 10, none⟩ (.int .i64 j.lv)).heap[w.heap.size]? = some (.cells #[.slice A n c, .slice B m1 d, .slice U nu cu, .slice R np cp, .slice L nl cl] 33 (0, 0))) := Lib.hid (bx_set11 (set5 T9.out.z0) (by omega) _ _ _ _ _ _ _ _ _ _ _)
      have YB : Hid (((((((((((((((((w9.setCell ⟨w.heap.size, 0, none⟩ (.slice A n c)).setCell ⟨w.heap.size, 1, none⟩ (.slice B m1 d)).setCell ⟨w.heap.size, 2, none⟩ (.slice U nu cu)).setCell ⟨w.heap.size, 3, none⟩ (.slice R np cp)).setCell ⟨w.heap.size, 4, none⟩ (.slice L nl cl)).setCell ⟨w.heap.size + 1, 0, none⟩ (.int .i64 j.id)).setCell ⟨w.heap.size + 1, 1, none⟩ (.int .i64 j.pr)).setCell ⟨w.heap.size + 1, 2, none⟩ (.int .i64 j.nn)).setCell ⟨w.heap.size + 1, 3, none⟩ (.int .i64 j.na)).setCell ⟨w.heap.size + 1, 4, none⟩ (.int .i64 j.nb)).setCell ⟨w.heap.size + 1, 5, none⟩ (.int .i64 j.nc)).setCell ⟨w.heap.size + 1, 6, none⟩ (.int .i64 j.la)).setCell ⟨w.heap.size + 1, 7, none⟩ (.int .i64 j.lb)).setCell ⟨w.heap.size + 1, 8, none⟩ (.int .i64 j.lc)).setCell ⟨w.heap.size + 1, 9, none⟩ (.int .i64 j.wl)).setCell ⟨w.heap.size + 1, 10, none⟩ (.int .i64 j.lv)).heap[w.heap.size + 1]? = some (.cells #[.int .i64 j.id, .int .i64 j.pr, .int .i64 j.nn, .int .i64 j.na, .int .i64 j.nb, .int .i64 j.nc, .int .i64 j.la, .int .i64 j.lb, .int .i64 j.lc, .int .i64 j.wl, .int .i64 j.lv] 37 (0, 0))) := Lib.hid (set11 (bx_set5 T9.out.z1 (by omega) _ _ _ _ _))
      have OD9 := Lib.hid (own_mono (lo' := w.heap.size) (own_fr OD.out FF.out (fun k hk e => by have := own_ge OD.out k hk; omega)) (by omega))
      clear FF
      go_region_held3 (fun w' => w'.cell? ⟨br, 0, none⟩ = some (.slice A n c) ∧ w'.cell? ⟨br, 1, none⟩ = some (.slice B m1 d) ∧ w'.cell? ⟨br, 2, none⟩ = some (.slice U nu cu) ∧ w'.cell? ⟨br, 3, none⟩ = some (.slice R np cp) ∧ w'.cell? ⟨br, 4, none⟩ = some (.slice L nl cl) ∧ w'.cell? ⟨bj, 0, none⟩ = some (.int .i64 j.id) ∧ w'.cell? ⟨bj, 1, none⟩ = some (.int .i64 j.pr) ∧ w'.cell? ⟨bj, 2, none⟩ = some (.int .i64 j.nn) ∧ w'.cell? ⟨bj, 3, none⟩ = some (.int .i64 j.na) ∧ w'.cell? ⟨bj, 4, none⟩ = some (.int .i64 j.nb) ∧ w'.cell? ⟨bj, 5, none⟩ = some (.int .i64 j.nc) ∧ w'.cell? ⟨bj, 6, none⟩ = some (.int .i64 j.la) ∧ w'.cell? ⟨bj, 7, none⟩ = some (.int .i64 j.lb) ∧ w'.cell? ⟨bj, 8, none⟩ = some (.int .i64 j.lc) ∧ w'.cell? ⟨bj, 9, none⟩ = some (.int .i64 j.wl) ∧ w'.cell? ⟨bj, 10, none⟩ = some (.int .i64 j.lv)) (simp [go_sem, *, World.cell?_alloc_some, World.cell?_setCell_far, Nat.lt_add_right, Nat.ne_of_gt]) (fail)
      clear k0 k1 k2 k3 k4 kf kl v0 v1 v2 v3 v4 v5 v6 v7 v8 v9 v10 vf vl z0 z1 z2 z3 z4 zf zl y0 y1 y2 y3 y4 y5 y6 y7 y8 y9 y10 yf yl
      generalize ((((((((((((((((w9.setCell ⟨w.heap.size, 0, none⟩ (.slice A n c)).setCell ⟨w.heap.size, 1, none⟩ (.slice B m1 d)).setCell ⟨w.heap.size, 2, none⟩ (.slice U nu cu)).setCell ⟨w.heap.size, 3, none⟩ (.slice R np cp)).setCell ⟨w.heap.size, 4, none⟩ (.slice L nl cl)).setCell ⟨w.heap.size + 1, 0, none⟩ (.int .i64 j.id)).setCell ⟨w.heap.size + 1, 1, none⟩ (.int .i64 j.pr)).setCell ⟨w.heap.size + 1, 2, none⟩ (.int .i64 j.nn)).setCell ⟨w.heap.size + 1, 3, none⟩ (.int .i64 j.na)).setCell ⟨w.heap.size + 1, 4, none⟩ (.int .i64 j.nb)).setCell ⟨w.heap.size + 1, 5, none⟩ (.int .i64 j.nc)).setCell ⟨w.heap.size + 1, 6, none⟩ (.int .i64 j.la)).setCell ⟨w.heap.size + 1, 7, none⟩ (.int .i64 j.lb)).setCell ⟨w.heap.size + 1, 8, none⟩ (.int .i64 j.lc)).setCell ⟨w.heap.size + 1, 9, none⟩ (.int .i64 j.wl)).setCell ⟨w.heap.size + 1, 10, none⟩ (.int .i64 j.lv)) = wz at *
      have z0 := bx_cell ZB.out 0 rfl
      have z1 := bx_cell ZB.out 1 rfl
      have z2 := bx_cell ZB.out 2 rfl
      have z3 := bx_cell ZB.out 3 rfl
      have z4 := bx_cell ZB.out 4 rfl
      have zf := bx_frz ZB.out
      have zl := heap_lt ZB.out
      simp only [List.getElem_toArray, List.getElem_cons_zero, List.getElem_cons_succ] at z0 z1 z2 z3 z4
      have y0 := bx_cell YB.out 0 rfl
      have y1 := bx_cell YB.out 1 rfl
      have y2 := bx_cell YB.out 2 rfl
      have y3 := bx_cell YB.out 3 rfl
      have y4 := bx_cell YB.out 4 rfl
      have y5 := bx_cell YB.out 5 rfl
      have y6 := bx_cell YB.out 6 rfl
      have y7 := bx_cell YB.out 7 rfl
      have y8 := bx_cell YB.out 8 rfl
      have y9 := bx_cell YB.out 9 rfl
      have y10 := bx_cell YB.out 10 rfl
      have yf := bx_frz YB.out
      have yl := heap_lt YB.out
      simp only [List.getElem_toArray, List.getElem_cons_zero, List.getElem_cons_succ] at y0 y1 y2 y3 y4 y5 y6 y7 y8 y9 y10
      go_wp2
      (try go_light)
      refine bodyPost_ret (v := .tuple #[.agg #[.slice A n c, .slice B m1 d, .slice U nu cu, .slice R np cp, .slice L nl cl], .agg #[.int .i64 j.id, .int .i64 j.pr, .int .i64 j.nn, .int .i64 j.na, .int .i64 j.nb, .int .i64 j.nc, .int .i64 j.la, .int .i64 j.lb, .int .i64 j.lc, .int .i64 j.wl, .int .i64 j.lv], .int .i64 x8, .slice D nd.length e9]) (by simp [results, Tryz.results31, go_sem, z0, z1, z2, z3, z4, zf, y0, y1, y2, y3, y4, y5, y6, y7, y8, y9, y10, yf]) rfl ?_
      exact ⟨⟨A, B, U, R, L, n, m1, nu, np, nl, c, d, cu, cp, cl⟩, j, x8, D, _, nd, rfl, by omega, ⟨r, FW.out, xs, RO.out.bel ((Below.refl _ wz).drew)⟩, own_bel OD9.out ((Below.refl _ wz).drew), BB.out.drew⟩
    · have OD := Lib.hid (own_mono (lo' := w.heap.size + 2) O7.out (by omega))
      go_upto_region 8 with fail
      have k0 := bx_cell T7.out.rb 0 rfl
      have k1 := bx_cell T7.out.rb 1 rfl
      have k2 := bx_cell T7.out.rb 2 rfl
      have k3 := bx_cell T7.out.rb 3 rfl
      have k4 := bx_cell T7.out.rb 4 rfl
      have kf := bx_frz T7.out.rb
      have kl := heap_lt T7.out.rb
      simp only [List.getElem_toArray, List.getElem_cons_zero, List.getElem_cons_succ] at k0 k1 k2 k3 k4
      have v0 := bx_cell T7.out.jb 0 rfl
      have v1 := bx_cell T7.out.jb 1 rfl
      have v2 := bx_cell T7.out.jb 2 rfl
      have v3 := bx_cell T7.out.jb 3 rfl
      have v4 := bx_cell T7.out.jb 4 rfl
      have v5 := bx_cell T7.out.jb 5 rfl
      have v6 := bx_cell T7.out.jb 6 rfl
      have v7 := bx_cell T7.out.jb 7 rfl
      have v8 := bx_cell T7.out.jb 8 rfl
      have v9 := bx_cell T7.out.jb 9 rfl
      have v10 := bx_cell T7.out.jb 10 rfl
      have vf := bx_frz T7.out.jb
      have vl := heap_lt T7.out.jb
      simp only [List.getElem_toArray, List.getElem_cons_zero, List.getElem_cons_succ] at v0 v1 v2 v3 v4 v5 v6 v7 v8 v9 v10
      have z0 := bx_cell T7.out.z0 0 rfl
      have z1 := bx_cell T7.out.z0 1 rfl
      have z2 := bx_cell T7.out.z0 2 rfl
      have z3 := bx_cell T7.out.z0 3 rfl
      have z4 := bx_cell T7.out.z0 4 rfl
      have zf := bx_frz T7.out.z0
      have zl := heap_lt T7.out.z0
      simp only [List.getElem_toArray, List.getElem_cons_zero, List.getElem_cons_succ] at z0 z1 z2 z3 z4
      have y0 := bx_cell T7.out.z1 0 rfl
      have y1 := bx_cell T7.out.z1 1 rfl
      have y2 := bx_cell T7.out.z1 2 rfl
      have y3 := bx_cell T7.out.z1 3 rfl
      have y4 := bx_cell T7.out.z1 4 rfl
      have y5 := bx_cell T7.out.z1 5 rfl
      have y6 := bx_cell T7.out.z1 6 rfl
      have y7 := bx_cell T7.out.z1 7 rfl
      have y8 := bx_cell T7.out.z1 8 rfl
      have y9 := bx_cell T7.out.z1 9 rfl
      have y10 := bx_cell T7.out.z1 10 rfl
      have yf := bx_frz T7.out.z1
      have yl := heap_lt T7.out.z1
      simp only [List.getElem_toArray, List.getElem_cons_zero, List.getElem_cons_succ] at y0 y1 y2 y3 y4 y5 y6 y7 y8 y9 y10
      have hh := T7.out.hb
      have n1 : w.heap.size ≠ br := by omega
      have n2 : w.heap.size ≠ bj := by omega
      have n3 : w.heap.size + 1 ≠ br := by omega
      have n4 : w.heap.size + 1 ≠ bj := by omega
      have n5 : br ≠ w.heap.size := by omega
      have n6 : bj ≠ w.heap.size := by omega
      have n7 : br ≠ w.heap.size + 1 := by omega
      have n8 : bj ≠ w.heap.size + 1 := by omega
      have FF := Lib.hid (((((((((((((((((Fr.refl (fun k => k < w.heap.size + 2) w7).setCell (p := ⟨w.heap.size, 0, none⟩) (Or.inl (by show w.heap.size < w.heap.size + 2; omega)) (.slice A n c)).setCell (p := ⟨w.heap.size, 1, none⟩) (Or.inl (by show w.heap.size < w.heap.size + 2; omega)) (.slice B m1 d)).setCell (p := ⟨w.heap.size, 2, none⟩) (Or.inl (by show w.heap.size < w.heap.size + 2; omega)) (.slice U nu cu)).setCell (p := ⟨w.heap.size, 3, none⟩) (Or.inl (by show w.heap.size < w.heap.size + 2; omega)) (.slice R np cp)).setCell (p := ⟨w.heap.size, 4, none⟩) (Or.inl (by show w.heap.size < w.heap.size + 2; omega)) (.slice L nl cl)).setCell (p := ⟨w.heap.size + 1, 0, none⟩) (Or.inl (by show w.heap.size + 1 < w.heap.size + 2; omega)) (.int .i64 j.id)).setCell (p := ⟨w.heap.size + 1, 1, none⟩) (Or.inl (by show w.heap.size + 1 < w.heap.size + 2; omega)) (.int .i64 j.pr)).setCell (p := ⟨w.heap.size + 1, 2, none⟩) (Or.inl (by show w.heap.size + 1 < w.heap.size + 2; omega)) (.int .i64 j.nn)).setCell (p := ⟨w.heap.size + 1, 3, none⟩) (Or.inl (by show w.heap.size + 1 < w.heap.size + 2; omega)) (.int .i64 j.na)).setCell (p := ⟨w.heap.size + 1, 4, none⟩) (Or.inl (by show w.heap.size + 1 < w.heap.size + 2; omega)) (.int .i64 j.nb)).setCell (p := ⟨w.heap.size + 1, 5, none⟩) (Or.inl (by show w.heap.size + 1 < w.heap.size + 2; omega)) (.int .i64 j.nc)).setCell (p := ⟨w.heap.size + 1, 6, none⟩) (Or.inl (by show w.heap.size + 1 < w.heap.size + 2; omega)) (.int .i64 j.la)).setCell (p := ⟨w.heap.size + 1, 7, none⟩) (Or.inl (by show w.heap.size + 1 < w.heap.size + 2; omega)) (.int .i64 j.lb)).setCell (p := ⟨w.heap.size + 1, 8, none⟩) (Or.inl (by show w.heap.size + 1 < w.heap.size + 2; omega)) (.int .i64 j.lc)).setCell (p := ⟨w.heap.size + 1, 9, none⟩) (Or.inl (by show w.heap.size + 1 < w.heap.size + 2; omega)) (.int .i64 j.wl)).setCell (p := ⟨w.heap.size + 1, 10, none⟩) (Or.inl (by show w.heap.size + 1 < w.heap.size + 2; omega)) (.int .i64 j.lv))
      have BB : Hid (Below w.heap.size w ((((((((((((((((w7.setCell ⟨w.heap.size, 0, none⟩ (.slice A n c)).setCell ⟨w.heap.size, 1, none⟩ (.slice B m1 d)).setCell ⟨w.heap.size, 2, none⟩ (.slice U nu cu)).setCell ⟨w.heap.size, 3, none⟩ (.slice R np cp)).setCell ⟨w.heap.size, 4, none⟩ (.slice L nl cl)).setCell ⟨w.heap.size + 1, 0, none⟩ (.int .i64 j.id)).setCell ⟨w.heap.size + 1, 1, none⟩ (.int .i64 j.pr)).setCell ⟨w.heap.size + 1, 2, none⟩ (.int .i64 j.nn)).setCell ⟨w.heap.size + 1, 3, none⟩ (.int .i64 j.na)).setCell ⟨w.heap.size + 1, 4, none⟩ (.int .i64 j.nb)).setCell ⟨w.heap.size + 1, 5, none⟩ (.int .i64 j.nc)).setCell ⟨w.heap.size + 1, 6, none⟩ (.int .i64 j.la)).setCell ⟨w.heap.size + 1, 7, none⟩ (.int .i64 j.lb)).setCell ⟨w.heap.size + 1, 8, none⟩ (.int .i64 j.lc)).setCell ⟨w.heap.size + 1, 9, none⟩ (.int .i64 j.wl)).setCell ⟨w.heap.size + 1, 10, none⟩ (.int .i64 j.lv))) := Lib.hid (Below.setCell (Below.setCell (Below.setCell (Below.setCell (Below.setCell (Below.setCell (Below.setCell (Below.setCell (Below.setCell (Below.setCell (Below.setCell (Below.setCell (Below.setCell (Below.setCell (Below.setCell (Below.setCell T7.out.bel (p := ⟨w.heap.size, 0, none⟩) (by show w.heap.size ≤ w.heap.size; omega) _) (p := ⟨w.heap.size, 1, none⟩) (by show w.heap.size ≤ w.heap.size; omega) _) (p := ⟨w.heap.size, 2, none⟩) (by show w.heap.size ≤ w.heap.size; omega) _) (p := ⟨w.heap.size, 3, none⟩) (by show w.heap.size ≤ w.heap.size; omega) _) (p := ⟨w.heap.size, 4, none⟩) (by show w.heap.size ≤ w.heap.size; omega) _) (p := ⟨w.heap.size + 1, 0, none⟩) (by show w.heap.size ≤ w.heap.size + 1; omega) _) (p := ⟨w.heap.size + 1, 1, none⟩) (by show w.heap.size ≤ w.heap.size + 1; omega) _) (p := ⟨w.heap.size + 1, 2, none⟩) (by show w.heap.size ≤ w.heap.size + 1; omega) _) (p := ⟨w.heap.size + 1, 3, none⟩) (by show w.heap.size ≤ w.heap.size + 1; omega) _) (p := ⟨w.heap.size + 1, 4, none⟩) (by show w.heap.size ≤ w.heap.size + 1; omega) _) (p := ⟨w.heap.size + 1, 5, none⟩) (by show w.heap.size ≤ w.heap.size + 1; omega) _) (p := ⟨w.heap.size + 1, 6, none⟩) (by show w.heap.size ≤ w.heap.size + 1; omega) _) (p := ⟨w.heap.size + 1, 7, none⟩) (by show w.heap.size ≤ w.heap.size + 1; omega) _) (p := ⟨w.heap.size + 1, 8, none⟩) (by show w.heap.size ≤ w.heap.size + 1; omega) _) (p := ⟨w.heap.size + 1, 9, none⟩) (by show w.heap.size ≤ w.heap.size + 1; omega) _) (p := ⟨w.heap.size + 1, 10, none⟩) (by show w.heap.size ≤ w.heap.size + 1; omega) _)
      have RO := Lib.hid ((T7.out.own.fr FF.out (fun k hk e => by have := (room_rng2 T7.out.own k hk).1; omega)).mono (lo' := w.heap.size) (by omega))
      have ZB : Hid (((((((((((((((((w7.setCell ⟨w.heap.size, 0, none⟩ (.slice A n c)).setCell ⟨w.heap.size, 1, none⟩ (.slice B m1 d)).setCell ⟨w.heap.size, 2, none⟩ (.slice U nu cu)).setCell ⟨w.heap.size, 3, none⟩ (.slice R np cp)).setCell ⟨w.heap.size, 4, none⟩ (.slice L nl cl)).setCell ⟨w.heap.size + 1, 0, none⟩ (.int .i64 j.id)).setCell ⟨w.heap.size + 1, 1, none⟩ (.int .i64 j.pr)).setCell ⟨w.heap.size + 1, 2, none⟩ (.int .i64 j.nn)).setCell ⟨w.heap.size + 1, 3, none⟩ (.int .i64 j.na)).setCell ⟨w.heap.size + 1, 4, none⟩ (.int .i64 j.nb)).setCell ⟨w.heap.size + 1, 5, none⟩ (.int .i64 j.nc)).setCell ⟨w.heap.size + 1, 6, none⟩ (.int .i64 j.la)).setCell ⟨w.heap.size + 1, 7, none⟩ (.int .i64 j.lb)).setCell ⟨w.heap.size + 1, 8, none⟩ (.int .i64 j.lc)).setCell ⟨w.heap.size + 1, 9, none⟩ (.int .i64 j.wl)).setCell ⟨w.heap.size + 1, 10, none⟩ (.int .i64 j.lv)).heap[w.heap.size]? = some (.cells #[.slice A n c, .slice B m1 d, .slice U nu cu, .slice R np cp, .slice L nl cl] 33 (0, 0))) := Lib.hid (bx_set11 (set5 T7.out.z0) (by omega) _ _ _ _ _ _ _ _ _ _ _)
      have YB : Hid (((((((((((((((((w7.setCell ⟨w.heap.size, 0, none⟩ (.slice A n c)).setCell ⟨w.heap.size, 1, none⟩ (.slice B m1 d)).setCell ⟨w.heap.size, 2, none⟩ (.slice U nu cu)).setCell ⟨w.heap.size, 3, none⟩ (.slice R np cp)).setCell ⟨w.heap.size, 4, none⟩ (.slice L nl cl)).setCell ⟨w.heap.size + 1, 0, none⟩ (.int .i64 j.id)).setCell ⟨w.heap.size + 1, 1, none⟩ (.int .i64 j.pr)).setCell ⟨w.heap.size + 1, 2, none⟩ (.int .i64 j.nn)).setCell ⟨w.heap.size + 1, 3, none⟩ (.int .i64 j.na)).setCell ⟨w.heap.size + 1, 4, none⟩ (.int .i64 j.nb)).setCell ⟨w.heap.size + 1, 5, none⟩ (.int .i64 j.nc)).setCell ⟨w.heap.size + 1, 6, none⟩ (.int .i64 j.la)).setCell ⟨w.heap.size + 1, 7, none⟩ (.int .i64 j.lb)).setCell ⟨w.heap.size + 1, 8, none⟩ (.int .i64 j.lc)).setCell ⟨w.heap.size + 1, 9, none⟩ (.int .i64 j.wl)).setCell ⟨w.heap.size + 1, 10, none⟩ (.int .i64 j.lv)).heap[w.heap.size + 1]? = some (.cells #[.int .i64 j.id, .int .i64 j.pr, .int .i64 j.nn, .int .i64 j.na, .int .i64 j.nb, .int .i64 j.nc, .int .i64 j.la, .int .i64 j.lb, .int .i64 j.lc, .int .i64 j.wl, .int .i64 j.lv] 37 (0, 0))) := Lib.hid (set11 (bx_set5 T7.out.z1 (by omega) _ _ _ _ _))
      have OD9 := Lib.hid (own_mono (lo' := w.heap.size) (own_fr OD.out FF.out (fun k hk e => by have := own_ge OD.out k hk; omega)) (by omega))
      clear FF
      go_region_held3 (fun w' => w'.cell? ⟨br, 0, none⟩ = some (.slice A n c) ∧ w'.cell? ⟨br, 1, none⟩ = some (.slice B m1 d) ∧ w'.cell? ⟨br, 2, none⟩ = some (.slice U nu cu) ∧ w'.cell? ⟨br, 3, none⟩ = some (.slice R np cp) ∧ w'.cell? ⟨br, 4, none⟩ = some (.slice L nl cl) ∧ w'.cell? ⟨bj, 0, none⟩ = some (.int .i64 j.id) ∧ w'.cell? ⟨bj, 1, none⟩ = some (.int .i64 j.pr) ∧ w'.cell? ⟨bj, 2, none⟩ = some (.int .i64 j.nn) ∧ w'.cell? ⟨bj, 3, none⟩ = some (.int .i64 j.na) ∧ w'.cell? ⟨bj, 4, none⟩ = some (.int .i64 j.nb) ∧ w'.cell? ⟨bj, 5, none⟩ = some (.int .i64 j.nc) ∧ w'.cell? ⟨bj, 6, none⟩ = some (.int .i64 j.la) ∧ w'.cell? ⟨bj, 7, none⟩ = some (.int .i64 j.lb) ∧ w'.cell? ⟨bj, 8, none⟩ = some (.int .i64 j.lc) ∧ w'.cell? ⟨bj, 9, none⟩ = some (.int .i64 j.wl) ∧ w'.cell? ⟨bj, 10, none⟩ = some (.int .i64 j.lv)) (simp [go_sem, *, World.cell?_alloc_some, World.cell?_setCell_far, Nat.lt_add_right, Nat.ne_of_gt]) (fail)
      clear k0 k1 k2 k3 k4 kf kl v0 v1 v2 v3 v4 v5 v6 v7 v8 v9 v10 vf vl z0 z1 z2 z3 z4 zf zl y0 y1 y2 y3 y4 y5 y6 y7 y8 y9 y10 yf yl
      generalize ((((((((((((((((w7.setCell ⟨w.heap.size, 0, none⟩ (.slice A n c)).setCell ⟨w.heap.size, 1, none⟩ (.slice B m1 d)).setCell ⟨w.heap.size, 2, none⟩ (.slice U nu cu)).setCell ⟨w.heap.size, 3, none⟩ (.slice R np cp)).setCell ⟨w.heap.size, 4, none⟩ (.slice L nl cl)).setCell ⟨w.heap.size + 1, 0, none⟩ (.int .i64 j.id)).setCell ⟨w.heap.size + 1, 1, none⟩ (.int .i64 j.pr)).setCell ⟨w.heap.size + 1, 2, none⟩ (.int .i64 j.nn)).setCell ⟨w.heap.size + 1, 3, none⟩ (.int .i64 j.na)).setCell ⟨w.heap.size + 1, 4, none⟩ (.int .i64 j.nb)).setCell ⟨w.heap.size + 1, 5, none⟩ (.int .i64 j.nc)).setCell ⟨w.heap.size + 1, 6, none⟩ (.int .i64 j.la)).setCell ⟨w.heap.size + 1, 7, none⟩ (.int .i64 j.lb)).setCell ⟨w.heap.size + 1, 8, none⟩ (.int .i64 j.lc)).setCell ⟨w.heap.size + 1, 9, none⟩ (.int .i64 j.wl)).setCell ⟨w.heap.size + 1, 10, none⟩ (.int .i64 j.lv)) = wz at *
      have z0 := bx_cell ZB.out 0 rfl
      have z1 := bx_cell ZB.out 1 rfl
      have z2 := bx_cell ZB.out 2 rfl
      have z3 := bx_cell ZB.out 3 rfl
      have z4 := bx_cell ZB.out 4 rfl
      have zf := bx_frz ZB.out
      have zl := heap_lt ZB.out
      simp only [List.getElem_toArray, List.getElem_cons_zero, List.getElem_cons_succ] at z0 z1 z2 z3 z4
      have y0 := bx_cell YB.out 0 rfl
      have y1 := bx_cell YB.out 1 rfl
      have y2 := bx_cell YB.out 2 rfl
      have y3 := bx_cell YB.out 3 rfl
      have y4 := bx_cell YB.out 4 rfl
      have y5 := bx_cell YB.out 5 rfl
      have y6 := bx_cell YB.out 6 rfl
      have y7 := bx_cell YB.out 7 rfl
      have y8 := bx_cell YB.out 8 rfl
      have y9 := bx_cell YB.out 9 rfl
      have y10 := bx_cell YB.out 10 rfl
      have yf := bx_frz YB.out
      have yl := heap_lt YB.out
      simp only [List.getElem_toArray, List.getElem_cons_zero, List.getElem_cons_succ] at y0 y1 y2 y3 y4 y5 y6 y7 y8 y9 y10
      go_wp2
      (try go_light)
      refine bodyPost_ret (v := .tuple #[.agg #[.slice A n c, .slice B m1 d, .slice U nu cu, .slice R np cp, .slice L nl cl], .agg #[.int .i64 j.id, .int .i64 j.pr, .int .i64 j.nn, .int .i64 j.na, .int .i64 j.nb, .int .i64 j.nc, .int .i64 j.la, .int .i64 j.lb, .int .i64 j.lc, .int .i64 j.wl, .int .i64 j.lv], .int .i64 et, .slice X6 el.length c6]) (by simp [results, Tryz.results31, go_sem, z0, z1, z2, z3, z4, zf, y0, y1, y2, y3, y4, y5, y6, y7, y8, y9, y10, yf]) rfl ?_
      exact ⟨⟨A, B, U, R, L, n, m1, nu, np, nl, c, d, cu, cp, cl⟩, j, et, X6, _, el, rfl, hell, ⟨r, FW.out, xs, RO.out.bel ((Below.refl _ wz).drew)⟩, own_bel OD9.out ((Below.refl _ wz).drew), BB.out.drew⟩

end Go.Proofs.YtdppjjdhidkjoaaGreat
