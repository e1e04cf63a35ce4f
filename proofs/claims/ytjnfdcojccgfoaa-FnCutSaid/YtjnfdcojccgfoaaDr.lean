/-
  Drawn spans, and what is drawn for FnMin and FnCut.
-/
import Derived.Test.YtjnfdcojccgfoaaDq
namespace Go.Proofs.Ytjnfdcojccgfoaa
set_option linter.unusedSimpArgs false
set_option linter.unusedVariables false
set_option linter.unnecessarySimpa false
open Go.RowKit

set_option maxHeartbeats 2000000 in
theorem cur_span (g : Nat) (w : World) (h : Cur w g) :
    Calls Try.prog 150 #[.pointer (some ⟨g, 0, none⟩)] w fun e w' => ∃ x y : Int, e = .returned (.tuple #[.int .i64 x, .int .i64 y]) ∧ in64 x ∧ in64 y ∧ Cur w' g ∧ Fr (· = g) w w' := by
  have C := Lib.hid h
  clear h
  go_enter Try.func150, Try.ntmps150
  go_wp2_with fail
  refine (cur_below g 80 _ C.out (by omega) (by omega)).mono ?_
  rintro e w1 ⟨x1, rfl, a1, q1, cu1, fr1⟩
  have hs1 := fr1.size
  (try simp at hs1)
  have C1 := Lib.hid cu1
  have hgl1 := cu1.lt
  clear cu1
  go_wp2_with fail
  refine (cur_below g 50 _ C1.out (by omega) (by omega)).mono ?_
  rintro e w2 ⟨x2, rfl, a2, q2, cu2, fr2⟩
  have hs2 := fr2.size
  (try simp at hs2)
  have C2 := Lib.hid cu2
  have hgl2 := cu2.lt
  clear cu2
  go_wp2_with fail
  refine (cur_below g 12 _ C2.out (by omega) (by omega)).mono ?_
  rintro e w3 ⟨x3, rfl, a3, q3, cu3, fr3⟩
  have hs3 := fr3.size
  (try simp at hs3)
  have C3 := Lib.hid cu3
  have hgl3 := cu3.lt
  clear cu3
  have I1 : in64 x1 := ⟨by omega, by omega⟩
  have I2 : in64 (x1 + 1 + x2) := ⟨by omega, by omega⟩
  by_cases e0 : x3 = 0
  · subst e0
    go_wp2_with fail
    refine (cur_raw g _ C3.out).mono ?_
    rintro e w4 ⟨x4, rfl, a4, cu4, fr4⟩
    have hs4 := fr4.size
    (try simp at hs4)
    have C4 := Lib.hid cu4
    have hgl4 := cu4.lt
    clear cu4
    go_wp2
    go_ret2
    exact ⟨_, _, rfl, a4, I2, C4.out, ((fr1.trans fr2).trans fr3).trans fr4⟩
  by_cases e1 : x3 = 1
  · subst e1
    go_wp2_with fail
    refine (cur_raw g _ C3.out).mono ?_
    rintro e w4 ⟨x4, rfl, a4, cu4, fr4⟩
    have hs4 := fr4.size
    (try simp at hs4)
    have C4 := Lib.hid cu4
    have hgl4 := cu4.lt
    clear cu4
    go_wp2
    go_ret2
    exact ⟨_, _, rfl, I1, a4, C4.out, ((fr1.trans fr2).trans fr3).trans fr4⟩
  by_cases e2 : x3 = 2
  · subst e2
    go_wp2
    go_ret2
    exact ⟨_, _, rfl, I1, ⟨by omega, by omega⟩, C3.out, (fr1.trans fr2).trans fr3⟩
  go_wp2
  go_ret2
  exact ⟨_, _, rfl, I1, I2, C3.out, (fr1.trans fr2).trans fr3⟩

set_option maxHeartbeats 4000000 in
theorem drawProfMin_any (A0 : Option Addr) (n c0 : Nat) (w : World) (hn : n ≤ 1048576) (h : ByIn w A0 n) :
    Calls Try.prog 89 #[.slice A0 n c0] w fun e w' => ∃ (A : Option Addr) (c : Nat) (ps : List Q) (lo hi : Int), e = .returned (.tuple #[.agg #[.slice A ps.length c], .int .i64 lo, .int .i64 hi]) ∧ ps.length ≤ 12 ∧ in64 lo ∧ in64 hi ∧ w'.ownsRow w.heap.size 97 4 (.slice A ps.length c) ps.length (flat ps) ∧ Below w.heap.size w w' := by
  have HB := Lib.hid h
  clear h
  go_enter Try.func89, Try.ntmps89
  go_wp2_with fail
  refine (cur_new A0 n c0 _ hn (HB.out.below (by repeat (first | exact Below.refl _ _ | assumption | (refine bstep ?_ (below_drewN _ _)) | exact bstep (by assumption) (by assumption) | (refine bstep ?_ (below_alloc _ _)) | (refine bstep ?_ (by assumption)) | (refine Below.setCell ?_ (by simp <;> omega) _) | refine Below.drew ?_)))).mono ?_
  rintro e w1 ⟨g, rfl, hg, cu1, hb1⟩
  have hs1 := hb1.size
  (try simp at hs1)
  have hy10 : w.heap.size < w1.heap.size := by omega
  have hk10 := fun o => hb1.cell (p := ⟨w.heap.size, o, none⟩) (by first | omega | (simp <;> omega))
  have hg10 := fun o => hb1.frozen (p := ⟨w.heap.size, o, none⟩) (by first | omega | (simp <;> omega))
  have hgl := cu1.lt
  simp at hg
  have C1 := Lib.hid cu1
  clear cu1
  have B1 : Below w.heap.size w w1 := bstep (below_alloc _ _) hb1
  go_wp2_with fail
  refine (cur_profAny g _ (by repeat (first | exact C1.out | refine Cur.alloc ?_ _ | refine Cur.drewN ?_ _ | refine Cur.drew ?_ | refine Cur.set ?_ (by simp <;> omega) _))).mono ?_
  rintro e w2 ⟨A, c, ps, rfl, hp, oa, cu2, fr2⟩
  have hs2 := fr2.size
  (try simp at hs2)
  have hy20 : w.heap.size < w2.heap.size := by omega
  have hk20 := fun o => fr2.cell (b := w.heap.size) (by first | omega | (simp <;> omega)) (by omega) o
  have hg20 := fun o => fr2.frozen (b := w.heap.size) (by first | omega | (simp <;> omega)) (by omega) o
  have C2 := Lib.hid cu2
  have hgl2 := cu2.lt
  clear cu2
  have B2 : Below w.heap.size w w2 := Below.trans (by repeat (first | with_reducible exact B1 | with_reducible exact Below.refl _ _ | (with_reducible refine Below.setCell ?_ ?_ _; rotate_left; focus (simp <;> omega)) | (with_reducible refine Below.alloc ?_ ?_ _; rotate_left; focus (first | omega | (simp <;> omega))) | with_reducible refine below_drewN9 ?_ _ | with_reducible refine Below.drew ?_)) (fr2.bel (B := w.heap.size) (fun k e => by omega) (by first | omega | (simp <;> omega)))
  have OA := Lib.hid (own_mono oa (show w.heap.size ≤ w1.heap.size by omega))
  have RS := Lib.hid (own_ge oa)
  clear oa
  go_wp2_with fail
  refine (cur_span g _ (by repeat (first | exact C2.out | refine Cur.alloc ?_ _ | refine Cur.drewN ?_ _ | refine Cur.drew ?_ | refine Cur.set ?_ (by simp <;> omega) _))).mono ?_
  rintro e w3 ⟨lo, hi, rfl, i1, i2, cu3, fr3⟩
  have hs3 := fr3.size
  (try simp at hs3)
  have hy30 : w.heap.size < w3.heap.size := by omega
  have hk30 := fun o => fr3.cell (b := w.heap.size) (by first | omega | (simp <;> omega)) (by omega) o
  have hg30 := fun o => fr3.frozen (b := w.heap.size) (by first | omega | (simp <;> omega)) (by omega) o
  have hy31 : w2.heap.size < w3.heap.size := by omega
  have hk31 := fun o => fr3.cell (b := w2.heap.size) (by first | omega | (simp <;> omega)) (by omega) o
  have hg31 := fun o => fr3.frozen (b := w2.heap.size) (by first | omega | (simp <;> omega)) (by omega) o
  have C3 := Lib.hid cu3
  have hgl3 := cu3.lt
  clear cu3
  have B3 : Below w.heap.size w w3 := Below.trans (by repeat (first | with_reducible exact B2 | with_reducible exact Below.refl _ _ | (with_reducible refine Below.setCell ?_ ?_ _; rotate_left; focus (simp <;> omega)) | (with_reducible refine Below.alloc ?_ ?_ _; rotate_left; focus (first | omega | (simp <;> omega))) | with_reducible refine below_drewN9 ?_ _ | with_reducible refine Below.drew ?_)) (fr3.bel (B := w.heap.size) (fun k e => by omega) (by first | omega | (simp <;> omega)))
  have OA3 := Lib.hid (own_fr (own_bel OA.out (below_alloc _ (.cells #[.slice A ps.length c] 35))) fr3 (fun k hk e => by have := RS.out k hk; omega))
  clear fr2 fr3 hb1
  have NA : Hid (∀ k, (Value.slice A ps.length c).ownBlock = some k → k ≠ w.heap.size) := Lib.hid (fun k hk => by have := RS.out k hk; omega)
  go_wp2
  (try go_light)
  refine bodyPost_ret (v := .tuple #[.agg #[.slice A ps.length c], .int .i64 lo, .int .i64 hi]) (by simp [results, Try.results89, go_sem, *]) rfl ?_
  refine ⟨A, c, ps, lo, hi, rfl, hp, i1, i2, ?_, ?_⟩
  · exact own_set (a := ⟨w.heap.size, 0, none⟩) OA3.out NA.out _
  · exact (by repeat (first | with_reducible exact B3 | with_reducible exact Below.refl _ _ | (with_reducible refine Below.setCell ?_ ?_ _; rotate_left; focus (simp <;> omega)) | (with_reducible refine Below.alloc ?_ ?_ _; rotate_left; focus (first | omega | (simp <;> omega))) | with_reducible refine below_drewN9 ?_ _ | with_reducible refine Below.drew ?_))

set_option maxHeartbeats 4000000 in
theorem drawProfCut_any (A0 : Option Addr) (n c0 : Nat) (w : World) (hn : n ≤ 1048576) (h : ByIn w A0 n) :
    Calls Try.prog 88 #[.slice A0 n c0] w fun e w' => ∃ (A : Option Addr) (c : Nat) (ps : List Q) (t : Int), e = .returned (.tuple #[.agg #[.slice A ps.length c], .int .i64 t]) ∧ ps.length ≤ 12 ∧ in64 t ∧ w'.ownsRow w.heap.size 97 4 (.slice A ps.length c) ps.length (flat ps) ∧ Below w.heap.size w w' := by
  have HB := Lib.hid h
  clear h
  go_enter Try.func88, Try.ntmps88
  go_wp2_with fail
  refine (cur_new A0 n c0 _ hn (HB.out.below (by repeat (first | exact Below.refl _ _ | assumption | (refine bstep ?_ (below_drewN _ _)) | exact bstep (by assumption) (by assumption) | (refine bstep ?_ (below_alloc _ _)) | (refine bstep ?_ (by assumption)) | (refine Below.setCell ?_ (by simp <;> omega) _) | refine Below.drew ?_)))).mono ?_
  rintro e w1 ⟨g, rfl, hg, cu1, hb1⟩
  have hs1 := hb1.size
  (try simp at hs1)
  have hy10 : w.heap.size < w1.heap.size := by omega
  have hk10 := fun o => hb1.cell (p := ⟨w.heap.size, o, none⟩) (by first | omega | (simp <;> omega))
  have hg10 := fun o => hb1.frozen (p := ⟨w.heap.size, o, none⟩) (by first | omega | (simp <;> omega))
  have hgl := cu1.lt
  simp at hg
  have C1 := Lib.hid cu1
  clear cu1
  have B1 : Below w.heap.size w w1 := bstep (below_alloc _ _) hb1
  go_wp2_with fail
  refine (cur_profAny g _ (by repeat (first | exact C1.out | refine Cur.alloc ?_ _ | refine Cur.drewN ?_ _ | refine Cur.drew ?_ | refine Cur.set ?_ (by simp <;> omega) _))).mono ?_
  rintro e w2 ⟨A, c, ps, rfl, hp, oa, cu2, fr2⟩
  have hs2 := fr2.size
  (try simp at hs2)
  have hy20 : w.heap.size < w2.heap.size := by omega
  have hk20 := fun o => fr2.cell (b := w.heap.size) (by first | omega | (simp <;> omega)) (by omega) o
  have hg20 := fun o => fr2.frozen (b := w.heap.size) (by first | omega | (simp <;> omega)) (by omega) o
  have C2 := Lib.hid cu2
  have hgl2 := cu2.lt
  clear cu2
  have B2 : Below w.heap.size w w2 := Below.trans (by repeat (first | with_reducible exact B1 | with_reducible exact Below.refl _ _ | (with_reducible refine Below.setCell ?_ ?_ _; rotate_left; focus (simp <;> omega)) | (with_reducible refine Below.alloc ?_ ?_ _; rotate_left; focus (first | omega | (simp <;> omega))) | with_reducible refine below_drewN9 ?_ _ | with_reducible refine Below.drew ?_)) (fr2.bel (B := w.heap.size) (fun k e => by omega) (by first | omega | (simp <;> omega)))
  have OA := Lib.hid (own_mono oa (show w.heap.size ≤ w1.heap.size by omega))
  have RS := Lib.hid (own_ge oa)
  clear oa
  go_wp2_with fail
  refine (cur_below g 110 _ (by repeat (first | exact C2.out | refine Cur.alloc ?_ _ | refine Cur.drewN ?_ _ | refine Cur.drew ?_ | refine Cur.set ?_ (by simp <;> omega) _)) (by omega) (by omega)).mono ?_
  rintro e w3 ⟨t, rfl, ta, tb, cu3, fr3⟩
  have hs3 := fr3.size
  (try simp at hs3)
  have hy30 : w.heap.size < w3.heap.size := by omega
  have hk30 := fun o => fr3.cell (b := w.heap.size) (by first | omega | (simp <;> omega)) (by omega) o
  have hg30 := fun o => fr3.frozen (b := w.heap.size) (by first | omega | (simp <;> omega)) (by omega) o
  have hy31 : w2.heap.size < w3.heap.size := by omega
  have hk31 := fun o => fr3.cell (b := w2.heap.size) (by first | omega | (simp <;> omega)) (by omega) o
  have hg31 := fun o => fr3.frozen (b := w2.heap.size) (by first | omega | (simp <;> omega)) (by omega) o
  have C3 := Lib.hid cu3
  have hgl3 := cu3.lt
  clear cu3
  have B3 : Below w.heap.size w w3 := Below.trans (by repeat (first | with_reducible exact B2 | with_reducible exact Below.refl _ _ | (with_reducible refine Below.setCell ?_ ?_ _; rotate_left; focus (simp <;> omega)) | (with_reducible refine Below.alloc ?_ ?_ _; rotate_left; focus (first | omega | (simp <;> omega))) | with_reducible refine below_drewN9 ?_ _ | with_reducible refine Below.drew ?_)) (fr3.bel (B := w.heap.size) (fun k e => by omega) (by first | omega | (simp <;> omega)))
  have OA3 := Lib.hid (own_fr (own_bel OA.out (below_alloc _ (.cells #[.slice A ps.length c] 35))) fr3 (fun k hk e => by have := RS.out k hk; omega))
  go_wp2_with fail
  refine (cur_below g 9 _ (by repeat (first | exact C3.out | refine Cur.alloc ?_ _ | refine Cur.drewN ?_ _ | refine Cur.drew ?_ | refine Cur.set ?_ (by simp <;> omega) _)) (by omega) (by omega)).mono ?_
  rintro e w4 ⟨z, rfl, za, zb, cu4, fr4⟩
  have hs4 := fr4.size
  (try simp at hs4)
  have hy40 : w.heap.size < w4.heap.size := by omega
  have hk40 := fun o => fr4.cell (b := w.heap.size) (by first | omega | (simp <;> omega)) (by omega) o
  have hg40 := fun o => fr4.frozen (b := w.heap.size) (by first | omega | (simp <;> omega)) (by omega) o
  have hy41 : w2.heap.size < w4.heap.size := by omega
  have hk41 := fun o => fr4.cell (b := w2.heap.size) (by first | omega | (simp <;> omega)) (by omega) o
  have hg41 := fun o => fr4.frozen (b := w2.heap.size) (by first | omega | (simp <;> omega)) (by omega) o
  have C4 := Lib.hid cu4
  have hgl4 := cu4.lt
  clear cu4
  have B4 : Below w.heap.size w w4 := Below.trans (by repeat (first | with_reducible exact B3 | with_reducible exact Below.refl _ _ | (with_reducible refine Below.setCell ?_ ?_ _; rotate_left; focus (simp <;> omega)) | (with_reducible refine Below.alloc ?_ ?_ _; rotate_left; focus (first | omega | (simp <;> omega))) | with_reducible refine below_drewN9 ?_ _ | with_reducible refine Below.drew ?_)) (fr4.bel (B := w.heap.size) (fun k e => by omega) (by first | omega | (simp <;> omega)))
  have OA4 := Lib.hid (own_fr OA3.out fr4 (fun k hk e => by have := RS.out k hk; omega))
  by_cases e0 : z = 0
  · subst e0
    go_wp2_with fail
    refine (cur_raw g _ (by repeat (first | exact C4.out | refine Cur.alloc ?_ _ | refine Cur.drewN ?_ _ | refine Cur.drew ?_ | refine Cur.set ?_ (by simp <;> omega) _))).mono ?_
    rintro e w5 ⟨t5, rfl, i5, cu5, fr5⟩
    have hs5 := fr5.size
    (try simp at hs5)
    have hy50 : w.heap.size < w5.heap.size := by omega
    have hk50 := fun o => fr5.cell (b := w.heap.size) (by first | omega | (simp <;> omega)) (by omega) o
    have hg50 := fun o => fr5.frozen (b := w.heap.size) (by first | omega | (simp <;> omega)) (by omega) o
    have hy51 : w2.heap.size < w5.heap.size := by omega
    have hk51 := fun o => fr5.cell (b := w2.heap.size) (by first | omega | (simp <;> omega)) (by omega) o
    have hg51 := fun o => fr5.frozen (b := w2.heap.size) (by first | omega | (simp <;> omega)) (by omega) o
    have C5 := Lib.hid cu5
    have hgl5 := cu5.lt
    clear cu5
    have B5 : Below w.heap.size w w5 := Below.trans (by repeat (first | with_reducible exact B4 | with_reducible exact Below.refl _ _ | (with_reducible refine Below.setCell ?_ ?_ _; rotate_left; focus (simp <;> omega)) | (with_reducible refine Below.alloc ?_ ?_ _; rotate_left; focus (first | omega | (simp <;> omega))) | with_reducible refine below_drewN9 ?_ _ | with_reducible refine Below.drew ?_)) (fr5.bel (B := w.heap.size) (fun k e => by omega) (by first | omega | (simp <;> omega)))
    have OA5 := Lib.hid (own_fr OA4.out fr5 (fun k hk e => by have := RS.out k hk; omega))
    clear fr4 fr5
    clear fr2 fr3 hb1
    have NA : Hid (∀ k, (Value.slice A ps.length c).ownBlock = some k → k ≠ w.heap.size) := Lib.hid (fun k hk => by have := RS.out k hk; omega)
    go_wp2
    (try go_light)
    refine bodyPost_ret (v := .tuple #[.agg #[.slice A ps.length c], .int .i64 t5]) (by simp [results, Try.results88, go_sem, *]) rfl ?_
    refine ⟨A, c, ps, t5, rfl, hp, i5, ?_, ?_⟩
    · exact own_set (a := ⟨w.heap.size, 0, none⟩) OA5.out NA.out _
    · exact (by repeat (first | with_reducible exact B5 | with_reducible exact Below.refl _ _ | (with_reducible refine Below.setCell ?_ ?_ _; rotate_left; focus (simp <;> omega)) | (with_reducible refine Below.alloc ?_ ?_ _; rotate_left; focus (first | omega | (simp <;> omega))) | with_reducible refine below_drewN9 ?_ _ | with_reducible refine Below.drew ?_))
  have I3 : in64 t := ⟨by omega, by omega⟩
  clear fr4
  clear fr2 fr3 hb1
  have NA : Hid (∀ k, (Value.slice A ps.length c).ownBlock = some k → k ≠ w.heap.size) := Lib.hid (fun k hk => by have := RS.out k hk; omega)
  go_wp2
  (try go_light)
  refine bodyPost_ret (v := .tuple #[.agg #[.slice A ps.length c], .int .i64 t]) (by simp [results, Try.results88, go_sem, *]) rfl ?_
  refine ⟨A, c, ps, t, rfl, hp, I3, ?_, ?_⟩
  · exact own_set (a := ⟨w.heap.size, 0, none⟩) OA4.out NA.out _
  · exact (by repeat (first | with_reducible exact B4 | with_reducible exact Below.refl _ _ | (with_reducible refine Below.setCell ?_ ?_ _; rotate_left; focus (simp <;> omega)) | (with_reducible refine Below.alloc ?_ ?_ _; rotate_left; focus (first | omega | (simp <;> omega))) | with_reducible refine below_drewN9 ?_ _ | with_reducible refine Below.drew ?_))
end Go.Proofs.Ytjnfdcojccgfoaa
