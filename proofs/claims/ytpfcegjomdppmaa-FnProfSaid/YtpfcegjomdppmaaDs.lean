/-
  What is drawn for FnProf.
-/
import Derived.Test.YtpfcegjomdppmaaDr
import Derived.Deep.RegionHeld3
namespace Go.Proofs.Ytpfcegjomdppmaa
set_option linter.unusedSimpArgs false
set_option linter.unusedVariables false
set_option linter.unnecessarySimpa false
open Go.RowKit
theorem own_blk3 {w : World} {lo : Nat} {e : TypeId} {size : Nat} {v : Value} {n : Nat} {xs : List Value} (h : w.ownsRow lo e size v n xs) : ∀ k, v.ownBlock = some k → k < w.heap.size := by
  intro k hk
  rcases h.2 with ⟨h0, _⟩ | ⟨g, cap, cur, hv, hg, hh, _⟩
  · subst h0; cases hk
  · subst hv; cases hk; exact heap_lt hh

set_option maxHeartbeats 8000000 in
theorem drawProfTake_any (A0 : Option Addr) (n c0 : Nat) (w : World) (hn : n ≤ 1048576) (h : ByIn w A0 n) :
    Calls Try.prog 44 #[.slice A0 n c0] w fun e w' => ∃ (A : Option Addr) (c : Nat) (ps : List Q) (lo hi : Int) (v : V), e = .returned (.tuple #[.agg #[.slice A ps.length c], .int .i64 lo, .int .i64 hi, .agg #[.int .i64 v.A, .int .i64 v.B, .int .i64 v.C]]) ∧ ps.length ≤ 12 ∧ in64 lo ∧ in64 hi ∧ in64 v.A ∧ in64 v.B ∧ in64 v.C ∧ w'.ownsRow w.heap.size 138 4 (.slice A ps.length c) ps.length (flat ps) ∧ Below w.heap.size w w' := by
  have HB := Lib.hid h
  clear h
  go_enter Try.func44, Try.ntmps44
  go_wp2_with fail
  refine (cur_new A0 n c0 _ hn (HB.out.below (by repeat (first | exact Below.refl _ _ | assumption | (refine bstep ?_ (below_drewN _ _)) | exact bstep (by assumption) (by assumption) | (refine bstep ?_ (below_alloc _ _)) | (refine bstep ?_ (by assumption)) | (refine Below.setCell ?_ (by simp <;> omega) _) | refine Below.drew ?_)))).mono ?_
  rintro e w1 ⟨g, rfl, hg, cu1, hb1⟩
  have hs1 := hb1.size
  (try simp at hs1)
  have hy10 : w.heap.size < w1.heap.size := by omega
  have hk10 := fun o => hb1.cell (p := ⟨w.heap.size, o, none⟩) (by first | omega | (simp <;> omega))
  have hg10 := fun o => hb1.frozen (p := ⟨w.heap.size, o, none⟩) (by first | omega | (simp <;> omega))
  have hy11 : w.heap.size + 1 < w1.heap.size := by omega
  have hk11 := fun o => hb1.cell (p := ⟨w.heap.size + 1, o, none⟩) (by first | omega | (simp <;> omega))
  have hg11 := fun o => hb1.frozen (p := ⟨w.heap.size + 1, o, none⟩) (by first | omega | (simp <;> omega))
  have hgl := cu1.lt
  simp at hg
  have C1 := Lib.hid cu1
  clear cu1
  have B1 : Below w.heap.size w w1 := (by repeat (first | exact Below.refl _ _ | assumption | (refine bstep ?_ (below_drewN _ _)) | exact bstep (by assumption) (by assumption) | (refine bstep ?_ (below_alloc _ _)) | (refine bstep ?_ (by assumption)) | (refine Below.setCell ?_ (by simp <;> omega) _) | refine Below.drew ?_))
  go_wp2_with fail
  refine (cur_profAny g _ (by repeat (first | exact C1.out | refine Cur.alloc ?_ _ | refine Cur.drewN ?_ _ | refine Cur.drew ?_ | refine Cur.set ?_ (by simp <;> omega) _))).mono ?_
  rintro e w2 ⟨A, c, ps, rfl, hp, oa, cu2, fr2⟩
  have hs2 := fr2.size
  (try simp at hs2)
  have hy20 : w.heap.size < w2.heap.size := by omega
  have hk20 := fun o => fr2.cell (b := w.heap.size) (by first | omega | (simp <;> omega)) (by omega) o
  have hg20 := fun o => fr2.frozen (b := w.heap.size) (by first | omega | (simp <;> omega)) (by omega) o
  have hy21 : w.heap.size + 1 < w2.heap.size := by omega
  have hk21 := fun o => fr2.cell (b := w.heap.size + 1) (by first | omega | (simp <;> omega)) (by omega) o
  have hg21 := fun o => fr2.frozen (b := w.heap.size + 1) (by first | omega | (simp <;> omega)) (by omega) o
  have C2 := Lib.hid cu2
  have hgl2 := cu2.lt
  clear cu2
  have B2 : Below w.heap.size w w2 := Below.trans (by repeat (first | with_reducible exact B1 | with_reducible exact Below.refl _ _ | (with_reducible refine Below.setCell ?_ ?_ _; rotate_left; focus (simp <;> omega)) | (with_reducible refine Below.alloc ?_ ?_ _; rotate_left; focus (first | omega | (simp <;> omega))) | with_reducible refine below_drewN9 ?_ _ | with_reducible refine Below.drew ?_)) (fr2.bel (B := w.heap.size) (fun k e => by omega) (by first | omega | (simp <;> omega)))
  have OA := Lib.hid (own_mono oa (show w.heap.size + 1 + 1 ≤ w1.heap.size by omega))
  have RS := Lib.hid (own_ge oa)
  clear oa
  go_wp2_with fail
  refine (cur_span g _ (by repeat (first | exact C2.out | refine Cur.alloc ?_ _ | refine Cur.drewN ?_ _ | refine Cur.drew ?_ | refine Cur.set ?_ (by simp <;> omega) _))).mono ?_
  rintro e w3 ⟨lo, hi, rfl, i1, i2, cu3, fr3⟩
  have hs3 := fr3.size
  (try simp at hs3)
  have hy30 : w.heap.size < w3.heap.size := by omega
  have hk30 := fun o => fr3.cell (b := w.heap.size) (by first | omega | (simp <;> omega)) (by omega) o
  have hg30 := fun o => fr3.frozen (b := w.heap.size) (by first | omega | (simp <;> omega)) (by omega) o
  have hy31 : w.heap.size + 1 < w3.heap.size := by omega
  have hk31 := fun o => fr3.cell (b := w.heap.size + 1) (by first | omega | (simp <;> omega)) (by omega) o
  have hg31 := fun o => fr3.frozen (b := w.heap.size + 1) (by first | omega | (simp <;> omega)) (by omega) o
  have hy32 : w2.heap.size < w3.heap.size := by omega
  have hk32 := fun o => fr3.cell (b := w2.heap.size) (by first | omega | (simp <;> omega)) (by omega) o
  have hg32 := fun o => fr3.frozen (b := w2.heap.size) (by first | omega | (simp <;> omega)) (by omega) o
  have C3 := Lib.hid cu3
  have hgl3 := cu3.lt
  clear cu3
  have B3 : Below w.heap.size w w3 := Below.trans (by repeat (first | with_reducible exact B2 | with_reducible exact Below.refl _ _ | (with_reducible refine Below.setCell ?_ ?_ _; rotate_left; focus (simp <;> omega)) | (with_reducible refine Below.alloc ?_ ?_ _; rotate_left; focus (first | omega | (simp <;> omega))) | with_reducible refine below_drewN9 ?_ _ | with_reducible refine Below.drew ?_)) (fr3.bel (B := w.heap.size) (fun k e => by omega) (by first | omega | (simp <;> omega)))
  have OA3 := Lib.hid (own_fr (own_bel OA.out (below_alloc _ (.cells #[.slice A ps.length c] 53))) fr3 (fun k hk e => by have := RS.out k hk; omega))
  go_wp2_with fail
  refine (cur_below g 5 _ (by repeat (first | exact C3.out | refine Cur.alloc ?_ _ | refine Cur.drewN ?_ _ | refine Cur.drew ?_ | refine Cur.set ?_ (by simp <;> omega) _)) (by omega) (by omega)).mono ?_
  rintro e w4 ⟨x4, rfl, a4, q4, cu4, fr4⟩
  have hs4 := fr4.size
  (try simp at hs4)
  have hy40 : w.heap.size < w4.heap.size := by omega
  have hk40 := fun o => fr4.cell (b := w.heap.size) (by first | omega | (simp <;> omega)) (by omega) o
  have hg40 := fun o => fr4.frozen (b := w.heap.size) (by first | omega | (simp <;> omega)) (by omega) o
  have hy41 : w.heap.size + 1 < w4.heap.size := by omega
  have hk41 := fun o => fr4.cell (b := w.heap.size + 1) (by first | omega | (simp <;> omega)) (by omega) o
  have hg41 := fun o => fr4.frozen (b := w.heap.size + 1) (by first | omega | (simp <;> omega)) (by omega) o
  have hy42 : w2.heap.size < w4.heap.size := by omega
  have hk42 := fun o => fr4.cell (b := w2.heap.size) (by first | omega | (simp <;> omega)) (by omega) o
  have hg42 := fun o => fr4.frozen (b := w2.heap.size) (by first | omega | (simp <;> omega)) (by omega) o
  have C4 := Lib.hid cu4
  have hgl4 := cu4.lt
  clear cu4
  have B4 : Below w.heap.size w w4 := Below.trans (by repeat (first | with_reducible exact B3 | with_reducible exact Below.refl _ _ | (with_reducible refine Below.setCell ?_ ?_ _; rotate_left; focus (simp <;> omega)) | (with_reducible refine Below.alloc ?_ ?_ _; rotate_left; focus (first | omega | (simp <;> omega))) | with_reducible refine below_drewN9 ?_ _ | with_reducible refine Below.drew ?_)) (fr4.bel (B := w.heap.size) (fun k e => by omega) (by first | omega | (simp <;> omega)))
  have OA4 := Lib.hid (own_fr OA3.out fr4 (fun k hk e => by have := RS.out k hk; omega))
  go_wp2_with fail
  refine (cur_below g 9 _ (by repeat (first | exact C4.out | refine Cur.alloc ?_ _ | refine Cur.drewN ?_ _ | refine Cur.drew ?_ | refine Cur.set ?_ (by simp <;> omega) _)) (by omega) (by omega)).mono ?_
  rintro e w5 ⟨x5, rfl, a5, q5, cu5, fr5⟩
  have hs5 := fr5.size
  (try simp at hs5)
  have hy50 : w.heap.size < w5.heap.size := by omega
  have hk50 := fun o => fr5.cell (b := w.heap.size) (by first | omega | (simp <;> omega)) (by omega) o
  have hg50 := fun o => fr5.frozen (b := w.heap.size) (by first | omega | (simp <;> omega)) (by omega) o
  have hy51 : w.heap.size + 1 < w5.heap.size := by omega
  have hk51 := fun o => fr5.cell (b := w.heap.size + 1) (by first | omega | (simp <;> omega)) (by omega) o
  have hg51 := fun o => fr5.frozen (b := w.heap.size + 1) (by first | omega | (simp <;> omega)) (by omega) o
  have hy52 : w2.heap.size < w5.heap.size := by omega
  have hk52 := fun o => fr5.cell (b := w2.heap.size) (by first | omega | (simp <;> omega)) (by omega) o
  have hg52 := fun o => fr5.frozen (b := w2.heap.size) (by first | omega | (simp <;> omega)) (by omega) o
  have C5 := Lib.hid cu5
  have hgl5 := cu5.lt
  clear cu5
  have B5 : Below w.heap.size w w5 := Below.trans (by repeat (first | with_reducible exact B4 | with_reducible exact Below.refl _ _ | (with_reducible refine Below.setCell ?_ ?_ _; rotate_left; focus (simp <;> omega)) | (with_reducible refine Below.alloc ?_ ?_ _; rotate_left; focus (first | omega | (simp <;> omega))) | with_reducible refine below_drewN9 ?_ _ | with_reducible refine Below.drew ?_)) (fr5.bel (B := w.heap.size) (fun k e => by omega) (by first | omega | (simp <;> omega)))
  have OA5 := Lib.hid (own_fr OA4.out fr5 (fun k hk e => by have := RS.out k hk; omega))
  go_wp2_with fail
  refine (cur_below g 2 _ (by repeat (first | exact C5.out | refine Cur.alloc ?_ _ | refine Cur.drewN ?_ _ | refine Cur.drew ?_ | refine Cur.set ?_ (by simp <;> omega) _)) (by omega) (by omega)).mono ?_
  rintro e w6 ⟨x6, rfl, a6, q6, cu6, fr6⟩
  have hs6 := fr6.size
  (try simp at hs6)
  have hy60 : w.heap.size < w6.heap.size := by omega
  have hk60 := fun o => fr6.cell (b := w.heap.size) (by first | omega | (simp <;> omega)) (by omega) o
  have hg60 := fun o => fr6.frozen (b := w.heap.size) (by first | omega | (simp <;> omega)) (by omega) o
  have hy61 : w.heap.size + 1 < w6.heap.size := by omega
  have hk61 := fun o => fr6.cell (b := w.heap.size + 1) (by first | omega | (simp <;> omega)) (by omega) o
  have hg61 := fun o => fr6.frozen (b := w.heap.size + 1) (by first | omega | (simp <;> omega)) (by omega) o
  have hy62 : w2.heap.size < w6.heap.size := by omega
  have hk62 := fun o => fr6.cell (b := w2.heap.size) (by first | omega | (simp <;> omega)) (by omega) o
  have hg62 := fun o => fr6.frozen (b := w2.heap.size) (by first | omega | (simp <;> omega)) (by omega) o
  have C6 := Lib.hid cu6
  have hgl6 := cu6.lt
  clear cu6
  have B6 : Below w.heap.size w w6 := Below.trans (by repeat (first | with_reducible exact B5 | with_reducible exact Below.refl _ _ | (with_reducible refine Below.setCell ?_ ?_ _; rotate_left; focus (simp <;> omega)) | (with_reducible refine Below.alloc ?_ ?_ _; rotate_left; focus (first | omega | (simp <;> omega))) | with_reducible refine below_drewN9 ?_ _ | with_reducible refine Below.drew ?_)) (fr6.bel (B := w.heap.size) (fun k e => by omega) (by first | omega | (simp <;> omega)))
  have OA6 := Lib.hid (own_fr OA5.out fr6 (fun k hk e => by have := RS.out k hk; omega))
  go_wp2_with fail
  refine (cur_below g 12 _ (by repeat (first | exact C6.out | refine Cur.alloc ?_ _ | refine Cur.drewN ?_ _ | refine Cur.drew ?_ | refine Cur.set ?_ (by simp <;> omega) _)) (by omega) (by omega)).mono ?_
  rintro e w7 ⟨x7, rfl, a7, q7, cu7, fr7⟩
  have hs7 := fr7.size
  (try simp at hs7)
  have hy70 : w.heap.size < w7.heap.size := by omega
  have hk70 := fun o => fr7.cell (b := w.heap.size) (by first | omega | (simp <;> omega)) (by omega) o
  have hg70 := fun o => fr7.frozen (b := w.heap.size) (by first | omega | (simp <;> omega)) (by omega) o
  have hy71 : w.heap.size + 1 < w7.heap.size := by omega
  have hk71 := fun o => fr7.cell (b := w.heap.size + 1) (by first | omega | (simp <;> omega)) (by omega) o
  have hg71 := fun o => fr7.frozen (b := w.heap.size + 1) (by first | omega | (simp <;> omega)) (by omega) o
  have hy72 : w2.heap.size < w7.heap.size := by omega
  have hk72 := fun o => fr7.cell (b := w2.heap.size) (by first | omega | (simp <;> omega)) (by omega) o
  have hg72 := fun o => fr7.frozen (b := w2.heap.size) (by first | omega | (simp <;> omega)) (by omega) o
  have hy73 : w6.heap.size < w7.heap.size := by omega
  have hk73 := fun o => fr7.cell (b := w6.heap.size) (by first | omega | (simp <;> omega)) (by omega) o
  have hg73 := fun o => fr7.frozen (b := w6.heap.size) (by first | omega | (simp <;> omega)) (by omega) o
  have C7 := Lib.hid cu7
  have hgl7 := cu7.lt
  clear cu7
  have B7 : Below w.heap.size w w7 := Below.trans (by repeat (first | with_reducible exact B6 | with_reducible exact Below.refl _ _ | (with_reducible refine Below.setCell ?_ ?_ _; rotate_left; focus (simp <;> omega)) | (with_reducible refine Below.alloc ?_ ?_ _; rotate_left; focus (first | omega | (simp <;> omega))) | with_reducible refine below_drewN9 ?_ _ | with_reducible refine Below.drew ?_)) (fr7.bel (B := w.heap.size) (fun k e => by omega) (by first | omega | (simp <;> omega)))
  have OA7 := Lib.hid (own_fr (own_bel OA6.out (below_alloc _ (.cells #[.int .i64 x4, .int .i64 x5, .int .i64 x6] 57))) fr7 (fun k hk e => by have := RS.out k hk; omega))
  by_cases e0 : x7 = 0
  · subst e0
    go_wp2_with fail
    refine (cur_any g _ (by repeat (first | exact C7.out | refine Cur.alloc ?_ _ | refine Cur.drewN ?_ _ | refine Cur.drew ?_ | refine Cur.set ?_ (by simp <;> omega) _))).mono ?_
    rintro e w8 ⟨y1, y2, y3, rfl, j1, j2, j3, cu8, fr8⟩
    have hs8 := fr8.size
    (try simp at hs8)
    have hy80 : w.heap.size < w8.heap.size := by omega
    have hk80 := fun o => fr8.cell (b := w.heap.size) (by first | omega | (simp <;> omega)) (by omega) o
    have hg80 := fun o => fr8.frozen (b := w.heap.size) (by first | omega | (simp <;> omega)) (by omega) o
    have hy81 : w.heap.size + 1 < w8.heap.size := by omega
    have hk81 := fun o => fr8.cell (b := w.heap.size + 1) (by first | omega | (simp <;> omega)) (by omega) o
    have hg81 := fun o => fr8.frozen (b := w.heap.size + 1) (by first | omega | (simp <;> omega)) (by omega) o
    have hy82 : w2.heap.size < w8.heap.size := by omega
    have hk82 := fun o => fr8.cell (b := w2.heap.size) (by first | omega | (simp <;> omega)) (by omega) o
    have hg82 := fun o => fr8.frozen (b := w2.heap.size) (by first | omega | (simp <;> omega)) (by omega) o
    have hy83 : w6.heap.size < w8.heap.size := by omega
    have hk83 := fun o => fr8.cell (b := w6.heap.size) (by first | omega | (simp <;> omega)) (by omega) o
    have hg83 := fun o => fr8.frozen (b := w6.heap.size) (by first | omega | (simp <;> omega)) (by omega) o
    have C8 := Lib.hid cu8
    have hgl8 := cu8.lt
    clear cu8
    have B8 : Below w.heap.size w w8 := Below.trans (by repeat (first | with_reducible exact B7 | with_reducible exact Below.refl _ _ | (with_reducible refine Below.setCell ?_ ?_ _; rotate_left; focus (simp <;> omega)) | (with_reducible refine Below.alloc ?_ ?_ _; rotate_left; focus (first | omega | (simp <;> omega))) | with_reducible refine below_drewN9 ?_ _ | with_reducible refine Below.drew ?_)) (fr8.bel (B := w.heap.size) (fun k e => by omega) (by first | omega | (simp <;> omega)))
    have OA8 := Lib.hid (own_fr OA7.out fr8 (fun k hk e => by have := RS.out k hk; omega))
    clear fr4 fr5 fr6 fr7 fr8
    clear fr2 fr3 hb1
    have NA : Hid (∀ k, (Value.slice A ps.length c).ownBlock = some k → k ≠ w.heap.size ∧ k ≠ w.heap.size + 1 ∧ k ≠ w6.heap.size) := Lib.hid (fun k hk => by have := RS.out k hk; have := own_blk3 OA.out k hk; (try simp at this); omega)
    go_wp2_with fail
    go_region_held3 (fun w' => w'.cell? ⟨w2.heap.size, 0, none⟩ = some (.slice A ps.length c) ∧ w'.cell? ⟨w6.heap.size, 0, none⟩ = some (.int .i64 y1) ∧ w'.cell? ⟨w6.heap.size, 1, none⟩ = some (.int .i64 y2) ∧ w'.cell? ⟨w6.heap.size, 2, none⟩ = some (.int .i64 y3)) (simp [go_sem, *, World.cell?_alloc_some, World.cell?_setCell_far, Nat.lt_add_right, Nat.ne_of_gt]) (fail)
    all_goals go_wp2
    all_goals (try go_light)
    refine bodyPost_ret (v := .tuple #[.agg #[.slice A ps.length c], .int .i64 lo, .int .i64 hi, .agg #[.int .i64 y1, .int .i64 y2, .int .i64 y3]]) (by simp [results, Try.results44, go_sem, *]) rfl ?_
    refine ⟨A, c, ps, lo, hi, ⟨y1, y2, y3⟩, rfl, hp, i1, i2, j1, j2, j3, ?_, ?_⟩
    · refine own_mono (lo := w.heap.size + 1 + 1) ?_ (by omega)
      refine own_bel (w' := World.drew _) ?_ (Below.drew (Below.refl _ _))
      repeat (first | with_reducible exact OA8.out | (with_reducible refine own_set ?_ (fun k hk => by have := NA.out k hk; (try dsimp only); omega) _))
    · exact (by repeat (first | with_reducible exact B8 | with_reducible exact Below.refl _ _ | (with_reducible refine Below.setCell ?_ ?_ _; rotate_left; focus (simp <;> omega)) | (with_reducible refine Below.alloc ?_ ?_ _; rotate_left; focus (first | omega | (simp <;> omega))) | with_reducible refine below_drewN9 ?_ _ | with_reducible refine Below.drew ?_))
  clear fr4 fr5 fr6 fr7
  have I4 : in64 x4 := ⟨by omega, by omega⟩
  have I5 : in64 x5 := ⟨by omega, by omega⟩
  have I6 : in64 x6 := ⟨by omega, by omega⟩
  clear fr2 fr3 hb1
  have NA : Hid (∀ k, (Value.slice A ps.length c).ownBlock = some k → k ≠ w.heap.size ∧ k ≠ w.heap.size + 1 ∧ k ≠ w6.heap.size) := Lib.hid (fun k hk => by have := RS.out k hk; have := own_blk3 OA.out k hk; (try simp at this); omega)
  go_wp2_with fail
  go_region_held3 (fun w' => w'.cell? ⟨w2.heap.size, 0, none⟩ = some (.slice A ps.length c) ∧ w'.cell? ⟨w6.heap.size, 0, none⟩ = some (.int .i64 x4) ∧ w'.cell? ⟨w6.heap.size, 1, none⟩ = some (.int .i64 x5) ∧ w'.cell? ⟨w6.heap.size, 2, none⟩ = some (.int .i64 x6)) (simp [go_sem, *, World.cell?_alloc_some, World.cell?_setCell_far, Nat.lt_add_right, Nat.ne_of_gt]) (fail)
  all_goals go_wp2
  all_goals (try go_light)
  refine bodyPost_ret (v := .tuple #[.agg #[.slice A ps.length c], .int .i64 lo, .int .i64 hi, .agg #[.int .i64 x4, .int .i64 x5, .int .i64 x6]]) (by simp [results, Try.results44, go_sem, *]) rfl ?_
  refine ⟨A, c, ps, lo, hi, ⟨x4, x5, x6⟩, rfl, hp, i1, i2, I4, I5, I6, ?_, ?_⟩
  · refine own_mono (lo := w.heap.size + 1 + 1) ?_ (by omega)
    refine own_bel (w' := World.drew _) ?_ (Below.drew (Below.refl _ _))
    repeat (first | with_reducible exact OA7.out | (with_reducible refine own_set ?_ (fun k hk => by have := NA.out k hk; (try dsimp only); omega) _))
  · exact (by repeat (first | with_reducible exact B7 | with_reducible exact Below.refl _ _ | (with_reducible refine Below.setCell ?_ ?_ _; rotate_left; focus (simp <;> omega)) | (with_reducible refine Below.alloc ?_ ?_ _; rotate_left; focus (first | omega | (simp <;> omega))) | with_reducible refine below_drewN9 ?_ _ | with_reducible refine Below.drew ?_))
end Go.Proofs.Ytpfcegjomdppmaa
