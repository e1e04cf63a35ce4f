import Derived.Test.YtnphjhbfpoekpaaGreatEcPh
namespace Go.Proofs.YtnphjhbfpoekpaaGreat
set_option linter.unusedSimpArgs false
set_option linter.unusedVariables false
set_option linter.unnecessarySimpa false
open Go.RowKit
structure TV (w wr : World) (rv jv : Array Value) (g cap k : Nat) (zs : List Value) (O : Value) (ol : Nat) (out : List Int) : Prop where
 row : wr.ownsRow w.heap.size 31 1 (.slice (some ⟨g, 0, none⟩) k cap) k zs
 out : wr.ownsRow w.heap.size 3 1 O ol (ints out)
 bx : wr.heap[w.heap.size]? = some (.cells rv 33 (0, 0))
 bj : wr.heap[w.heap.size + 1]? = some (.cells jv 95 (0, 0))
 bel : Below w.heap.size w wr
theorem TV.step {w wr w' : World} {rv jv : Array Value} {g cap k : Nat} {zs : List Value} {O : Value} {ol : Nat} {out : List Int} (h : TV w wr rv jv g cap k zs O ol out) (hb : Below wr.heap.size wr w') : TV w w' rv jv g cap k zs O ol out :=
 ⟨zAe h.row hb, zAe h.out hb, zAf h.bx hb, zAf h.bj hb, zAc h.bel hb⟩
theorem TV.app {w wr w' : World} {rv jv : Array Value} {g cap k : Nat} {zs : List Value} {O O' : Value} {ol : Nat} {out : List Int} {x : Int} (h : TV w wr rv jv g cap k zs O ol out) (ho : w'.ownsRow w.heap.size 3 1 O' (ol + 1) (ints out ++ [.int .i64 x])) (hg : wr.grownBy w' O.ownBlock) : TV w w' rv jv g cap k zs O' (ol + 1) (out ++ [x]) :=
 ⟨zAx h.row hg (fun k hk => own_ap h.row h.out (by decide) k hk), by rw [ints_snoc9]; exact ho, zAp h.bx hg (zAk h.out h.bx (by decide)), zAp h.bj hg (zAk h.out h.bj (by decide)), Below.grown h.bel hg h.bel.size (fun k hk => zAu h.out k hk)⟩
theorem tiF_yes {f : Int} {o : List Int} {q : Q} (h : f < q.t) : tiF f o q = o ++ [q.t] := if_pos h
theorem tiF_no {f : Int} {o : List Int} {q : Q} (h : ¬ f < q.t) : tiF f o q = o := if_neg h
theorem try_late {r : Rm} {j : J} {t : Int} (h : ¬ t + j.wl ≤ 1000000000) : tryV r j t = none := if_neg fun e => h e.1
theorem try_small {r : Rm} {j : J} {t : Int} (h : fitV j.lic (leastV t (t + j.wl) r.lics) = false) : tryV r j t = none := if_neg fun e => by rw [e.2] at h; cases h
set_option maxHeartbeats 16000000 in
set_option maxRecDepth 20000 in
theorem Earliest_any (a : RA) (r : Rm) (xs : List Value) (lo : Nat) (j : J) (f : Int) (w : World) (h : RoomOwn w lo a r xs) :
  Calls Tryz.prog 56 #[a.v, .agg #[.int .i64 j.id, .int .i64 j.pr, .int .i64 j.nn, .int .i64 j.na, .int .i64 j.nb, .int .i64 j.nc, .int .i64 j.la, .int .i64 j.lb, .int .i64 j.lc, .int .i64 j.wl, .int .i64 j.lv], .int .i64 f] w fun e w' => ∃ v, e = .returned (.tuple #[.int .i64 (eT (earlV r j f)), v, .bool (earlV r j f).isSome]) ∧ w'.ownsRow w.heap.size 3 1 v (eL (earlV r j f)).length (ints (eL (earlV r j f))) ∧ Below w.heap.size w w' := by
 obtain ⟨l1, l2, l3, l4, l5⟩ := h.rd.lens
 obtain ⟨A, B, U, R, L, n, m, nu, np, nl, c, d, cu, cp, cl⟩ := a
 dsimp only [RA.v]
 dsimp only at *
 have L2 := Lib.hid l2
 have L3 := Lib.hid l3
 have L4 := Lib.hid l4
 have L5 := Lib.hid l5
 have H := Lib.hid h
 clear h l1 l2 l3 l4 l5
 obtain ⟨ro, hro⟩ : ∃ y, y = r.okB := ⟨_, rfl⟩
 obtain ⟨jo, hjo⟩ : ∃ y, y = j.okB := ⟨_, rfl⟩
 obtain ⟨to_, hto⟩ : ∃ y, y = timeB f := ⟨_, rfl⟩
 have HRO := Lib.hid hro.symm
 have HJO := Lib.hid hjo.symm
 have HTO := Lib.hid hto.symm
 clear hro hjo hto
 cases ro
 ·have HF := Lib.hid (earl_bad (r := r) (j := j) (f := f) (by rw [HRO.out]; rfl))
  go_enter Tryz.func56, Tryz.ntmps56
  go_wp2_with fail
  refine (roomOk_any ⟨A, B, U, R, L, n, m, nu, np, nl, c, d, cu, cp, cl⟩ r _ (H.out.rd.below zBe)).mono ?_
  rintro e w1 ⟨rfl, hb1⟩
  have hs1 := hb1.size
  (try simp at hs1)
  have hy10 : w.heap.size < w1.heap.size := by omega
  have hk10 := fun o => hb1.cell (p := ⟨w.heap.size, o, none⟩) zOm
  have hg10 := fun o => hb1.frozen (p := ⟨w.heap.size, o, none⟩) zOm
  have hy11 : w.heap.size + 1 < w1.heap.size := by omega
  have hk11 := fun o => hb1.cell (p := ⟨w.heap.size + 1, o, none⟩) zOm
  have hg11 := fun o => hb1.frozen (p := ⟨w.heap.size + 1, o, none⟩) zOm
  rw [HRO.out]
  go_wp2
  (try go_light)
  refine bodyPost_ret (v := .tuple #[.int .i64 0, .slice none 0 0, .bool false]) (by simp [results, Tryz.results56, go_sem, *]) rfl ?_
  exact ⟨_, by rw [HF.out]; rfl, by rw [HF.out]; exact own_nil _ _ _ _, (by repeat (first | exact Below.refl _ _ | assumption | (refine zAc ?_ (zAd _ _)) | exact zAc (by assumption) (by assumption) | (refine zAc ?_ (zAa _ _)) | (refine zAc ?_ (by assumption)) | (refine Below.setCell ?_ (by simp <;> omega) _) | refine Below.drew ?_ | (refine Below.trans ?_ (by assumption))))⟩
 ·cases jo
  ·have HF := Lib.hid (earl_bad (r := r) (j := j) (f := f) (by rw [HJO.out]; simp))
   go_enter Tryz.func56, Tryz.ntmps56
   go_wp2_with fail
   refine (roomOk_any ⟨A, B, U, R, L, n, m, nu, np, nl, c, d, cu, cp, cl⟩ r _ (H.out.rd.below zBe)).mono ?_
   rintro e w1 ⟨rfl, hb1⟩
   have hs1 := hb1.size
   (try simp at hs1)
   have hy10 : w.heap.size < w1.heap.size := by omega
   have hk10 := fun o => hb1.cell (p := ⟨w.heap.size, o, none⟩) zOm
   have hg10 := fun o => hb1.frozen (p := ⟨w.heap.size, o, none⟩) zOm
   have hy11 : w.heap.size + 1 < w1.heap.size := by omega
   have hk11 := fun o => hb1.cell (p := ⟨w.heap.size + 1, o, none⟩) zOm
   have hg11 := fun o => hb1.frozen (p := ⟨w.heap.size + 1, o, none⟩) zOm
   rw [HRO.out]
   go_wp2_with fail
   refine (jobOk_raw j _).mono ?_
   rintro e w2 ⟨rfl, hb2⟩
   have hs2 := hb2.size
   (try simp at hs2)
   have hy20 : w.heap.size < w2.heap.size := by omega
   have hk20 := fun o => hb2.cell (p := ⟨w.heap.size, o, none⟩) zOm
   have hg20 := fun o => hb2.frozen (p := ⟨w.heap.size, o, none⟩) zOm
   have hy21 : w.heap.size + 1 < w2.heap.size := by omega
   have hk21 := fun o => hb2.cell (p := ⟨w.heap.size + 1, o, none⟩) zOm
   have hg21 := fun o => hb2.frozen (p := ⟨w.heap.size + 1, o, none⟩) zOm
   rw [HJO.out]
   go_wp2
   (try go_light)
   refine bodyPost_ret (v := .tuple #[.int .i64 0, .slice none 0 0, .bool false]) (by simp [results, Tryz.results56, go_sem, *]) rfl ?_
   exact ⟨_, by rw [HF.out]; rfl, by rw [HF.out]; exact own_nil _ _ _ _, (by repeat (first | exact Below.refl _ _ | assumption | (refine zAc ?_ (zAd _ _)) | exact zAc (by assumption) (by assumption) | (refine zAc ?_ (zAa _ _)) | (refine zAc ?_ (by assumption)) | (refine Below.setCell ?_ (by simp <;> omega) _) | refine Below.drew ?_ | (refine Below.trans ?_ (by assumption))))⟩
  ·cases to_
   ·have HF := Lib.hid (earl_bad (r := r) (j := j) (f := f) (by rw [HTO.out]; simp))
    go_enter Tryz.func56, Tryz.ntmps56
    go_wp2_with fail
    refine (roomOk_any ⟨A, B, U, R, L, n, m, nu, np, nl, c, d, cu, cp, cl⟩ r _ (H.out.rd.below zBe)).mono ?_
    rintro e w1 ⟨rfl, hb1⟩
    have hs1 := hb1.size
    (try simp at hs1)
    have hy10 : w.heap.size < w1.heap.size := by omega
    have hk10 := fun o => hb1.cell (p := ⟨w.heap.size, o, none⟩) zOm
    have hg10 := fun o => hb1.frozen (p := ⟨w.heap.size, o, none⟩) zOm
    have hy11 : w.heap.size + 1 < w1.heap.size := by omega
    have hk11 := fun o => hb1.cell (p := ⟨w.heap.size + 1, o, none⟩) zOm
    have hg11 := fun o => hb1.frozen (p := ⟨w.heap.size + 1, o, none⟩) zOm
    rw [HRO.out]
    go_wp2_with fail
    refine (jobOk_raw j _).mono ?_
    rintro e w2 ⟨rfl, hb2⟩
    have hs2 := hb2.size
    (try simp at hs2)
    have hy20 : w.heap.size < w2.heap.size := by omega
    have hk20 := fun o => hb2.cell (p := ⟨w.heap.size, o, none⟩) zOm
    have hg20 := fun o => hb2.frozen (p := ⟨w.heap.size, o, none⟩) zOm
    have hy21 : w.heap.size + 1 < w2.heap.size := by omega
    have hk21 := fun o => hb2.cell (p := ⟨w.heap.size + 1, o, none⟩) zOm
    have hg21 := fun o => hb2.frozen (p := ⟨w.heap.size + 1, o, none⟩) zOm
    rw [HJO.out]
    go_wp2_with fail
    refine (isTime_any f _).mono ?_
    rintro e w3 ⟨rfl, rfl⟩
    rw [HTO.out]
    go_wp2
    (try go_light)
    refine bodyPost_ret (v := .tuple #[.int .i64 0, .slice none 0 0, .bool false]) (by simp [results, Tryz.results56, go_sem, *]) rfl ?_
    exact ⟨_, by rw [HF.out]; rfl, by rw [HF.out]; exact own_nil _ _ _ _, (by repeat (first | exact Below.refl _ _ | assumption | (refine zAc ?_ (zAd _ _)) | exact zAc (by assumption) (by assumption) | (refine zAc ?_ (zAa _ _)) | (refine zAc ?_ (by assumption)) | (refine Below.setCell ?_ (by simp <;> omega) _) | refine Below.drew ?_ | (refine Below.trans ?_ (by assumption))))⟩
   ·have HG := Lib.hid (earl_go HRO.out HJO.out HTO.out)
    have HTT := Lib.hid (times_time HRO.out HTO.out)
    have HTS := Lib.hid (timesE_spec r f).1
    have HTL := Lib.hid (times_len (f := f) HRO.out)
    obtain ⟨q1, q2, q3, q4, q5⟩ := room_parts HRO.out
    have hnp : np ≤ 24 := by have := (topo_parts q1).2.2.2.1; have := L4.out; omega
    have hun : np ≤ nu := by have := L3.out; have := L4.out; omega
    have hplen : ∀ p ∈ (r.lics :: r.profs), p.length ≤ 200 := by
     intro p hp
     rcases List.mem_cons.1 hp with h1 | h1
     ·rw [h1]; exact (profOk_parts q5).2.1
     ·exact (profOk_parts (q4 p h1)).2.1
    have hnl : nl ≤ 200 := by rw [← L5.out]; exact (profOk_parts q5).2.1
    have HPLEN := Lib.hid hplen
    have HXX := Lib.hid (own_addr H.out.profs.own)
    have HONE := Lib.hid H.out.profs.pl.one
    have HPL := Lib.hid (H.out.profs.pl.cons (B := L) (c := cl) (ps := r.lics) (by have := L5.out; omega) (by rw [L5.out]; exact zAn H.out.lics) (zAz H.out.lics))
    have HUN := Lib.hid hun
    obtain ⟨w1, w2, n1, n2, _, _⟩ := job_wl HJO.out
    clear q1 q2 q3 q4 q5 hplen hun
    go_enter Tryz.func56, Tryz.ntmps56
    go_wp2_with fail
    refine (roomOk_any ⟨A, B, U, R, L, n, m, nu, np, nl, c, d, cu, cp, cl⟩ r _ (H.out.rd.below zBe)).mono ?_
    rintro e w1 ⟨rfl, hb1⟩
    have hs1 := hb1.size
    (try simp at hs1)
    have hy10 : w.heap.size < w1.heap.size := by omega
    have hk10 := fun o => hb1.cell (p := ⟨w.heap.size, o, none⟩) zOm
    have hg10 := fun o => hb1.frozen (p := ⟨w.heap.size, o, none⟩) zOm
    have hy11 : w.heap.size + 1 < w1.heap.size := by omega
    have hk11 := fun o => hb1.cell (p := ⟨w.heap.size + 1, o, none⟩) zOm
    have hg11 := fun o => hb1.frozen (p := ⟨w.heap.size + 1, o, none⟩) zOm
    have X1 := Lib.hid (zAf (zAs (zAj (w := w) (.cells #[.slice A n c, .slice B m d, .slice U nu cu, .slice R np cp, .slice L nl cl] 33) rfl) (.cells #[.int .i64 j.id, .int .i64 j.pr, .int .i64 j.nn, .int .i64 j.na, .int .i64 j.nb, .int .i64 j.nc, .int .i64 j.la, .int .i64 j.lb, .int .i64 j.lc, .int .i64 j.wl, .int .i64 j.lv] 95)) hb1)
    have Y1 := Lib.hid (zAf (zAj (w := w.alloc (.cells #[.slice A n c, .slice B m d, .slice U nu cu, .slice R np cp, .slice L nl cl] 33)) (.cells #[.int .i64 j.id, .int .i64 j.pr, .int .i64 j.nn, .int .i64 j.na, .int .i64 j.nb, .int .i64 j.nc, .int .i64 j.la, .int .i64 j.lb, .int .i64 j.lc, .int .i64 j.wl, .int .i64 j.lv] 95) (k := w.heap.size + 1) (by simp)) hb1)
    rw [HRO.out]
    go_wp2_with fail
    refine (jobOk_raw j _).mono ?_
    rintro e w2 ⟨rfl, hb2⟩
    have hs2 := hb2.size
    (try simp at hs2)
    have hy20 : w.heap.size < w2.heap.size := by omega
    have hk20 := fun o => hb2.cell (p := ⟨w.heap.size, o, none⟩) zOm
    have hg20 := fun o => hb2.frozen (p := ⟨w.heap.size, o, none⟩) zOm
    have hy21 : w.heap.size + 1 < w2.heap.size := by omega
    have hk21 := fun o => hb2.cell (p := ⟨w.heap.size + 1, o, none⟩) zOm
    have hg21 := fun o => hb2.frozen (p := ⟨w.heap.size + 1, o, none⟩) zOm
    rw [HJO.out]
    go_wp2_with fail
    refine (isTime_any f _).mono ?_
    rintro e w3 ⟨rfl, rfl⟩
    rw [HTO.out]
    have HB2 : Hid (Below w.heap.size w w2) := Lib.hid (by repeat (first | exact Below.refl _ _ | assumption | (refine zAc ?_ (zAd _ _)) | exact zAc (by assumption) (by assumption) | (refine zAc ?_ (zAa _ _)) | (refine zAc ?_ (by assumption)) | (refine Below.setCell ?_ (by simp <;> omega) _) | refine Below.drew ?_ | (refine Below.trans ?_ (by assumption))))
    have X2 := Lib.hid (zAf X1.out hb2)
    have Y2 := Lib.hid (zAf Y1.out hb2)
    clear X1 Y1 hb1 hb2 hk10 hk11 hg10 hg11 hk20 hk21 hg20 hg21 hs1 hs2 hy10 hy11 hy20 hy21
    have e0 := zAb X2.out 0 rfl
    have e1 := zAb X2.out 1 rfl
    have e2 := zAb X2.out 2 rfl
    have e3 := zAb X2.out 3 rfl
    have e4 := zAb X2.out 4 rfl
    have f0 := zAb Y2.out 0 rfl
    have f1 := zAb Y2.out 1 rfl
    have f2 := zAb Y2.out 2 rfl
    have f3 := zAb Y2.out 3 rfl
    have f4 := zAb Y2.out 4 rfl
    have f5 := zAb Y2.out 5 rfl
    have f6 := zAb Y2.out 6 rfl
    have f7 := zAb Y2.out 7 rfl
    have f8 := zAb Y2.out 8 rfl
    have f9 := zAb Y2.out 9 rfl
    have f10 := zAb Y2.out 10 rfl
    simp only [zgc, zga, zgb] at e0 e1 e2 e3 e4 f0 f1 f2 f3 f4 f5 f6 f7 f8 f9 f10
    obtain ⟨i0, hi, hz0, hz1, hz2⟩ := info_parts infoProf
    have hw2s := HB2.out.size
    have hyw := zAg X2.out
    have hyj := zAg Y2.out
    go_wp2_with (at_builtin; refine zAw rfl _ _ 28 rfl w.heap.size 31 i0 (.agg #[.slice none 0 0]) 1 24 Tryz.underlying28 hi hz0 hz1 hz2 rfl (by decide) (.slice (some ⟨w2.heap.size + 1, 0, none⟩) 1 1) 1 [.slice L nl cl] rfl ?ca R np cp xs rfl HXX.out ?cb HONE.out ?cc ?cd ?ce ?_)
    try case ca => exact own_lit (cs := [.slice L nl cl]) (zAj _ (by simp)) rfl (by decide) (by omega)
    try case cb => exact (zAn H.out.profs.own).below (zAz H.out.profs.own) (zAc (zAc HB2.out (zAa _ _)) (zAa _ _))
    try case cc => unfold maxLen; omega
    try case cd => omega
    try case ce => simp; omega
    intro v3 w3 own3 hg3 hne3 hat3
    obtain ⟨gr, cr, rfl⟩ := own_form own3 hne3
    have hW : Below w2.heap.size w2 ((w2.alloc (.cells #[.int .i64 f] 3)).alloc (.cells #[.slice L nl cl] 31)) := zAc (zAa _ _) (zAa _ _)
    have own3' : w3.ownsRow w.heap.size 31 1 (.slice (some ⟨gr, 0, none⟩) (np + 1) cr) (np + 1) (.slice L nl cl :: xs) := by rw [Nat.add_comm np 1]; exact own3
    have T0 : Hid (TV w w3 #[.slice A n c, .slice B m d, .slice U nu cu, .slice R np cp, .slice L nl cl] #[.int .i64 j.id, .int .i64 j.pr, .int .i64 j.nn, .int .i64 j.na, .int .i64 j.nb, .int .i64 j.nc, .int .i64 j.la, .int .i64 j.lb, .int .i64 j.lc, .int .i64 j.wl, .int .i64 j.lv] gr cr (np + 1) (.slice L nl cl :: xs) (.slice (some ⟨w2.heap.size, 0, none⟩) 1 1) 1 [f]) := Lib.hid ⟨own3', zAx (zAm (zAe (own_lit (cs := [.int .i64 f]) (zAj (w := w2) (.cells #[.int .i64 f] 3) rfl) rfl (by decide) (Nat.le_refl _)) (zAa _ _)) hw2s) hg3 (fun k hk e => by cases hk; simp [Value.ownBlock] at e), zAp (zAf X2.out hW) hg3 (fun k hk => by have hk9 : w2.heap.size + 1 = k := Option.some.inj hk; omega), zAp (zAf Y2.out hW) hg3 (fun k hk => by have hk9 : w2.heap.size + 1 = k := Option.some.inj hk; omega), Below.grown (zAc HB2.out hW) hg3 (by simp; omega) (fun k hk => by have hk9 : w2.heap.size + 1 = k := Option.some.inj hk; omega)⟩
    rw [Nat.add_comm 1 np]
    generalize w2.heap.size = gT0 at *
    clear own3 own3' hg3 hne3 hat3 hW X2 Y2 HB2 hi hz0 hz1 hz2 HXX HONE
    clear e0 e1 e2 e3 e4 f0 f1 f2 f3 f4 f5 f6 f7 f8 f9 f10 hw2s hyw hyj
    clear w2
    obtain ⟨i1, hi9, hz7, hz8, hz9⟩ := info_parts infoI
    go_wp2
    go_loopw [9, 40] (fun v9 i wr => ∃ (k gT co ol : Nat) (out : List Int), k ≤ np + 1 ∧ i = .int .i64 k ∧ v9 = .slice (some ⟨gT, 0, none⟩) ol co ∧ out.length = ol ∧ Hid (out = tiK f (r.lics :: r.profs) k) ∧ TV w wr #[.slice A n c, .slice B m d, .slice U nu cu, .slice R np cp, .slice L nl cl] #[.int .i64 j.id, .int .i64 j.pr, .int .i64 j.nn, .int .i64 j.na, .int .i64 j.nb, .int .i64 j.nc, .int .i64 j.la, .int .i64 j.lb, .int .i64 j.lc, .int .i64 j.wl, .int .i64 j.lv] gr cr (np + 1) (.slice L nl cl :: xs) (.slice (some ⟨gT, 0, none⟩) ol co) ol out) (fun _ i _ => np + 1 - (intOf i).toNat)
    case atStart => exact ⟨0, gT0, 1, 1, [f], Nat.zero_le _, rfl, rfl, rfl, Lib.hid rfl, T0.out⟩
    case round =>
     clear T0
     obtain ⟨k, gT, co, ol, out, hk, rfl, rfl, hol, HOUT, T'⟩ := hrel
     obtain ⟨wo, rfl⟩ : ∃ x, x = wr := ⟨wr, rfl⟩
     have T1 := Lib.hid T'
     clear T'
     by_cases hlt : k < np + 1
     ·have hlt' : (k : Int) < (np : Int) + 1 := by omega
      obtain ⟨ps, hps⟩ : ∃ p, (r.lics :: r.profs)[k]? = some p := ⟨_, zgh (by simp; have := L4.out; omega)⟩
      have hpl : ps.length ≤ 200 := HPLEN.out ps (List.mem_of_getElem? hps)
      obtain ⟨B', c', hz, _, hrd, hltB⟩ := HPL.out.each k ps hps
      rw [L5.out] at hz
      obtain ⟨g9, u9, hg9, hu9, cz9⟩ := Rd.at_ (zAn T1.out.row) hlt
      cases hg9
      rw [hz] at hu9
      obtain rfl := Option.some.inj hu9
      have HRDP := Lib.hid hrd
      have HLTB := Lib.hid hltB
      have HSN := Lib.hid (tiK_snoc (f := f) hps)
      have hk9 : (tiK f (r.lics :: r.profs) k).length ≤ 1 + 25 * 200 := by
       have h1 := tiK_len (f := f) HPLEN.out k
       have h2 : k * 200 ≤ 25 * 200 := Nat.mul_le_mul_right _ (by omega)
       omega
      have HK9 := Lib.hid hk9
      clear hz hrd hltB hu9 hps hk9
      go_wp2
      go_loopw [9, 47] (fun v9 i wi => ∃ (ii gT co ol : Nat) (out : List Int), ii ≤ ps.length ∧ i = .int .i64 ii ∧ v9 = .slice (some ⟨gT, 0, none⟩) ol co ∧ out.length = ol ∧ Hid (out = tiP f (tiK f (r.lics :: r.profs) k) (ps.take ii)) ∧ TV w wi #[.slice A n c, .slice B m d, .slice U nu cu, .slice R np cp, .slice L nl cl] #[.int .i64 j.id, .int .i64 j.pr, .int .i64 j.nn, .int .i64 j.na, .int .i64 j.nb, .int .i64 j.nc, .int .i64 j.la, .int .i64 j.lb, .int .i64 j.lc, .int .i64 j.wl, .int .i64 j.lv] gr cr (np + 1) (.slice L nl cl :: xs) (.slice (some ⟨gT, 0, none⟩) ol co) ol out) (fun _ i _ => ps.length - (intOf i).toNat)
      case atStart => exact ⟨0, gT, co, ol, out, Nat.zero_le _, rfl, rfl, hol, Lib.hid (by rw [List.take_zero]; exact HOUT.out), T1.out.step (zAa _ _)⟩
      case round =>
       clear T1
       obtain ⟨ii, gP, cp7, pl, po, hii, rfl, rfl, hpo, HPO, T''⟩ := hrel
       obtain ⟨wi, rfl⟩ : ∃ x, x = wr := ⟨wr, rfl⟩
       have T7 := Lib.hid T''
       clear T''
       have ho9 : pl ≤ 6000 := by
        have h1 := tiP_len f (ps.take ii) (tiK f (r.lics :: r.profs) k)
        rw [← HPO.out, List.length_take] at h1
        have := HK9.out; omega
       by_cases hil : ii < ps.length
       ·have hil' : (ii : Int) < ps.length := by omega
        obtain ⟨gB, q, rfl, hq, d0, d1, d2, d3⟩ := Rd.q (HRDP.out.below HLTB.out T7.out.bel) hil
        have HTK := Lib.hid (tiP_snoc (f := f) (o := tiK f (r.lics :: r.profs) k) hq)
        clear hq
        have T8 := Lib.hid (T7.out.step (zAa wi (.cells #[.int .i64 q.t, .int .i64 q.a, .int .i64 q.b, .int .i64 q.c] 177)))
        by_cases hfq : f < q.t
        ·have HE8 : Hid (po ++ [q.t] = tiP f (tiK f (r.lics :: r.profs) k) (ps.take (ii + 1))) := Lib.hid (by
          rw [HTK.out, ← HPO.out]; exact (tiF_yes hfq).symm)
         have hsz8 := T8.out.bel.size
         simp only [World.size_alloc] at hsz8
         go_upto_region 11 with fail
         have e0 : (wi.alloc (.cells #[.int .i64 q.t, .int .i64 q.a, .int .i64 q.b, .int .i64 q.c] 177)).cell? ⟨wi.heap.size, 0, none⟩ = some (.int .i64 q.t) := by simp [go_sem]
         have hbt : wi.heap.size < (wi.alloc (.cells #[.int .i64 q.t, .int .i64 q.a, .int .i64 q.b, .int .i64 q.c] 177)).heap.size := by simp
         clear T7 d0 d1 d2 d3
         generalize wi.alloc (.cells #[.int .i64 q.t, .int .i64 q.a, .int .i64 q.b, .int .i64 q.c] 177) = w8 at *
         generalize wi.heap.size = bt at *
         have hsz9 := T8.out.bel.size
         go_wp2_with (at_builtin; refine wpList_append_lies _ rfl _ _ 23 rfl (w.heap.size) 3 i1 (.int .i64 0) 1 8 Tryz.underlying23 hi9 hz7 hz8 hz9 rfl (by decide) _ _ _ rfl (zAe T8.out.out (zAa w8 (.cells #[.int .i64 q.t] 3))) ⟨w8.heap.size, 0, none⟩ 1 1 [.int .i64 q.t] rfl rfl ?cp1 ?cp2 (by decide) ?cp3 ?cp4 ?cp5 _ rfl ?_)
         try case cp1 =>
          intro j y hy
          match j, hy with
          | 0, hy => (simp at hy; subst hy; simp [Addr.add])
         try case cp2 => simp [Value.oneCell']
         case cp3 => unfold maxLen; skip; omega
         case cp4 => skip; omega
         try case cp5 => first | omega | (simp <;> omega)
         intro g5 ct5 w9 own5 hg5 hat5 hlt5
         have T9 := Lib.hid ((T8.out.step (zAa w8 (.cells #[.int .i64 q.t] 3))).app own5 hg5)
         clear own5 hg5 hat5 T8
         go_wp2
         go_roundw
         case rel => exact ⟨ii + 1, g5, ct5, pl + 1, po ++ [q.t], by omega, by go_num, rfl, by rw [List.length_append, hpo]; rfl, HE8, T9.out⟩
         case measure => simp [intOf]; omega
        ·have HE8 : Hid (po = tiP f (tiK f (r.lics :: r.profs) k) (ps.take (ii + 1))) := Lib.hid (by
          rw [HTK.out, ← HPO.out]; exact (tiF_no hfq).symm)
         clear T7
         go_wp2
         go_roundw
         case rel => exact ⟨ii + 1, gP, cp7, pl, po, by omega, by go_num, rfl, hpo, HE8, T8.out⟩
         case measure => simp [intOf]; omega
       ·have HE9 : Hid (po = tiK f (r.lics :: r.profs) (k + 1)) := Lib.hid (by
         have h1 := HPO.out
         have h2 : ps.take ii = ps := List.take_of_length_le (by omega)
         rw [h2, ← HSN.out] at h1; exact h1)
        go_wp2
        go_roundw
        case rel => exact ⟨k + 1, gP, cp7, pl, po, by omega, by go_num, rfl, hpo, HE9, T7.out⟩
        case measure => simp [intOf]; omega
     ·have hfin : compZ (sortZ out) = timesE r f := by
       rw [HOUT.out, show k = r.profs.length + 1 by have := L4.out; omega]; exact tiK_eq
      have hol9 : ol ≤ 1048576 := by
       have h1 := tiK_len (f := f) HPLEN.out k
       have h2 : k * 200 ≤ 25 * 200 := Nat.mul_le_mul_right _ (by omega)
       rw [← HOUT.out] at h1; omega
      have HFIN := Lib.hid hfin
      clear hfin
      go_wp2_with fail
      refine (sort_own T1.out.out (by omega)).mono ?_
      rintro e w5 ⟨rfl, own5, hg5⟩
      have hol5 : (sortZ out).length = ol := by rw [sortZ_len]; exact hol
      have HO5 := Lib.hid own5
      have X5 := Lib.hid (zAp T1.out.bx hg5 (fun j hj => by cases hj; exact zAk T1.out.out T1.out.bx (by decide) gT rfl))
      have Y5 := Lib.hid (zAp T1.out.bj hg5 (fun j hj => by cases hj; exact zAk T1.out.out T1.out.bj (by decide) gT rfl))
      have HB5 := Lib.hid (Below.grown T1.out.bel hg5 T1.out.bel.size (fun j hj => by cases hj; exact zAu T1.out.out gT rfl))
      clear own5 hg5 T1
      go_wp2_with fail
      refine (compact_own HO5.out (by omega)).mono ?_
      rintro e w6 ⟨rfl, own6, hg6⟩
      obtain ⟨TL, hTL⟩ : ∃ y, y = timesE r f := ⟨_, rfl⟩
      rw [HFIN.out, ← hTL] at own6 ⊢
      have hTL9 : TL.length ≤ 6000 := by rw [hTL]; exact HTL.out
      have HTLE := Lib.hid hTL
      have O6 := Lib.hid own6
      have X6 := Lib.hid (zAp X5.out hg6 (fun j hj => by cases hj; exact zAk HO5.out X5.out (by decide) gT rfl))
      have Y6 := Lib.hid (zAp Y5.out hg6 (fun j hj => by cases hj; exact zAk HO5.out Y5.out (by decide) gT rfl))
      have HB6 := Lib.hid (Below.grown HB5.out hg6 HB5.out.size (fun j hj => by cases hj; exact zAu HO5.out gT rfl))
      clear own6 hg6 hTL HO5 X5 Y5 HB5 hol5
      go_wp2
      go_loopw [67] (fun i wr => ∃ k : Nat, k ≤ TL.length ∧ i = .int .i64 k ∧ Hid (∀ (i : Nat) u, i < k → TL[i]? = some u → tryV r j u = none) ∧ Below w6.heap.size w6 wr) (fun i _ => TL.length - (intOf i).toNat)
      case atStart => exact ⟨0, Nat.zero_le _, rfl, Lib.hid (fun i u hi => by omega), Below.refl _ _⟩
      case round =>
       obtain ⟨k6, hk6, rfl, HNO, hbw⟩ := hrel
       obtain ⟨wo, rfl⟩ : ∃ x, x = wr := ⟨wr, rfl⟩
       have HBW := Lib.hid hbw
       have X7 := Lib.hid (zAf X6.out hbw)
       have Y7 := Lib.hid (zAf Y6.out hbw)
       have HB7 := Lib.hid (zAc HB6.out hbw)
       clear hbw
       by_cases hlt6 : k6 < TL.length
       ·have hlt6' : (k6 : Int) < TL.length := by omega
        obtain ⟨g9, t, hg9, ht, ct9⟩ := Rd.int (zAn (zAe O6.out HBW.out)) hlt6
        cases hg9
        have HTM := Lib.hid ht
        have htt : timeB t = true := HTT.out t (by rw [← HTLE.out]; exact List.mem_of_getElem? ht)
        have HTB := Lib.hid htt
        obtain ⟨t0, t1⟩ := timeB_iff.1 htt
        clear ht htt
        have hfacts := 0
        have e0 := zAb X7.out 0 rfl
        have e1 := zAb X7.out 1 rfl
        have e2 := zAb X7.out 2 rfl
        have e3 := zAb X7.out 3 rfl
        have e4 := zAb X7.out 4 rfl
        have f0 := zAb Y7.out 0 rfl
        have f1 := zAb Y7.out 1 rfl
        have f2 := zAb Y7.out 2 rfl
        have f3 := zAb Y7.out 3 rfl
        have f4 := zAb Y7.out 4 rfl
        have f5 := zAb Y7.out 5 rfl
        have f6 := zAb Y7.out 6 rfl
        have f7 := zAb Y7.out 7 rfl
        have f8 := zAb Y7.out 8 rfl
        have f9 := zAb Y7.out 9 rfl
        have f10 := zAb Y7.out 10 rfl
        simp only [zgc, zga, zgb] at e0 e1 e2 e3 e4 f0 f1 f2 f3 f4 f5 f6 f7 f8 f9 f10
        by_cases hu : t + j.wl ≤ 1000000000
        ·have hu' : ¬ (1000000000 : Int) < t + j.wl := by omega
         have HUU := Lib.hid hu
         have wr1 : IntKind.i64.wrap (t + j.wl) = t + j.wl := IntWalk.i64_in _ (by omega)
         obtain ⟨lv, hlv⟩ : ∃ y, y = leastV t (t + j.wl) r.lics := ⟨_, rfl⟩
         obtain ⟨fv, hfv⟩ : ∃ y, y = fitV j.lic lv := ⟨_, rfl⟩
         have HLC : Hid (∀ W, RoomRd W ⟨A, B, U, R, L, n, m, nu, np, nl, c, d, cu, cp, cl⟩ r → Calls Tryz.prog 141 #[.agg #[.slice L nl cl], .int .i64 t, .int .i64 (t + j.wl)] W fun e W' => e = .returned (.agg #[.int .i64 lv.A, .int .i64 lv.B, .int .i64 lv.C]) ∧ Below W.heap.size W W') := Lib.hid (fun W h => by rw [hlv]; exact least_any L nl cl r.lics t (t + j.wl) W h.nl h.lics h.ltL)
         have HFC : Hid (∀ W, Calls Tryz.prog 140 #[.agg #[.int .i64 j.la, .int .i64 j.lb, .int .i64 j.lc], .agg #[.int .i64 lv.A, .int .i64 lv.B, .int .i64 lv.C]] W fun e W' => e = .returned (.bool fv) ∧ Below W.heap.size W W') := Lib.hid (fun W => by rw [hfv]; exact vecFits_raw _ _ _ _ _ _ W)
         have HFV : Hid (fv = fitV j.lic (leastV t (t + j.wl) r.lics)) := Lib.hid (by rw [hfv, hlv])
         clear hlv hfv hu
         have hy7 := zAg X7.out
         have hj7 := zAg Y7.out
         go_wp2_with fail
         go_region_held3 (fun w' => w'.cell? ⟨w.heap.size, 4, none⟩ = some (.slice L nl cl) ∧ w'.cell? ⟨w.heap.size + 1, 6, none⟩ = some (.int .i64 j.la) ∧ w'.cell? ⟨w.heap.size + 1, 7, none⟩ = some (.int .i64 j.lb) ∧ w'.cell? ⟨w.heap.size + 1, 8, none⟩ = some (.int .i64 j.lc) ∧ w'.cell? ⟨w.heap.size + 1, 9, none⟩ = some (.int .i64 j.wl)) (simp [go_sem, *, World.cell?_alloc_some, World.cell?_setCell_far, Nat.lt_add_right, Nat.ne_of_gt]) (first | (go_at_call 141; refine (HLC.out _ (H.out.rd.below (HB7.out.drew))).mono ?_; rintro e w7 ⟨rfl, hb7⟩; have hs7 := hb7.size; (try simp at hs7); (have hy70 : w.heap.size < w7.heap.size := (by omega)); (have hk70 := fun o => hb7.cell (p := ⟨w.heap.size, o, none⟩) zOm); (have hy71 : w.heap.size + 1 < w7.heap.size := (by omega)); (have hk71 := fun o => hb7.cell (p := ⟨w.heap.size + 1, o, none⟩) zOm); have B7 := Lib.hid (zAc ((Below.refl wo.heap.size wo).drew) hb7); clear hb7) | (go_at_call 140; refine (HFC.out _).mono ?_; rintro e w8 ⟨rfl, hb8⟩; have hs8 := hb8.size; (try simp at hs8); (have hy80 : w.heap.size < w8.heap.size := (by omega)); (have hk80 := fun o => hb8.cell (p := ⟨w.heap.size, o, none⟩) zOm); (have hy81 : w.heap.size + 1 < w8.heap.size := (by omega)); (have hk81 := fun o => hb8.cell (p := ⟨w.heap.size + 1, o, none⟩) zOm); have B8 := Lib.hid (zAc B7.out hb8); clear hb8))
         clear hk70 hk71 hy70 hy71 hk80 hk81 hy80 hy81 hs7 hs8 B7 HLC HFC
         have HB8 := Lib.hid (zAc HB7.out B8.out)
         have HBQ := HB8
         have X8 := Lib.hid (zAf X7.out B8.out)
         have Y8 := Lib.hid (zAf Y7.out B8.out)
         clear e0 e1 e2 e3 e4 f0 f1 f2 f3 f4 f5 f6 f7 f8 f9 f10
         cases fv
         ·have HN2 : Hid (∀ (i : Nat) u, i < k6 + 1 → TL[i]? = some u → tryV r j u = none) := Lib.hid (fun i u hi hu => by
           by_cases e : i = k6
           ·subst e; rw [HTM.out] at hu; cases hu; exact try_small HFV.out.symm
           ·exact HNO.out i u (by omega) hu)
          go_wp2
          go_roundw
          case rel => exact ⟨k6 + 1, by omega, by go_num, HN2, zAc HBW.out B8.out⟩
          case measure => simp [intOf]; omega
         ·have HTY := Lib.hid (try_yes ⟨HUU.out, HFV.out.symm⟩)
          obtain ⟨EV, hEV⟩ : ∃ y, y = eligV r j.need t (t + j.wl) := ⟨_, rfl⟩
          obtain ⟨OV, hOV⟩ : ∃ y, y = tryV r j t := ⟨_, rfl⟩
          obtain ⟨ar1, ar2, _, ar4, ar5⟩ := elig_in (j := j) (t := t) (u := t + j.wl) HRO.out
          rw [← hEV] at ar1 ar2 ar4 ar5
          have HLE : Hid (EV.length ≤ 1048576) := Lib.hid (by omega)
          obtain ⟨q, hq⟩ : ∃ q : Nat, j.nn = q := ⟨j.nn.toNat, by omega⟩
          have htop := (room_parts HRO.out).1
          have HEC : Hid (∀ W, RoomRd W ⟨A, B, U, R, L, n, m, nu, np, nl, c, d, cu, cp, cl⟩ r → Calls Tryz.prog 143 #[.agg #[.slice A n c, .slice B m d, .slice U nu cu, .slice R np cp, .slice L nl cl], .agg #[.int .i64 j.na, .int .i64 j.nb, .int .i64 j.nc], .int .i64 t, .int .i64 (t + j.wl)] W fun e W' => ∃ v, e = .returned v ∧ W'.ownsRow W.heap.size 3 1 v EV.length (ints EV) ∧ Below W.heap.size W W') := Lib.hid (fun W h => by rw [hEV]; exact eligible_any ⟨A, B, U, R, L, n, m, nu, np, nl, c, d, cu, cp, cl⟩ r j.need t (t + j.wl) W h HUN.out)
          have HCH : Hid (∀ (D : Option Addr) (e9 : Nat) (W : World), RoomRd W ⟨A, B, U, R, L, n, m, nu, np, nl, c, d, cu, cp, cl⟩ r → Rd W D EV.length 1 (ints EV) → (∀ g, D = some ⟨g, 0, none⟩ → g < W.heap.size) → Calls Tryz.prog 142 #[.agg #[.slice A n c, .slice B m d], .slice D EV.length e9, .int .i64 j.nn, .int .i64 j.lv] W fun e W' => ∃ v, e = .returned (.tuple #[v, .bool OV.isSome]) ∧ W'.ownsRow W.heap.size 3 1 v (OV.getD []).length (ints (OV.getD [])) ∧ Below W.heap.size W W') := Lib.hid (fun D e9 W h h1 h2 => by
           have e1 : OV = chooseV r.par r.nodes EV q j.lv := by rw [hOV, HTY.out, ← hEV, hq, Int.toNat_natCast]
           rw [e1, hq]
           exact choose_any A B n c m d r.par r.nodes D EV.length e9 EV q j.lv W h.n h.m h.par h.nodes h.ltA h.ltB HLE.out h1 h2 htop ar4 ar2 (by omega))
          have HOV := Lib.hid hOV
          clear hEV hOV HTY ar1 ar2 ar4 ar5 htop hq
          have e0 := zAb X8.out 0 rfl
          have e1 := zAb X8.out 1 rfl
          have e2 := zAb X8.out 2 rfl
          have e3 := zAb X8.out 3 rfl
          have e4 := zAb X8.out 4 rfl
          have f0 := zAb Y8.out 0 rfl
          have f1 := zAb Y8.out 1 rfl
          have f2 := zAb Y8.out 2 rfl
          have f3 := zAb Y8.out 3 rfl
          have f4 := zAb Y8.out 4 rfl
          have f5 := zAb Y8.out 5 rfl
          have f6 := zAb Y8.out 6 rfl
          have f7 := zAb Y8.out 7 rfl
          have f8 := zAb Y8.out 8 rfl
          have f9 := zAb Y8.out 9 rfl
          have f10 := zAb Y8.out 10 rfl
          simp only [zgc, zga, zgb] at e0 e1 e2 e3 e4 f0 f1 f2 f3 f4 f5 f6 f7 f8 f9 f10
          have hy7 := zAg X8.out
          have hj7 := zAg Y8.out
          go_wp2_with fail
          go_region_held3 (fun w' => w'.cell? ⟨w.heap.size, 0, none⟩ = some (.slice A n c) ∧ w'.cell? ⟨w.heap.size, 1, none⟩ = some (.slice B m d) ∧ w'.cell? ⟨w.heap.size, 2, none⟩ = some (.slice U nu cu) ∧ w'.cell? ⟨w.heap.size, 3, none⟩ = some (.slice R np cp) ∧ w'.cell? ⟨w.heap.size, 4, none⟩ = some (.slice L nl cl) ∧ w'.cell? ⟨w.heap.size + 1, 2, none⟩ = some (.int .i64 j.nn) ∧ w'.cell? ⟨w.heap.size + 1, 3, none⟩ = some (.int .i64 j.na) ∧ w'.cell? ⟨w.heap.size + 1, 4, none⟩ = some (.int .i64 j.nb) ∧ w'.cell? ⟨w.heap.size + 1, 5, none⟩ = some (.int .i64 j.nc) ∧ w'.cell? ⟨w.heap.size + 1, 9, none⟩ = some (.int .i64 j.wl) ∧ w'.cell? ⟨w.heap.size + 1, 10, none⟩ = some (.int .i64 j.lv)) (simp [go_sem, *, World.cell?_alloc_some, World.cell?_setCell_far, Nat.lt_add_right, Nat.ne_of_gt]) (first | (go_at_call 143; refine (HEC.out _ (H.out.rd.below (HBQ.out.drew))).mono ?_; rintro e w3 ⟨v3, rfl, own3, hb3⟩; have hs3 := hb3.size; (try simp at hs3); (have hy30 : w.heap.size < w3.heap.size := (by omega)); (have hk30 := fun o => hb3.cell (p := ⟨w.heap.size, o, none⟩) zOm); (have hy31 : w.heap.size + 1 < w3.heap.size := (by omega)); (have hk31 := fun o => hb3.cell (p := ⟨w.heap.size + 1, o, none⟩) zOm); have B3 := Lib.hid (zAc (HBQ.out.drew) hb3); have BQ3 := Lib.hid (zAc ((Below.refl w8.heap.size w8).drew) hb3); have O3 := Lib.hid own3; obtain ⟨X3, c3, rfl, _⟩ := zAq own3; clear own3 hb3) | (go_at_call 142; refine (HCH.out X3 c3 _ (H.out.rd.below B3.out) (zAn O3.out) (zAz O3.out)).mono ?_; rintro e w9 ⟨v9, rfl, own9, hb9⟩; have hs9 := hb9.size; (try simp at hs9); (have hy90 : w.heap.size < w9.heap.size := (by omega)); (have hk90 := fun o => hb9.cell (p := ⟨w.heap.size, o, none⟩) zOm); (have hy91 : w.heap.size + 1 < w9.heap.size := (by omega)); (have hk91 := fun o => hb9.cell (p := ⟨w.heap.size + 1, o, none⟩) zOm); have B9 := Lib.hid (zAc B3.out hb9); have BQ9 := Lib.hid (zAc BQ3.out hb9); have O9 := Lib.hid own9; obtain ⟨X9, c9, rfl, _⟩ := zAq own9; clear own9 hb9))
          all_goals (
           have HFB := Lib.hid (zAc HBW.out (zAc B8.out BQ9.out))
           clear hk30 hk31 hy30 hy31 hk90 hk91 hy90 hy91 hs3 hs9 BQ3 HEC HCH
           clear e0 e1 e2 e3 e4 f0 f1 f2 f3 f4 f5 f6 f7 f8 f9 f10
           cases OV with
           | none =>
            have HN2 : Hid (∀ (i : Nat) u, i < k6 + 1 → TL[i]? = some u → tryV r j u = none) := Lib.hid (fun i u hi hu => by
             by_cases e : i = k6
             ·subst e; rw [HTM.out] at hu; cases hu; exact HOV.out.symm
             ·exact HNO.out i u (by omega) hu)
            simp only [Option.isSome_none, Option.getD_none]
            go_wp2
            go_roundw
            case rel => exact ⟨k6 + 1, by omega, by go_num, HN2, HFB.out⟩
            case measure => simp [intOf]; omega
           | some nd =>
            have HE : Hid (earlV r j f = some (t, nd)) := Lib.hid (by rw [HG.out, ← HTLE.out]; exact first_at HTM.out HNO.out HOV.out.symm)
            simp only [Option.isSome_some, zgg] at O9 ⊢
            go_wp2
            (try go_light)
            refine bodyPost_ret (v := .tuple #[.int .i64 t, .slice X9 nd.length c9, .bool true]) (by simp [results, Tryz.results56, go_sem, *]) rfl ?_
            exact ⟨_, by rw [HE.out]; rfl, by rw [HE.out]; exact zAm O9.out B3.out.size, B9.out⟩)
        ·have hu' : (1000000000 : Int) < t + j.wl := by omega
         have HF : Hid (earlV r j f = none) := Lib.hid (by
          rw [HG.out, ← HTLE.out]
          refine first_none fun t9 ht9 => ?_
          obtain ⟨i, hi, rfl⟩ := List.getElem_of_mem ht9
          by_cases hik : i < k6
          ·exact HNO.out i _ hik (zgh hi)
          ·refine try_late fun h9 => hu ?_
           have h1 := List.getElem?_eq_some_iff.1 HTM.out
           have h2 : TL[k6]'hlt6 = t := h1.2
           by_cases e : i = k6
           ·subst e; rw [h2] at h9; exact h9
           ·have h3 := HTS.out
            rw [← HTLE.out] at h3
            have := List.pairwise_iff_getElem.1 h3 k6 i hlt6 hi (by omega)
            rw [h2] at this; omega)
         go_wp2
         (try go_light)
         refine bodyPost_ret (v := .tuple #[.int .i64 0, .slice none 0 0, .bool false]) (by simp [results, Tryz.results56, go_sem, *]) rfl ?_
         exact ⟨_, by rw [HF.out]; rfl, by rw [HF.out]; exact own_nil _ _ _ _, HB7.out⟩
       ·have HF : Hid (earlV r j f = none) := Lib.hid (by
         rw [HG.out, ← HTLE.out]
         refine first_none fun t9 ht9 => ?_
         obtain ⟨i, hi, rfl⟩ := List.getElem_of_mem ht9
         exact HNO.out i _ (by omega) (zgh hi))
        go_wp2
        (try go_light)
        refine bodyPost_ret (v := .tuple #[.int .i64 0, .slice none 0 0, .bool false]) (by simp [results, Tryz.results56, go_sem, *]) rfl ?_
        exact ⟨_, by rw [HF.out]; rfl, by rw [HF.out]; exact own_nil _ _ _ _, HB7.out⟩
end Go.Proofs.YtnphjhbfpoekpaaGreat
