import Derived.Test.YtnphjhbfpoekpaaGreatWiPl
import Derived.Test.YtnphjhbfpoekpaaGreatApPl
namespace Go.Proofs.YtnphjhbfpoekpaaGreat
set_option linter.unusedSimpArgs false
set_option linter.unusedVariables false
set_option linter.unnecessarySimpa false
open Go.RowKit
theorem jflat_snocW (js : List J) (j : J) : jflat (js ++ [j]) = jflat js ++ j.cells := by simp [jflat]
theorem jcells_oneW (j : J) : ∀ u ∈ j.cells, u.oneCell' = true := by
 intro u hu
 simp only [J.cells, List.mem_cons, List.not_mem_nil, or_false] at hu
 rcases hu with rfl | rfl | rfl | rfl | rfl | rfl | rfl | rfl | rfl | rfl | rfl <;> rfl
theorem jflat_oneW {js : List J} : ∀ u ∈ jflat js, u.oneCell' = true := by
 intro u hu
 simp only [jflat, List.mem_flatMap] at hu
 obtain ⟨j, -, hu⟩ := hu
 exact jcells_oneW j u hu
def St.jobsN (s : St) (q : Nat) : List J := s.queue ++ (s.runs.take q).map (·.j)
theorem jobsN_snoc {s : St} {q : Nat} {x : Rn} (h : s.runs[q]? = some x) : s.jobsN (q + 1) = s.jobsN q ++ [x.j] := by unfold St.jobsN; rw [take_snoc' h]; simp
set_option maxHeartbeats 8000000 in
set_option maxRecDepth 20000 in
theorem all_any (a : SA) (s : St) (ss : List Value) (w : World) (h : StRd w a s ss) :
  Calls Tryz.prog 89 #[a.v s] w fun e w' => ∃ (X : Option Addr) (k : Nat), e = .returned (.slice X (a.nk + a.nr) k) ∧ w'.ownsRow w.heap.size 95 11 (.slice X (a.nk + a.nr) k) (a.nk + a.nr) (jflat s.jobs) ∧ Below w.heap.size w w' := by
 obtain ⟨A, B, U, K, R, E, n, m, nu, nk, nr, ne, c, d, cu, ck, cr, ce⟩ := a
 dsimp only [SA.v]
 have H := Lib.hid h
 have hnk : nk ≤ 1048576 := h.nk
 have hnr : nr ≤ 1048576 := h.nr
 obtain ⟨iJ, hiJ, hzaJ, hzbJ, hzcJ⟩ := info_parts infoJ
 clear h
 have XP0 : Hid (BX w (w.alloc (.cells #[.slice A n c, .slice B m d, .slice U nu cu, .int .i64 s.lic.A, .int .i64 s.lic.B, .int .i64 s.lic.C, .int .i64 s.dep, .int .i64 s.now, .slice K nk ck, .slice R nr cr, .slice E ne ce] 77)) (w.heap.size) 77 [.slice A n c, .slice B m d, .slice U nu cu, .int .i64 s.lic.A, .int .i64 s.lic.B, .int .i64 s.lic.C, .int .i64 s.dep, .int .i64 s.now, .slice K nk ck, .slice R nr cr, .slice E ne ce]) := Lib.hid ⟨zAk _ rfl, zAa _ _, Nat.le_refl _⟩
 go_enter Tryz.func89, Tryz.ntmps89
 go_upto_region 1 with fail
 generalize w.alloc (.cells #[.slice A n c, .slice B m d, .slice U nu cu, .int .i64 s.lic.A, .int .i64 s.lic.B, .int .i64 s.lic.C, .int .i64 s.dep, .int .i64 s.now, .slice K nk ck, .slice R nr cr, .slice E ne ce] 77) = w0 at *
 have k8 := zAb XP0.out.bx 8 rfl
 have kf := zAh XP0.out.bx
 have kl := zAf XP0.out.bx
 simp only [zgc, zga, zgb] at k8
 go_wp2_with (at_builtin; refine zAw rfl _ _ 34 rfl w.heap.size 95 iJ (.agg #[.int .i64 0, .int .i64 0, .int .i64 0, .int .i64 0, .int .i64 0, .int .i64 0, .int .i64 0, .int .i64 0, .int .i64 0, .int .i64 0, .int .i64 0]) 11 88 Tryz.underlying34 hiJ hzaJ hzbJ hzcJ rfl (by decide) (.slice (some ⟨w0.heap.size, 0, none⟩) 0 0) 0 [] rfl ?ca K nk ck (jflat s.queue) rfl H.out.aK ?cb jflat_oneW ?cd ?ce ?cf ?_)
 case ca => exact own_lit (cs := []) (n := 0) (zAk _ rfl) rfl (by decide) XP0.out.bel.size
 case cb => exact (H.out.bel (zAc XP0.out.bel (zAa _ _))).queue
 case cd => unfold maxLen; omega
 case ce => omega
 case cf => have := XP0.out.bel.size; first | omega | (simp <;> omega)
 intro v1 w1 own1 hg1 hne1 hat1
 obtain ⟨X1, c1, rfl, _⟩ := zAt own1
 have hw0 := XP0.out.bel.size
 have B1 : Hid (Below w.heap.size w w1) := Lib.hid (Below.grown (zAc XP0.out.bel (zAa _ _)) hg1 zOm (fun j hj => by simp [Value.ownBlock] at hj; omega))
 have XP1 : Hid (BX w w1 (w.heap.size) 77 [.slice A n c, .slice B m d, .slice U nu cu, .int .i64 s.lic.A, .int .i64 s.lic.B, .int .i64 s.lic.C, .int .i64 s.dep, .int .i64 s.now, .slice K nk ck, .slice R nr cr, .slice E ne ce]) := Lib.hid (BX.grown (XP0.out.step (zAa w0 (.cells #[] 95))) hg1 (fun j hj => by have := zAf XP0.out.bx; simp [Value.ownBlock] at hj; omega) (fun j hj => by simp [Value.ownBlock] at hj; omega))
 have O1 : Hid (w1.ownsRow w.heap.size 95 11 (.slice X1 (nk + 0) c1) (nk + 0) (jflat (s.jobsN 0))) := Lib.hid (by simpa [St.jobsN] using own1)
 clear own1 hg1 hne1 hat1 k8 kf kl XP0 hw0
 have k9 := zAb XP1.out.bx 9 rfl
 have kf := zAh XP1.out.bx
 have kl := zAf XP1.out.bx
 simp only [zgc, zga, zgb] at k9
 go_wp2
 clear k9 kf kl XP1
 go_loopw [3, 13] (fun V i wr => ∃ (q : Nat) (X : Option Addr) (k : Nat), q ≤ nr ∧ i = .int .i64 q ∧ V = .slice X (nk + q) k ∧ wr.ownsRow w.heap.size 95 11 (.slice X (nk + q) k) (nk + q) (jflat (s.jobsN q)) ∧ Below w.heap.size w wr) (fun _ i _ => nr - (intOf i).toNat)
 case atStart => exact ⟨0, X1, c1, Nat.zero_le _, rfl, rfl, O1.out, B1.out⟩
 case round =>
 clear O1 B1
 obtain ⟨q, X2, k2, hq, rfl, rfl, o2, b2⟩ := hrel
 obtain ⟨wo, rfl⟩ : ∃ x, x = wr := ⟨wr, rfl⟩
 have O2 := Lib.hid o2
 have B2 := Lib.hid b2
 clear o2 b2
 by_cases hlt : q < nr
 ·have hlt' : (q : Int) < nr := by omega
  obtain ⟨g, x, X, dX, rfl, hp, hx, l1, l2, l3, rX, lX, hg, d0, d1, d2, d3, d4, d5, d6, d7, d8, d9, d10, d11, d12⟩ := (H.out.bel B2.out).runs.row hlt
  have HPQ := Lib.hid hp
  have O5 := Lib.hid (zAe O2.out (zAa wo (.cells #[.int .i64 x.j.id, .int .i64 x.j.pr, .int .i64 x.j.nn, .int .i64 x.j.na, .int .i64 x.j.nb, .int .i64 x.j.nc, .int .i64 x.j.la, .int .i64 x.j.lb, .int .i64 x.j.lc, .int .i64 x.j.wl, .int .i64 x.j.lv, .int .i64 x.at_, .slice X x.nd.length dX] 136)))
  have ND5 : Hid (BX w (wo.alloc (.cells #[.int .i64 x.j.id, .int .i64 x.j.pr, .int .i64 x.j.nn, .int .i64 x.j.na, .int .i64 x.j.nb, .int .i64 x.j.nc, .int .i64 x.j.la, .int .i64 x.j.lb, .int .i64 x.j.lc, .int .i64 x.j.wl, .int .i64 x.j.lv, .int .i64 x.at_, .slice X x.nd.length dX] 136)) wo.heap.size 136 [.int .i64 x.j.id, .int .i64 x.j.pr, .int .i64 x.j.nn, .int .i64 x.j.na, .int .i64 x.j.nb, .int .i64 x.j.nc, .int .i64 x.j.la, .int .i64 x.j.lb, .int .i64 x.j.lc, .int .i64 x.j.wl, .int .i64 x.j.lv, .int .i64 x.at_, .slice X x.nd.length dX]) := Lib.hid ⟨zAk _ rfl, zAc B2.out (zAa _ _), B2.out.size⟩
  clear hp hx rX lX
  go_upto_region 5 with fail
  clear d0 d1 d2 d3 d4 d5 d6 d7 d8 d9 d10 d11 d12 O2 B2
  generalize wo.alloc (.cells #[.int .i64 x.j.id, .int .i64 x.j.pr, .int .i64 x.j.nn, .int .i64 x.j.na, .int .i64 x.j.nb, .int .i64 x.j.nc, .int .i64 x.j.la, .int .i64 x.j.lb, .int .i64 x.j.lc, .int .i64 x.j.wl, .int .i64 x.j.lv, .int .i64 x.at_, .slice X x.nd.length dX] 136) = wB at *
  have v0 := zAb ND5.out.bx 0 rfl
  have v1 := zAb ND5.out.bx 1 rfl
  have v2 := zAb ND5.out.bx 2 rfl
  have v3 := zAb ND5.out.bx 3 rfl
  have v4 := zAb ND5.out.bx 4 rfl
  have v5 := zAb ND5.out.bx 5 rfl
  have v6 := zAb ND5.out.bx 6 rfl
  have v7 := zAb ND5.out.bx 7 rfl
  have v8 := zAb ND5.out.bx 8 rfl
  have v9 := zAb ND5.out.bx 9 rfl
  have v10 := zAb ND5.out.bx 10 rfl
  have v11 := zAb ND5.out.bx 11 rfl
  have v12 := zAb ND5.out.bx 12 rfl
  have vf := zAh ND5.out.bx
  have vl := zAf ND5.out.bx
  simp only [zgc, zga, zgb] at v0 v1 v2 v3 v4 v5 v6 v7 v8 v9 v10 v11 v12
  go_wp2_with (at_builtin; refine zAw rfl _ _ 34 rfl w.heap.size 95 iJ (.agg #[.int .i64 0, .int .i64 0, .int .i64 0, .int .i64 0, .int .i64 0, .int .i64 0, .int .i64 0, .int .i64 0, .int .i64 0, .int .i64 0, .int .i64 0]) 11 88 Tryz.underlying34 hiJ hzaJ hzbJ hzcJ rfl (by decide) (.slice X2 (nk + q) k2) (nk + q) (jflat (s.jobsN q)) rfl ?ca (some ⟨wB.heap.size, 0, none⟩) 1 1 x.j.cells rfl (Or.inr ⟨_, rfl⟩) ?cb (jcells_oneW x.j) ?cd ?ce ?cf ?_)
  case ca => exact zAe O5.out (zAa _ _)
  case cb => exact zAv (own_lit (lo := 0) (cs := x.j.cells) (n := 1) (size := 11) (e := 95) (zAk _ rfl) rfl (by decide) (Nat.zero_le _))
  case cd => unfold maxLen; omega
  case ce => omega
  case cf => have := ND5.out.bel.size; first | omega | (simp <;> omega)
  intro v6 w6 own6 hg6 hne6 hat6
  obtain ⟨X6, c6, rfl, _⟩ := zAt own6
  have B6 : Hid (Below w.heap.size w w6) := Lib.hid (Below.grown (zAc ND5.out.bel (zAa wB (.cells x.j.cells.toArray 95))) hg6 (zAc ND5.out.bel (zAa wB (.cells x.j.cells.toArray 95))).size (own_ge O5.out))
  have O6 : Hid (w6.ownsRow w.heap.size 95 11 (.slice X6 (nk + (q + 1)) c6) (nk + (q + 1)) (jflat (s.jobsN (q + 1)))) := Lib.hid (by rw [jobsN_snoc HPQ.out, jflat_snocW]; exact own6)
  clear own6 hg6 hne6 hat6 v0 v1 v2 v3 v4 v5 v6 v7 v8 v9 v10 v11 v12 vf vl O5 ND5
  go_wp2
  exact ⟨⟨q + 1, X6, c6, by omega, by go_num, rfl, O6.out, B6.out⟩, by simp [intOf]; omega⟩
 ·obtain rfl : nr = q := by omega
  have hlt' : ¬ ((nr : Nat) : Int) < nr := by omega
  have hj : s.jobsN nr = s.jobs := by unfold St.jobsN St.jobs; rw [List.take_of_length_le (by have := H.out.runs.len; simp only at this; omega)]
  go_wp2
  go_ret
  exact ⟨X2, k2, rfl, by rw [← hj]; exact O2.out, B2.out⟩
set_option maxHeartbeats 8000000 in
set_option maxRecDepth 20000 in
theorem sJobs_any (a : SA) (s : St) (ss : List Value) (w : World) (h : StRd w a s ss) :
  Calls Tryz.prog 84 #[a.v s] w fun e w' => ∃ (X : Option Addr) (k : Nat), e = .returned (.slice X (a.nk + a.nr) k) ∧ w'.ownsRow w.heap.size 95 11 (.slice X (a.nk + a.nr) k) (a.nk + a.nr) (jflat s.jobs) ∧ Below w.heap.size w w' := by
 obtain ⟨A, B, U, K, R, E, n, m, nu, nk, nr, ne, c, d, cu, ck, cr, ce⟩ := a
 dsimp only [SA.v]
 have H := Lib.hid h
 have hnk : nk ≤ 1048576 := h.nk
 have hnr : nr ≤ 1048576 := h.nr
 obtain ⟨iJ, hiJ, hzaJ, hzbJ, hzcJ⟩ := info_parts infoJ
 clear h
 have XP0 : Hid (BX w (w.alloc (.cells #[.slice A n c, .slice B m d, .slice U nu cu, .int .i64 s.lic.A, .int .i64 s.lic.B, .int .i64 s.lic.C, .int .i64 s.dep, .int .i64 s.now, .slice K nk ck, .slice R nr cr, .slice E ne ce] 77)) (w.heap.size) 77 [.slice A n c, .slice B m d, .slice U nu cu, .int .i64 s.lic.A, .int .i64 s.lic.B, .int .i64 s.lic.C, .int .i64 s.dep, .int .i64 s.now, .slice K nk ck, .slice R nr cr, .slice E ne ce]) := Lib.hid ⟨zAk _ rfl, zAa _ _, Nat.le_refl _⟩
 go_enter Tryz.func84, Tryz.ntmps84
 go_upto_region 1 with fail
 generalize w.alloc (.cells #[.slice A n c, .slice B m d, .slice U nu cu, .int .i64 s.lic.A, .int .i64 s.lic.B, .int .i64 s.lic.C, .int .i64 s.dep, .int .i64 s.now, .slice K nk ck, .slice R nr cr, .slice E ne ce] 77) = w0 at *
 have k8 := zAb XP0.out.bx 8 rfl
 have kf := zAh XP0.out.bx
 have kl := zAf XP0.out.bx
 simp only [zgc, zga, zgb] at k8
 go_wp2_with (at_builtin; refine zAw rfl _ _ 34 rfl w.heap.size 95 iJ (.agg #[.int .i64 0, .int .i64 0, .int .i64 0, .int .i64 0, .int .i64 0, .int .i64 0, .int .i64 0, .int .i64 0, .int .i64 0, .int .i64 0, .int .i64 0]) 11 88 Tryz.underlying34 hiJ hzaJ hzbJ hzcJ rfl (by decide) (.slice (some ⟨w0.heap.size, 0, none⟩) 0 0) 0 [] rfl ?ca K nk ck (jflat s.queue) rfl H.out.aK ?cb jflat_oneW ?cd ?ce ?cf ?_)
 case ca => exact own_lit (cs := []) (n := 0) (zAk _ rfl) rfl (by decide) XP0.out.bel.size
 case cb => exact (H.out.bel (zAc XP0.out.bel (zAa _ _))).queue
 case cd => unfold maxLen; omega
 case ce => omega
 case cf => have := XP0.out.bel.size; first | omega | (simp <;> omega)
 intro v1 w1 own1 hg1 hne1 hat1
 obtain ⟨X1, c1, rfl, _⟩ := zAt own1
 have hw0 := XP0.out.bel.size
 have B1 : Hid (Below w.heap.size w w1) := Lib.hid (Below.grown (zAc XP0.out.bel (zAa _ _)) hg1 zOm (fun j hj => by simp [Value.ownBlock] at hj; omega))
 have XP1 : Hid (BX w w1 (w.heap.size) 77 [.slice A n c, .slice B m d, .slice U nu cu, .int .i64 s.lic.A, .int .i64 s.lic.B, .int .i64 s.lic.C, .int .i64 s.dep, .int .i64 s.now, .slice K nk ck, .slice R nr cr, .slice E ne ce]) := Lib.hid (BX.grown (XP0.out.step (zAa w0 (.cells #[] 95))) hg1 (fun j hj => by have := zAf XP0.out.bx; simp [Value.ownBlock] at hj; omega) (fun j hj => by simp [Value.ownBlock] at hj; omega))
 have O1 : Hid (w1.ownsRow w.heap.size 95 11 (.slice X1 (nk + 0) c1) (nk + 0) (jflat (s.jobsN 0))) := Lib.hid (by simpa [St.jobsN] using own1)
 clear own1 hg1 hne1 hat1 k8 kf kl XP0 hw0
 have k9 := zAb XP1.out.bx 9 rfl
 have kf := zAh XP1.out.bx
 have kl := zAf XP1.out.bx
 simp only [zgc, zga, zgb] at k9
 go_wp2
 clear k9 kf kl XP1
 go_loopw [3, 13] (fun V i wr => ∃ (q : Nat) (X : Option Addr) (k : Nat), q ≤ nr ∧ i = .int .i64 q ∧ V = .slice X (nk + q) k ∧ wr.ownsRow w.heap.size 95 11 (.slice X (nk + q) k) (nk + q) (jflat (s.jobsN q)) ∧ Below w.heap.size w wr) (fun _ i _ => nr - (intOf i).toNat)
 case atStart => exact ⟨0, X1, c1, Nat.zero_le _, rfl, rfl, O1.out, B1.out⟩
 case round =>
 clear O1 B1
 obtain ⟨q, X2, k2, hq, rfl, rfl, o2, b2⟩ := hrel
 obtain ⟨wo, rfl⟩ : ∃ x, x = wr := ⟨wr, rfl⟩
 have O2 := Lib.hid o2
 have B2 := Lib.hid b2
 clear o2 b2
 by_cases hlt : q < nr
 ·have hlt' : (q : Int) < nr := by omega
  obtain ⟨g, x, X, dX, rfl, hp, hx, l1, l2, l3, rX, lX, hg, d0, d1, d2, d3, d4, d5, d6, d7, d8, d9, d10, d11, d12⟩ := (H.out.bel B2.out).runs.row hlt
  have HPQ := Lib.hid hp
  have O5 := Lib.hid (zAe O2.out (zAa wo (.cells #[.int .i64 x.j.id, .int .i64 x.j.pr, .int .i64 x.j.nn, .int .i64 x.j.na, .int .i64 x.j.nb, .int .i64 x.j.nc, .int .i64 x.j.la, .int .i64 x.j.lb, .int .i64 x.j.lc, .int .i64 x.j.wl, .int .i64 x.j.lv, .int .i64 x.at_, .slice X x.nd.length dX] 136)))
  have ND5 : Hid (BX w (wo.alloc (.cells #[.int .i64 x.j.id, .int .i64 x.j.pr, .int .i64 x.j.nn, .int .i64 x.j.na, .int .i64 x.j.nb, .int .i64 x.j.nc, .int .i64 x.j.la, .int .i64 x.j.lb, .int .i64 x.j.lc, .int .i64 x.j.wl, .int .i64 x.j.lv, .int .i64 x.at_, .slice X x.nd.length dX] 136)) wo.heap.size 136 [.int .i64 x.j.id, .int .i64 x.j.pr, .int .i64 x.j.nn, .int .i64 x.j.na, .int .i64 x.j.nb, .int .i64 x.j.nc, .int .i64 x.j.la, .int .i64 x.j.lb, .int .i64 x.j.lc, .int .i64 x.j.wl, .int .i64 x.j.lv, .int .i64 x.at_, .slice X x.nd.length dX]) := Lib.hid ⟨zAk _ rfl, zAc B2.out (zAa _ _), B2.out.size⟩
  clear hp hx rX lX
  go_upto_region 5 with fail
  clear d0 d1 d2 d3 d4 d5 d6 d7 d8 d9 d10 d11 d12 O2 B2
  generalize wo.alloc (.cells #[.int .i64 x.j.id, .int .i64 x.j.pr, .int .i64 x.j.nn, .int .i64 x.j.na, .int .i64 x.j.nb, .int .i64 x.j.nc, .int .i64 x.j.la, .int .i64 x.j.lb, .int .i64 x.j.lc, .int .i64 x.j.wl, .int .i64 x.j.lv, .int .i64 x.at_, .slice X x.nd.length dX] 136) = wB at *
  have v0 := zAb ND5.out.bx 0 rfl
  have v1 := zAb ND5.out.bx 1 rfl
  have v2 := zAb ND5.out.bx 2 rfl
  have v3 := zAb ND5.out.bx 3 rfl
  have v4 := zAb ND5.out.bx 4 rfl
  have v5 := zAb ND5.out.bx 5 rfl
  have v6 := zAb ND5.out.bx 6 rfl
  have v7 := zAb ND5.out.bx 7 rfl
  have v8 := zAb ND5.out.bx 8 rfl
  have v9 := zAb ND5.out.bx 9 rfl
  have v10 := zAb ND5.out.bx 10 rfl
  have v11 := zAb ND5.out.bx 11 rfl
  have v12 := zAb ND5.out.bx 12 rfl
  have vf := zAh ND5.out.bx
  have vl := zAf ND5.out.bx
  simp only [zgc, zga, zgb] at v0 v1 v2 v3 v4 v5 v6 v7 v8 v9 v10 v11 v12
  go_wp2_with (at_builtin; refine zAw rfl _ _ 34 rfl w.heap.size 95 iJ (.agg #[.int .i64 0, .int .i64 0, .int .i64 0, .int .i64 0, .int .i64 0, .int .i64 0, .int .i64 0, .int .i64 0, .int .i64 0, .int .i64 0, .int .i64 0]) 11 88 Tryz.underlying34 hiJ hzaJ hzbJ hzcJ rfl (by decide) (.slice X2 (nk + q) k2) (nk + q) (jflat (s.jobsN q)) rfl ?ca (some ⟨wB.heap.size, 0, none⟩) 1 1 x.j.cells rfl (Or.inr ⟨_, rfl⟩) ?cb (jcells_oneW x.j) ?cd ?ce ?cf ?_)
  case ca => exact zAe O5.out (zAa _ _)
  case cb => exact zAv (own_lit (lo := 0) (cs := x.j.cells) (n := 1) (size := 11) (e := 95) (zAk _ rfl) rfl (by decide) (Nat.zero_le _))
  case cd => unfold maxLen; omega
  case ce => omega
  case cf => have := ND5.out.bel.size; first | omega | (simp <;> omega)
  intro v6 w6 own6 hg6 hne6 hat6
  obtain ⟨X6, c6, rfl, _⟩ := zAt own6
  have B6 : Hid (Below w.heap.size w w6) := Lib.hid (Below.grown (zAc ND5.out.bel (zAa wB (.cells x.j.cells.toArray 95))) hg6 (zAc ND5.out.bel (zAa wB (.cells x.j.cells.toArray 95))).size (own_ge O5.out))
  have O6 : Hid (w6.ownsRow w.heap.size 95 11 (.slice X6 (nk + (q + 1)) c6) (nk + (q + 1)) (jflat (s.jobsN (q + 1)))) := Lib.hid (by rw [jobsN_snoc HPQ.out, jflat_snocW]; exact own6)
  clear own6 hg6 hne6 hat6 v0 v1 v2 v3 v4 v5 v6 v7 v8 v9 v10 v11 v12 vf vl O5 ND5
  go_wp2
  exact ⟨⟨q + 1, X6, c6, by omega, by go_num, rfl, O6.out, B6.out⟩, by simp [intOf]; omega⟩
 ·obtain rfl : nr = q := by omega
  have hlt' : ¬ ((nr : Nat) : Int) < nr := by omega
  have hj : s.jobsN nr = s.jobs := by unfold St.jobsN St.jobs; rw [List.take_of_length_le (by have := H.out.runs.len; simp only at this; omega)]
  go_wp2
  go_ret
  exact ⟨X2, k2, rfl, by rw [← hj]; exact O2.out, B2.out⟩
end Go.Proofs.YtnphjhbfpoekpaaGreat
