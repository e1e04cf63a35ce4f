import Derived.Test.YtnphjhbfpoekpaaGreatWhPl
import Derived.Test.YtnphjhbfpoekpaaGreatFkPl
namespace Go.Proofs.YtnphjhbfpoekpaaGreat
set_option linter.unusedSimpArgs false
set_option linter.unusedVariables false
set_option linter.unnecessarySimpa false
open Go.RowKit
theorem RoomOwn.jobbox {w : World} {lo : Nat} {a : RA} {r : Rm} {xs : List Value} (h : RoomOwn w lo a r xs) {b : Nat} {vs : Array Value} {f : Nat × Nat} (hb : w.heap[b]? = some (.cells vs 95 f)) (o : Nat) (u : Value) : RoomOwn (w.setCell ⟨b, o, none⟩ u) lo a r xs :=
 ⟨h.n, h.m, h.nu, h.np, h.nl, zAo h.par (zAm h.par hb (by decide)) _, zAo h.nodes (zAm h.nodes hb (by decide)) _, zAo h.up (zAm h.up hb (by decide)) _, ⟨zAo h.profs.own (zAm h.profs.own hb (by decide)) _, h.profs.len, fun k x ps a c => ⟨(h.profs.each k x ps a c).1, zAo (h.profs.each k x ps a c).2 (zAm (h.profs.each k x ps a c).2 hb (by decide)) _⟩, h.profs.apart⟩, zAo h.lics (zAm h.lics hb (by decide)) _, h.apart⟩
set_option maxHeartbeats 16000000 in
set_option maxRecDepth 20000 in
theorem sRoomOf_any (a : SA) (s : St) (ss : List Value) (lo0 : Nat) (w : World) (h : StOwn w lo0 a s ss) :
  Calls Tryz.prog 32 #[a.v s] w fun e w' => ∃ a', e = .returned (.tuple #[RA.v a', .bool (roomO s).isSome]) ∧ (∃ xs, RoomOwn w' w.heap.size a' ((roomO s).getD noRm) xs) ∧ Below w.heap.size w w' := by
 obtain ⟨A, B, U, K, R, E, n, m, nu, nk, nr, ne, c, d, cu, ck, cr, ce⟩ := a
 dsimp only [SA.v]
 have HO := Lib.hid h
 have H := Lib.hid h.rd
 have hr9 : nr ≤ 1048576 := h.nr
 clear h
 have BE : Below w.heap.size w ((w.alloc (.cells #[.slice A n c, .slice B m d, .slice U nu cu, .int .i64 s.lic.A, .int .i64 s.lic.B, .int .i64 s.lic.C, .int .i64 s.dep, .int .i64 s.now, .slice K nk ck, .slice R nr cr, .slice E ne ce] 77)).alloc (.cells #[.slice none 0 0, .slice none 0 0, .slice none 0 0, .slice none 0 0, .slice none 0 0] 33)) := zAc (zAa _ _) (zAa _ _)
 have XP0 : Hid (BX w ((w.alloc (.cells #[.slice A n c, .slice B m d, .slice U nu cu, .int .i64 s.lic.A, .int .i64 s.lic.B, .int .i64 s.lic.C, .int .i64 s.dep, .int .i64 s.now, .slice K nk ck, .slice R nr cr, .slice E ne ce] 77)).alloc (.cells #[.slice none 0 0, .slice none 0 0, .slice none 0 0, .slice none 0 0, .slice none 0 0] 33)) (w.heap.size) 77 [.slice A n c, .slice B m d, .slice U nu cu, .int .i64 s.lic.A, .int .i64 s.lic.B, .int .i64 s.lic.C, .int .i64 s.dep, .int .i64 s.now, .slice K nk ck, .slice R nr cr, .slice E ne ce]) := Lib.hid ⟨zAu (zAk _ rfl) _, BE, Nat.le_refl _⟩
 have XR0 : Hid (BX w ((w.alloc (.cells #[.slice A n c, .slice B m d, .slice U nu cu, .int .i64 s.lic.A, .int .i64 s.lic.B, .int .i64 s.lic.C, .int .i64 s.dep, .int .i64 s.now, .slice K nk ck, .slice R nr cr, .slice E ne ce] 77)).alloc (.cells #[.slice none 0 0, .slice none 0 0, .slice none 0 0, .slice none 0 0, .slice none 0 0] 33)) (w.heap.size + 1) 33 [.slice none 0 0, .slice none 0 0, .slice none 0 0, .slice none 0 0, .slice none 0 0]) := Lib.hid ⟨zAk _ (by simp), BE, by omega⟩
 clear BE
 go_enter Tryz.func32, Tryz.ntmps32
 go_upto_region 1 with fail
 generalize (w.alloc (.cells #[.slice A n c, .slice B m d, .slice U nu cu, .int .i64 s.lic.A, .int .i64 s.lic.B, .int .i64 s.lic.C, .int .i64 s.dep, .int .i64 s.now, .slice K nk ck, .slice R nr cr, .slice E ne ce] 77)).alloc (.cells #[.slice none 0 0, .slice none 0 0, .slice none 0 0, .slice none 0 0, .slice none 0 0] 33) = w0 at *
 have p0 := zAb XP0.out.bx 0 rfl
 have p1 := zAb XP0.out.bx 1 rfl
 have p2 := zAb XP0.out.bx 2 rfl
 have p3 := zAb XP0.out.bx 3 rfl
 have p4 := zAb XP0.out.bx 4 rfl
 have p5 := zAb XP0.out.bx 5 rfl
 have p6 := zAb XP0.out.bx 6 rfl
 have p7 := zAb XP0.out.bx 7 rfl
 have p8 := zAb XP0.out.bx 8 rfl
 have p9 := zAb XP0.out.bx 9 rfl
 have p10 := zAb XP0.out.bx 10 rfl
 have pf := zAh XP0.out.bx
 have pl := zAf XP0.out.bx
 simp only [zgc, zga, zgb] at p0 p1 p2 p3 p4 p5 p6 p7 p8 p9 p10
 go_wp2_with fail
 refine (sEmpty_any ⟨A, B, U, K, R, E, n, m, nu, nk, nr, ne, c, d, cu, ck, cr, ce⟩ s ss lo0 _ (HO.out.bel XP0.out.bel)).mono ?_
 rintro e w5 ⟨a5, rfl, hok5, hb5⟩
 obtain ⟨A5, B5, U5, R5, L5, n5, m5, nu5, np5, nl5, c5, d5, cu5, cp5, cl5⟩ := a5
 dsimp only [RA.v]
 obtain ⟨EB, hEB⟩ : ∃ y, y = eokB s := ⟨_, rfl⟩
 have HEB := Lib.hid hEB
 rw [← hEB] at hok5 ⊢
 have hw0 := XP0.out.bel.size
 have XP6 := Lib.hid ((XP0.out.step hb5).step (zAa w5 (.cells #[.slice A5 n5 c5, .slice B5 m5 d5, .slice U5 nu5 cu5, .slice R5 np5 cp5, .slice L5 nl5 cl5] 33)))
 have XR6 := Lib.hid ((XR0.out.step hb5).step (zAa w5 (.cells #[.slice A5 n5 c5, .slice B5 m5 d5, .slice U5 nu5 cu5, .slice R5 np5 cp5, .slice L5 nl5 cl5] 33)))
 have BX6 : Hid ((w5.alloc (.cells #[.slice A5 n5 c5, .slice B5 m5 d5, .slice U5 nu5 cu5, .slice R5 np5 cp5, .slice L5 nl5 cl5] 33)).heap[w5.heap.size]? = some (.cells #[.slice A5 n5 c5, .slice B5 m5 d5, .slice U5 nu5 cu5, .slice R5 np5 cp5, .slice L5 nl5 cl5] 33 (0, 0))) := Lib.hid (zAk _ rfl)
 have OK6 : Hid (EB = true → ∃ xs, RoomOwn (w5.alloc (.cells #[.slice A5 n5 c5, .slice B5 m5 d5, .slice U5 nu5 cu5, .slice R5 np5 cp5, .slice L5 nl5 cl5] 33)) w.heap.size ⟨A5, B5, U5, R5, L5, n5, m5, nu5, np5, nl5, c5, d5, cu5, cp5, cl5⟩ s.empty xs) := Lib.hid (fun h9 => by
  obtain ⟨xs, ho⟩ := hok5 h9
  exact ⟨xs, (ho.mono hw0).bel (zAa _ _)⟩)
 have hbr0 : w.heap.size ≤ w5.heap.size := (zAc XP0.out.bel hb5).size
 have hbr9 := zAf (XR0.out.step hb5).bx
 clear hok5 hEB hb5 hw0 p0 p1 p2 p3 p4 p5 p6 p7 p8 p9 p10 pf pl XP0 XR0
 go_upto_region 2 with fail
 obtain ⟨br, hbr⟩ : ∃ y, y = w5.heap.size := ⟨_, rfl⟩
 rw [← hbr] at BX6 hbr0 hbr9 ⊢
 generalize w5.alloc (.cells #[.slice A5 n5 c5, .slice B5 m5 d5, .slice U5 nu5 cu5, .slice R5 np5 cp5, .slice L5 nl5 cl5] 33) = w6 at *
 clear hbr
 cases EB with
 | false =>
  have p7 := zAb XP6.out.bx 7 rfl
  have pf := zAh XP6.out.bx
  have pl := zAf XP6.out.bx
  simp only [zgc, zga, zgb] at p7
  have r0 := zAb XR6.out.bx 0 rfl
  have r1 := zAb XR6.out.bx 1 rfl
  have r2 := zAb XR6.out.bx 2 rfl
  have r3 := zAb XR6.out.bx 3 rfl
  have r4 := zAb XR6.out.bx 4 rfl
  have rf := zAh XR6.out.bx
  have rl := zAf XR6.out.bx
  simp only [zgc, zga, zgb] at r0 r1 r2 r3 r4
  have XW : Hid (BX w (((((w6.setCell ⟨w.heap.size + 1, 0, none⟩ (.slice none 0 0)).setCell ⟨w.heap.size + 1, 1, none⟩ (.slice none 0 0)).setCell ⟨w.heap.size + 1, 2, none⟩ (.slice none 0 0)).setCell ⟨w.heap.size + 1, 3, none⟩ (.slice none 0 0)).setCell ⟨w.heap.size + 1, 4, none⟩ (.slice none 0 0)) (w.heap.size + 1) 33 [.slice none 0 0, .slice none 0 0, .slice none 0 0, .slice none 0 0, .slice none 0 0]) := Lib.hid (XR6.out.sets [.slice none 0 0, .slice none 0 0, .slice none 0 0, .slice none 0 0, .slice none 0 0] 0)
  go_wp2
  (try go_light)
  generalize ((((w6.setCell ⟨w.heap.size + 1, 0, none⟩ (.slice none 0 0)).setCell ⟨w.heap.size + 1, 1, none⟩ (.slice none 0 0)).setCell ⟨w.heap.size + 1, 2, none⟩ (.slice none 0 0)).setCell ⟨w.heap.size + 1, 3, none⟩ (.slice none 0 0)).setCell ⟨w.heap.size + 1, 4, none⟩ (.slice none 0 0) = W at *
  have f0 := zAb XW.out.bx 0 rfl
  have f1 := zAb XW.out.bx 1 rfl
  have f2 := zAb XW.out.bx 2 rfl
  have f3 := zAb XW.out.bx 3 rfl
  have f4 := zAb XW.out.bx 4 rfl
  have ff := zAh XW.out.bx
  have fl := zAf XW.out.bx
  simp only [zgc, zga, zgb] at f0 f1 f2 f3 f4
  refine bodyPost_ret (v := .tuple #[.agg #[.slice none 0 0, .slice none 0 0, .slice none 0 0, .slice none 0 0, .slice none 0 0], .bool false]) (by simp [results, Tryz.results32, go_sem, f0, f1, f2, f3, f4]) rfl ?_
  rw [show roomO s = none from by have h9 := HEB.out; unfold eokB at h9; unfold roomO preB; rw [← h9]; rfl]; exact ⟨⟨none, none, none, none, none, 0, 0, 0, 0, 0, 0, 0, 0, 0, 0⟩, rfl, ⟨[], noRm_own _ _⟩, XW.out.bel⟩
 | true =>
 obtain ⟨xs6, ro6⟩ := OK6.out rfl
 have K6 : Hid (RK w w6 br ⟨A5, B5, U5, R5, L5, n5, m5, nu5, np5, nl5, c5, d5, cu5, cp5, cl5⟩ s.empty) := Lib.hid ⟨BX6.out, ⟨xs6, ro6⟩, XP6.out.bel, hbr0⟩
 clear ro6 OK6 BX6
 have p7 := zAb XP6.out.bx 7 rfl
 have pf := zAh XP6.out.bx
 have pl := zAf XP6.out.bx
 simp only [zgc, zga, zgb] at p7
 go_wp2_with fail
 refine (sTime_any s.now _).mono ?_
 rintro e w4 ⟨rfl, rfl⟩
 cases htm : timeB s.now
 ·skip
  have r0 := zAb XR6.out.bx 0 rfl
  have r1 := zAb XR6.out.bx 1 rfl
  have r2 := zAb XR6.out.bx 2 rfl
  have r3 := zAb XR6.out.bx 3 rfl
  have r4 := zAb XR6.out.bx 4 rfl
  have rf := zAh XR6.out.bx
  have rl := zAf XR6.out.bx
  simp only [zgc, zga, zgb] at r0 r1 r2 r3 r4
  have XW : Hid (BX w (((((w6.setCell ⟨w.heap.size + 1, 0, none⟩ (.slice none 0 0)).setCell ⟨w.heap.size + 1, 1, none⟩ (.slice none 0 0)).setCell ⟨w.heap.size + 1, 2, none⟩ (.slice none 0 0)).setCell ⟨w.heap.size + 1, 3, none⟩ (.slice none 0 0)).setCell ⟨w.heap.size + 1, 4, none⟩ (.slice none 0 0)) (w.heap.size + 1) 33 [.slice none 0 0, .slice none 0 0, .slice none 0 0, .slice none 0 0, .slice none 0 0]) := Lib.hid (XR6.out.sets [.slice none 0 0, .slice none 0 0, .slice none 0 0, .slice none 0 0, .slice none 0 0] 0)
  go_wp2
  (try go_light)
  generalize ((((w6.setCell ⟨w.heap.size + 1, 0, none⟩ (.slice none 0 0)).setCell ⟨w.heap.size + 1, 1, none⟩ (.slice none 0 0)).setCell ⟨w.heap.size + 1, 2, none⟩ (.slice none 0 0)).setCell ⟨w.heap.size + 1, 3, none⟩ (.slice none 0 0)).setCell ⟨w.heap.size + 1, 4, none⟩ (.slice none 0 0) = W at *
  have f0 := zAb XW.out.bx 0 rfl
  have f1 := zAb XW.out.bx 1 rfl
  have f2 := zAb XW.out.bx 2 rfl
  have f3 := zAb XW.out.bx 3 rfl
  have f4 := zAb XW.out.bx 4 rfl
  have ff := zAh XW.out.bx
  have fl := zAf XW.out.bx
  simp only [zgc, zga, zgb] at f0 f1 f2 f3 f4
  refine bodyPost_ret (v := .tuple #[.agg #[.slice none 0 0, .slice none 0 0, .slice none 0 0, .slice none 0 0, .slice none 0 0], .bool false]) (by simp [results, Tryz.results32, go_sem, f0, f1, f2, f3, f4]) rfl ?_
  rw [show roomO s = none from by unfold roomO preB; rw [htm]; simp]; exact ⟨⟨none, none, none, none, none, 0, 0, 0, 0, 0, 0, 0, 0, 0, 0⟩, rfl, ⟨[], noRm_own _ _⟩, XW.out.bel⟩
 have hnow : 0 ≤ s.now ∧ s.now ≤ 1000000000 := by simpa [timeB, inB] using htm
 have HRO : Hid (roomO s = runsV s.now s.empty s.runs) := Lib.hid (by have h9 := HEB.out; unfold eokB at h9; unfold roomO preB; rw [← h9, htm]; rfl)
 have HTM := Lib.hid htm
 clear htm HEB p7 pf pl
 have p9 := zAb XP6.out.bx 9 rfl
 have pf := zAh XP6.out.bx
 have pl := zAf XP6.out.bx
 simp only [zgc, zga, zgb] at p9
 go_wp2
 clear p9 pf pl
 go_loopw [29] (fun i wr => ∃ (q : Nat) (a : RA) (r : Rm), q ≤ nr ∧ i = .int .i64 q ∧ RK w wr br a r ∧ BX w wr (w.heap.size) 77 [.slice A n c, .slice B m d, .slice U nu cu, .int .i64 s.lic.A, .int .i64 s.lic.B, .int .i64 s.lic.C, .int .i64 s.dep, .int .i64 s.now, .slice K nk ck, .slice R nr cr, .slice E ne ce] ∧ BX w wr (w.heap.size + 1) 33 [.slice none 0 0, .slice none 0 0, .slice none 0 0, .slice none 0 0, .slice none 0 0] ∧ Hid (roomO s = runsV s.now r (s.runs.drop q))) (fun i _ => nr - (intOf i).toNat)
 case atStart => exact ⟨0, _, _, Nat.zero_le _, rfl, K6.out, XP6.out, XR6.out, Lib.hid (by rw [HRO.out]; rfl)⟩
 case round =>
 clear K6 XP6 XR6 HRO
 obtain ⟨q, a, r, hq, rfl, K', P', R', hro⟩ := hrel
 obtain ⟨wo, rfl⟩ : ∃ x, x = wr := ⟨wr, rfl⟩
 have K4 := Lib.hid K'
 have XP4 := Lib.hid P'
 have XR4 := Lib.hid R'
 clear K' P' R'
 obtain ⟨A1, B1, U1, R1, L1, n1, m1, nu1, np1, nl1, c1, d1, cu1, cp1, cl1⟩ := a
 by_cases hlt : q < nr
 ·have hlt' : (q : Int) < nr := by omega
  obtain ⟨g, x, X, dX, rfl, hp, hx, l1, l2, l3, rX, lX, hg, d0, d1, d2, d3, d4, d5, d6, d7, d8, d9, d10, d11, d12⟩ := (H.out.bel XP4.out.bel).runs.row hlt
  have HPQ := Lib.hid hp
  have RX := Lib.hid rX
  have LX := Lib.hid lX
  have K5 := Lib.hid (K4.out.step (zAa wo (.cells #[.int .i64 x.j.id, .int .i64 x.j.pr, .int .i64 x.j.nn, .int .i64 x.j.na, .int .i64 x.j.nb, .int .i64 x.j.nc, .int .i64 x.j.la, .int .i64 x.j.lb, .int .i64 x.j.lc, .int .i64 x.j.wl, .int .i64 x.j.lv, .int .i64 x.at_, .slice X x.nd.length dX] 136)))
  have XP5 := Lib.hid (XP4.out.step (zAa wo (.cells #[.int .i64 x.j.id, .int .i64 x.j.pr, .int .i64 x.j.nn, .int .i64 x.j.na, .int .i64 x.j.nb, .int .i64 x.j.nc, .int .i64 x.j.la, .int .i64 x.j.lb, .int .i64 x.j.lc, .int .i64 x.j.wl, .int .i64 x.j.lv, .int .i64 x.at_, .slice X x.nd.length dX] 136)))
  have XR5 := Lib.hid (XR4.out.step (zAa wo (.cells #[.int .i64 x.j.id, .int .i64 x.j.pr, .int .i64 x.j.nn, .int .i64 x.j.na, .int .i64 x.j.nb, .int .i64 x.j.nc, .int .i64 x.j.la, .int .i64 x.j.lb, .int .i64 x.j.lc, .int .i64 x.j.wl, .int .i64 x.j.lv, .int .i64 x.at_, .slice X x.nd.length dX] 136)))
  have BW5 := Lib.hid (zAa wo (.cells #[.int .i64 x.j.id, .int .i64 x.j.pr, .int .i64 x.j.nn, .int .i64 x.j.na, .int .i64 x.j.nb, .int .i64 x.j.nc, .int .i64 x.j.la, .int .i64 x.j.lb, .int .i64 x.j.lc, .int .i64 x.j.wl, .int .i64 x.j.lv, .int .i64 x.at_, .slice X x.nd.length dX] 136))
  have ND5 : Hid (BX w (wo.alloc (.cells #[.int .i64 x.j.id, .int .i64 x.j.pr, .int .i64 x.j.nn, .int .i64 x.j.na, .int .i64 x.j.nb, .int .i64 x.j.nc, .int .i64 x.j.la, .int .i64 x.j.lb, .int .i64 x.j.lc, .int .i64 x.j.wl, .int .i64 x.j.lv, .int .i64 x.at_, .slice X x.nd.length dX] 136)) wo.heap.size 136 [.int .i64 x.j.id, .int .i64 x.j.pr, .int .i64 x.j.nn, .int .i64 x.j.na, .int .i64 x.j.nb, .int .i64 x.j.nc, .int .i64 x.j.la, .int .i64 x.j.lb, .int .i64 x.j.lc, .int .i64 x.j.wl, .int .i64 x.j.lv, .int .i64 x.at_, .slice X x.nd.length dX]) := Lib.hid ⟨zAk _ rfl, XP5.out.bel, XP4.out.bel.size⟩
  clear hp hx rX lX
  go_upto_region 7 with fail
  clear d0 d1 d2 d3 d4 d5 d6 d7 d8 d9 d10 d11 d12 K4 XP4 XR4
  generalize wo.alloc (.cells #[.int .i64 x.j.id, .int .i64 x.j.pr, .int .i64 x.j.nn, .int .i64 x.j.na, .int .i64 x.j.nb, .int .i64 x.j.nc, .int .i64 x.j.la, .int .i64 x.j.lb, .int .i64 x.j.lc, .int .i64 x.j.wl, .int .i64 x.j.lv, .int .i64 x.at_, .slice X x.nd.length dX] 136) = w5 at *
  obtain ⟨xs5, ro5⟩ := K5.out.own
  have RO5 := Lib.hid ro5
  clear ro5
  have k0 := zAb K5.out.bx 0 rfl
  have k1 := zAb K5.out.bx 1 rfl
  have k2 := zAb K5.out.bx 2 rfl
  have k3 := zAb K5.out.bx 3 rfl
  have k4 := zAb K5.out.bx 4 rfl
  have kf := zAh K5.out.bx
  have kl := zAf K5.out.bx
  simp only [zgc, zga, zgb] at k0 k1 k2 k3 k4
  have v0 := zAb ND5.out.bx 0 rfl
  have v1 := zAb ND5.out.bx 1 rfl
  have v2 := zAb ND5.out.bx 2 rfl
  have v3 := zAb ND5.out.bx 3 rfl
  have v4 := zAb ND5.out.bx 4 rfl
  have v5 := zAb ND5.out.bx 5 rfl
  have v6 := zAb ND5.out.bx 6 rfl
  have v7 := zAb ND5.out.bx 7 rfl
  have v8 := zAb ND5.out.bx 8 rfl
  have v9 := zAb ND5.out.bx 9 rfl
  have v10 := zAb ND5.out.bx 10 rfl
  have v11 := zAb ND5.out.bx 11 rfl
  have v12 := zAb ND5.out.bx 12 rfl
  have vf := zAh ND5.out.bx
  have vl := zAf ND5.out.bx
  simp only [zgc, zga, zgb] at v0 v1 v2 v3 v4 v5 v6 v7 v8 v9 v10 v11 v12
  have p7 := zAb XP5.out.bx 7 rfl
  have pf := zAh XP5.out.bx
  have pl := zAf XP5.out.bx
  simp only [zgc, zga, zgb] at p7
  go_wp2_with fail
  refine (sDiff_any ⟨A1, B1, U1, R1, L1, n1, m1, nu1, np1, nl1, c1, d1, cu1, cp1, cl1⟩ r xs5 _ x.j X x.nd.length dX x.nd _ RO5.out l1 l2 l3 (RX.out.below LX.out BW5.out) (zAi LX.out BW5.out)).mono ?_
  rintro e w7 ⟨rfl, hb7⟩
  have K7 := Lib.hid (K5.out.step hb7)
  have XP7 := Lib.hid (XP5.out.step hb7)
  have XR7 := Lib.hid (XR5.out.step hb7)
  have ND7 := Lib.hid (ND5.out.step hb7)
  have BW7 := Lib.hid (zAc BW5.out hb7)
  clear hb7 RO5 k0 k1 k2 k3 k4 kf kl v0 v1 v2 v3 v4 v5 v6 v7 v8 v9 v10 v11 v12 vf vl p7 pf pl K5 XP5 XR5 ND5 BW5
  cases hjn : jnB r x.j x.nd
  ·skip
   have v0 := zAb ND7.out.bx 0 rfl
   have v1 := zAb ND7.out.bx 1 rfl
   have v2 := zAb ND7.out.bx 2 rfl
   have v3 := zAb ND7.out.bx 3 rfl
   have v4 := zAb ND7.out.bx 4 rfl
   have v5 := zAb ND7.out.bx 5 rfl
   have v6 := zAb ND7.out.bx 6 rfl
   have v7 := zAb ND7.out.bx 7 rfl
   have v8 := zAb ND7.out.bx 8 rfl
   have v9 := zAb ND7.out.bx 9 rfl
   have v10 := zAb ND7.out.bx 10 rfl
   have v11 := zAb ND7.out.bx 11 rfl
   have v12 := zAb ND7.out.bx 12 rfl
   have vf := zAh ND7.out.bx
   have vl := zAf ND7.out.bx
   simp only [zgc, zga, zgb] at v0 v1 v2 v3 v4 v5 v6 v7 v8 v9 v10 v11 v12
   have p7 := zAb XP7.out.bx 7 rfl
   have pf := zAh XP7.out.bx
   have pl := zAf XP7.out.bx
   simp only [zgc, zga, zgb] at p7
   have r0 := zAb XR7.out.bx 0 rfl
   have r1 := zAb XR7.out.bx 1 rfl
   have r2 := zAb XR7.out.bx 2 rfl
   have r3 := zAb XR7.out.bx 3 rfl
   have r4 := zAb XR7.out.bx 4 rfl
   have rf := zAh XR7.out.bx
   have rl := zAf XR7.out.bx
   simp only [zgc, zga, zgb] at r0 r1 r2 r3 r4
   have XW : Hid (BX w (((((w7.setCell ⟨w.heap.size + 1, 0, none⟩ (.slice none 0 0)).setCell ⟨w.heap.size + 1, 1, none⟩ (.slice none 0 0)).setCell ⟨w.heap.size + 1, 2, none⟩ (.slice none 0 0)).setCell ⟨w.heap.size + 1, 3, none⟩ (.slice none 0 0)).setCell ⟨w.heap.size + 1, 4, none⟩ (.slice none 0 0)) (w.heap.size + 1) 33 [.slice none 0 0, .slice none 0 0, .slice none 0 0, .slice none 0 0, .slice none 0 0]) := Lib.hid (XR7.out.sets [.slice none 0 0, .slice none 0 0, .slice none 0 0, .slice none 0 0, .slice none 0 0] 0)
   go_wp2
   (try go_light)
   generalize ((((w7.setCell ⟨w.heap.size + 1, 0, none⟩ (.slice none 0 0)).setCell ⟨w.heap.size + 1, 1, none⟩ (.slice none 0 0)).setCell ⟨w.heap.size + 1, 2, none⟩ (.slice none 0 0)).setCell ⟨w.heap.size + 1, 3, none⟩ (.slice none 0 0)).setCell ⟨w.heap.size + 1, 4, none⟩ (.slice none 0 0) = W at *
   have f0 := zAb XW.out.bx 0 rfl
   have f1 := zAb XW.out.bx 1 rfl
   have f2 := zAb XW.out.bx 2 rfl
   have f3 := zAb XW.out.bx 3 rfl
   have f4 := zAb XW.out.bx 4 rfl
   have ff := zAh XW.out.bx
   have fl := zAf XW.out.bx
   simp only [zgc, zga, zgb] at f0 f1 f2 f3 f4
   refine bodyPost_ret (v := .tuple #[.agg #[.slice none 0 0, .slice none 0 0, .slice none 0 0, .slice none 0 0, .slice none 0 0], .bool false]) (by simp [results, Tryz.results32, go_sem, f0, f1, f2, f3, f4]) rfl ?_
   rw [show roomO s = none from runsV_stop HPQ.out (run_no (by unfold sRunB; rw [hjn]; rfl)) hro.out]; exact ⟨⟨none, none, none, none, none, 0, 0, 0, 0, 0, 0, 0, 0, 0, 0⟩, rfl, ⟨[], noRm_own _ _⟩, XW.out.bel⟩
  have hwl := job_wl (show x.j.okB = true by unfold jnB at hjn; simp only [Bool.and_eq_true] at hjn; exact hjn.1.2)
  have v0 := zAb ND7.out.bx 0 rfl
  have v1 := zAb ND7.out.bx 1 rfl
  have v2 := zAb ND7.out.bx 2 rfl
  have v3 := zAb ND7.out.bx 3 rfl
  have v4 := zAb ND7.out.bx 4 rfl
  have v5 := zAb ND7.out.bx 5 rfl
  have v6 := zAb ND7.out.bx 6 rfl
  have v7 := zAb ND7.out.bx 7 rfl
  have v8 := zAb ND7.out.bx 8 rfl
  have v9 := zAb ND7.out.bx 9 rfl
  have v10 := zAb ND7.out.bx 10 rfl
  have v11 := zAb ND7.out.bx 11 rfl
  have v12 := zAb ND7.out.bx 12 rfl
  have vf := zAh ND7.out.bx
  have vl := zAf ND7.out.bx
  simp only [zgc, zga, zgb] at v0 v1 v2 v3 v4 v5 v6 v7 v8 v9 v10 v11 v12
  have p7 := zAb XP7.out.bx 7 rfl
  have pf := zAh XP7.out.bx
  have pl := zAf XP7.out.bx
  simp only [zgc, zga, zgb] at p7
  go_wp2_with fail
  refine (sTime_any x.at_ _).mono ?_
  rintro e w8 ⟨rfl, rfl⟩
  cases hat : timeB x.at_
  ·skip
   have r0 := zAb XR7.out.bx 0 rfl
   have r1 := zAb XR7.out.bx 1 rfl
   have r2 := zAb XR7.out.bx 2 rfl
   have r3 := zAb XR7.out.bx 3 rfl
   have r4 := zAb XR7.out.bx 4 rfl
   have rf := zAh XR7.out.bx
   have rl := zAf XR7.out.bx
   simp only [zgc, zga, zgb] at r0 r1 r2 r3 r4
   have XW : Hid (BX w (((((w7.setCell ⟨w.heap.size + 1, 0, none⟩ (.slice none 0 0)).setCell ⟨w.heap.size + 1, 1, none⟩ (.slice none 0 0)).setCell ⟨w.heap.size + 1, 2, none⟩ (.slice none 0 0)).setCell ⟨w.heap.size + 1, 3, none⟩ (.slice none 0 0)).setCell ⟨w.heap.size + 1, 4, none⟩ (.slice none 0 0)) (w.heap.size + 1) 33 [.slice none 0 0, .slice none 0 0, .slice none 0 0, .slice none 0 0, .slice none 0 0]) := Lib.hid (XR7.out.sets [.slice none 0 0, .slice none 0 0, .slice none 0 0, .slice none 0 0, .slice none 0 0] 0)
   go_wp2
   (try go_light)
   generalize ((((w7.setCell ⟨w.heap.size + 1, 0, none⟩ (.slice none 0 0)).setCell ⟨w.heap.size + 1, 1, none⟩ (.slice none 0 0)).setCell ⟨w.heap.size + 1, 2, none⟩ (.slice none 0 0)).setCell ⟨w.heap.size + 1, 3, none⟩ (.slice none 0 0)).setCell ⟨w.heap.size + 1, 4, none⟩ (.slice none 0 0) = W at *
   have f0 := zAb XW.out.bx 0 rfl
   have f1 := zAb XW.out.bx 1 rfl
   have f2 := zAb XW.out.bx 2 rfl
   have f3 := zAb XW.out.bx 3 rfl
   have f4 := zAb XW.out.bx 4 rfl
   have ff := zAh XW.out.bx
   have fl := zAf XW.out.bx
   simp only [zgc, zga, zgb] at f0 f1 f2 f3 f4
   refine bodyPost_ret (v := .tuple #[.agg #[.slice none 0 0, .slice none 0 0, .slice none 0 0, .slice none 0 0, .slice none 0 0], .bool false]) (by simp [results, Tryz.results32, go_sem, f0, f1, f2, f3, f4]) rfl ?_
   rw [show roomO s = none from runsV_stop HPQ.out (run_no (by unfold sRunB; rw [hat]; simp)) hro.out]; exact ⟨⟨none, none, none, none, none, 0, 0, 0, 0, 0, 0, 0, 0, 0, 0⟩, rfl, ⟨[], noRm_own _ _⟩, XW.out.bel⟩
  have hat2 : 0 ≤ x.at_ ∧ x.at_ ≤ 1000000000 := by simpa [timeB, inB] using hat
  have hwr1 : wrap64 (x.at_ + x.j.wl) = x.at_ + x.j.wl := IntWalk.wrap64_in _ (by omega)
  rw [hwr1]
  by_cases h3 : s.now < x.at_
  ·skip
   have r0 := zAb XR7.out.bx 0 rfl
   have r1 := zAb XR7.out.bx 1 rfl
   have r2 := zAb XR7.out.bx 2 rfl
   have r3 := zAb XR7.out.bx 3 rfl
   have r4 := zAb XR7.out.bx 4 rfl
   have rf := zAh XR7.out.bx
   have rl := zAf XR7.out.bx
   simp only [zgc, zga, zgb] at r0 r1 r2 r3 r4
   have XW : Hid (BX w (((((w7.setCell ⟨w.heap.size + 1, 0, none⟩ (.slice none 0 0)).setCell ⟨w.heap.size + 1, 1, none⟩ (.slice none 0 0)).setCell ⟨w.heap.size + 1, 2, none⟩ (.slice none 0 0)).setCell ⟨w.heap.size + 1, 3, none⟩ (.slice none 0 0)).setCell ⟨w.heap.size + 1, 4, none⟩ (.slice none 0 0)) (w.heap.size + 1) 33 [.slice none 0 0, .slice none 0 0, .slice none 0 0, .slice none 0 0, .slice none 0 0]) := Lib.hid (XR7.out.sets [.slice none 0 0, .slice none 0 0, .slice none 0 0, .slice none 0 0, .slice none 0 0] 0)
   go_wp2
   (try go_light)
   generalize ((((w7.setCell ⟨w.heap.size + 1, 0, none⟩ (.slice none 0 0)).setCell ⟨w.heap.size + 1, 1, none⟩ (.slice none 0 0)).setCell ⟨w.heap.size + 1, 2, none⟩ (.slice none 0 0)).setCell ⟨w.heap.size + 1, 3, none⟩ (.slice none 0 0)).setCell ⟨w.heap.size + 1, 4, none⟩ (.slice none 0 0) = W at *
   have f0 := zAb XW.out.bx 0 rfl
   have f1 := zAb XW.out.bx 1 rfl
   have f2 := zAb XW.out.bx 2 rfl
   have f3 := zAb XW.out.bx 3 rfl
   have f4 := zAb XW.out.bx 4 rfl
   have ff := zAh XW.out.bx
   have fl := zAf XW.out.bx
   simp only [zgc, zga, zgb] at f0 f1 f2 f3 f4
   refine bodyPost_ret (v := .tuple #[.agg #[.slice none 0 0, .slice none 0 0, .slice none 0 0, .slice none 0 0, .slice none 0 0], .bool false]) (by simp [results, Tryz.results32, go_sem, f0, f1, f2, f3, f4]) rfl ?_
   rw [show roomO s = none from runsV_stop HPQ.out (run_no (by unfold sRunB; rw [decide_eq_false (show ¬ x.at_ ≤ s.now by omega)]; simp)) hro.out]; exact ⟨⟨none, none, none, none, none, 0, 0, 0, 0, 0, 0, 0, 0, 0, 0⟩, rfl, ⟨[], noRm_own _ _⟩, XW.out.bel⟩
  by_cases h4 : x.at_ + x.j.wl ≤ s.now
  ·skip
   have r0 := zAb XR7.out.bx 0 rfl
   have r1 := zAb XR7.out.bx 1 rfl
   have r2 := zAb XR7.out.bx 2 rfl
   have r3 := zAb XR7.out.bx 3 rfl
   have r4 := zAb XR7.out.bx 4 rfl
   have rf := zAh XR7.out.bx
   have rl := zAf XR7.out.bx
   simp only [zgc, zga, zgb] at r0 r1 r2 r3 r4
   have XW : Hid (BX w (((((w7.setCell ⟨w.heap.size + 1, 0, none⟩ (.slice none 0 0)).setCell ⟨w.heap.size + 1, 1, none⟩ (.slice none 0 0)).setCell ⟨w.heap.size + 1, 2, none⟩ (.slice none 0 0)).setCell ⟨w.heap.size + 1, 3, none⟩ (.slice none 0 0)).setCell ⟨w.heap.size + 1, 4, none⟩ (.slice none 0 0)) (w.heap.size + 1) 33 [.slice none 0 0, .slice none 0 0, .slice none 0 0, .slice none 0 0, .slice none 0 0]) := Lib.hid (XR7.out.sets [.slice none 0 0, .slice none 0 0, .slice none 0 0, .slice none 0 0, .slice none 0 0] 0)
   go_wp2
   (try go_light)
   generalize ((((w7.setCell ⟨w.heap.size + 1, 0, none⟩ (.slice none 0 0)).setCell ⟨w.heap.size + 1, 1, none⟩ (.slice none 0 0)).setCell ⟨w.heap.size + 1, 2, none⟩ (.slice none 0 0)).setCell ⟨w.heap.size + 1, 3, none⟩ (.slice none 0 0)).setCell ⟨w.heap.size + 1, 4, none⟩ (.slice none 0 0) = W at *
   have f0 := zAb XW.out.bx 0 rfl
   have f1 := zAb XW.out.bx 1 rfl
   have f2 := zAb XW.out.bx 2 rfl
   have f3 := zAb XW.out.bx 3 rfl
   have f4 := zAb XW.out.bx 4 rfl
   have ff := zAh XW.out.bx
   have fl := zAf XW.out.bx
   simp only [zgc, zga, zgb] at f0 f1 f2 f3 f4
   refine bodyPost_ret (v := .tuple #[.agg #[.slice none 0 0, .slice none 0 0, .slice none 0 0, .slice none 0 0, .slice none 0 0], .bool false]) (by simp [results, Tryz.results32, go_sem, f0, f1, f2, f3, f4]) rfl ?_
   rw [show roomO s = none from runsV_stop HPQ.out (run_no (by unfold sRunB; rw [decide_eq_false (show ¬ s.now < x.at_ + x.j.wl by omega)]; simp)) hro.out]; exact ⟨⟨none, none, none, none, none, 0, 0, 0, 0, 0, 0, 0, 0, 0, 0⟩, rfl, ⟨[], noRm_own _ _⟩, XW.out.bel⟩
  by_cases h5 : 1000000000 < x.at_ + x.j.wl
  ·skip
   have r0 := zAb XR7.out.bx 0 rfl
   have r1 := zAb XR7.out.bx 1 rfl
   have r2 := zAb XR7.out.bx 2 rfl
   have r3 := zAb XR7.out.bx 3 rfl
   have r4 := zAb XR7.out.bx 4 rfl
   have rf := zAh XR7.out.bx
   have rl := zAf XR7.out.bx
   simp only [zgc, zga, zgb] at r0 r1 r2 r3 r4
   have XW : Hid (BX w (((((w7.setCell ⟨w.heap.size + 1, 0, none⟩ (.slice none 0 0)).setCell ⟨w.heap.size + 1, 1, none⟩ (.slice none 0 0)).setCell ⟨w.heap.size + 1, 2, none⟩ (.slice none 0 0)).setCell ⟨w.heap.size + 1, 3, none⟩ (.slice none 0 0)).setCell ⟨w.heap.size + 1, 4, none⟩ (.slice none 0 0)) (w.heap.size + 1) 33 [.slice none 0 0, .slice none 0 0, .slice none 0 0, .slice none 0 0, .slice none 0 0]) := Lib.hid (XR7.out.sets [.slice none 0 0, .slice none 0 0, .slice none 0 0, .slice none 0 0, .slice none 0 0] 0)
   go_wp2
   (try go_light)
   generalize ((((w7.setCell ⟨w.heap.size + 1, 0, none⟩ (.slice none 0 0)).setCell ⟨w.heap.size + 1, 1, none⟩ (.slice none 0 0)).setCell ⟨w.heap.size + 1, 2, none⟩ (.slice none 0 0)).setCell ⟨w.heap.size + 1, 3, none⟩ (.slice none 0 0)).setCell ⟨w.heap.size + 1, 4, none⟩ (.slice none 0 0) = W at *
   have f0 := zAb XW.out.bx 0 rfl
   have f1 := zAb XW.out.bx 1 rfl
   have f2 := zAb XW.out.bx 2 rfl
   have f3 := zAb XW.out.bx 3 rfl
   have f4 := zAb XW.out.bx 4 rfl
   have ff := zAh XW.out.bx
   have fl := zAf XW.out.bx
   simp only [zgc, zga, zgb] at f0 f1 f2 f3 f4
   refine bodyPost_ret (v := .tuple #[.agg #[.slice none 0 0, .slice none 0 0, .slice none 0 0, .slice none 0 0, .slice none 0 0], .bool false]) (by simp [results, Tryz.results32, go_sem, f0, f1, f2, f3, f4]) rfl ?_
   rw [show roomO s = none from runsV_stop HPQ.out (run_no (by unfold sRunB; rw [decide_eq_false (show ¬ x.at_ + x.j.wl ≤ 1000000000 by omega)]; simp)) hro.out]; exact ⟨⟨none, none, none, none, none, 0, 0, 0, 0, 0, 0, 0, 0, 0, 0⟩, rfl, ⟨[], noRm_own _ _⟩, XW.out.bel⟩
  have HRUN : Hid (runO s.now r x = resV r (x.left s.now) s.now x.nd) := Lib.hid (run_yes HTM.out (by unfold sRunB; rw [hjn, hat, decide_eq_true (show x.at_ ≤ s.now by omega), decide_eq_true (show s.now < x.at_ + x.j.wl by omega), decide_eq_true (show x.at_ + x.j.wl ≤ 1000000000 by omega)]; rfl)).symm
  have hwr3 : wrap64 (x.at_ + x.j.wl - s.now) = x.at_ + x.j.wl - s.now := IntWalk.wrap64_in _ (by omega)
  clear hjn hat
  have K8 := Lib.hid (K7.out.step (zAa w7 (.cells #[.int .i64 x.j.id, .int .i64 x.j.pr, .int .i64 x.j.nn, .int .i64 x.j.na, .int .i64 x.j.nb, .int .i64 x.j.nc, .int .i64 x.j.la, .int .i64 x.j.lb, .int .i64 x.j.lc, .int .i64 x.j.wl, .int .i64 x.j.lv] 95)))
  have XP8 := Lib.hid (XP7.out.step (zAa w7 (.cells #[.int .i64 x.j.id, .int .i64 x.j.pr, .int .i64 x.j.nn, .int .i64 x.j.na, .int .i64 x.j.nb, .int .i64 x.j.nc, .int .i64 x.j.la, .int .i64 x.j.lb, .int .i64 x.j.lc, .int .i64 x.j.wl, .int .i64 x.j.lv] 95)))
  have XR8 := Lib.hid (XR7.out.step (zAa w7 (.cells #[.int .i64 x.j.id, .int .i64 x.j.pr, .int .i64 x.j.nn, .int .i64 x.j.na, .int .i64 x.j.nb, .int .i64 x.j.nc, .int .i64 x.j.la, .int .i64 x.j.lb, .int .i64 x.j.lc, .int .i64 x.j.wl, .int .i64 x.j.lv] 95)))
  have ND8 := Lib.hid (ND7.out.step (zAa w7 (.cells #[.int .i64 x.j.id, .int .i64 x.j.pr, .int .i64 x.j.nn, .int .i64 x.j.na, .int .i64 x.j.nb, .int .i64 x.j.nc, .int .i64 x.j.la, .int .i64 x.j.lb, .int .i64 x.j.lc, .int .i64 x.j.wl, .int .i64 x.j.lv] 95)))
  have BW8 := Lib.hid (zAc BW7.out (zAa w7 (.cells #[.int .i64 x.j.id, .int .i64 x.j.pr, .int .i64 x.j.nn, .int .i64 x.j.na, .int .i64 x.j.nb, .int .i64 x.j.nc, .int .i64 x.j.la, .int .i64 x.j.lb, .int .i64 x.j.lc, .int .i64 x.j.wl, .int .i64 x.j.lv] 95)))
  have JB8 : Hid (BX w (w7.alloc (.cells #[.int .i64 x.j.id, .int .i64 x.j.pr, .int .i64 x.j.nn, .int .i64 x.j.na, .int .i64 x.j.nb, .int .i64 x.j.nc, .int .i64 x.j.la, .int .i64 x.j.lb, .int .i64 x.j.lc, .int .i64 x.j.wl, .int .i64 x.j.lv] 95)) w7.heap.size 95 [.int .i64 x.j.id, .int .i64 x.j.pr, .int .i64 x.j.nn, .int .i64 x.j.na, .int .i64 x.j.nb, .int .i64 x.j.nc, .int .i64 x.j.la, .int .i64 x.j.lb, .int .i64 x.j.lc, .int .i64 x.j.wl, .int .i64 x.j.lv]) := Lib.hid ⟨zAk _ rfl, XP8.out.bel, XP7.out.bel.size⟩
  have hbj : br < w7.heap.size ∧ w.heap.size + 1 < w7.heap.size ∧ wo.heap.size < w7.heap.size := ⟨zAf K7.out.bx, zAf XR7.out.bx, zAf ND7.out.bx⟩
  go_upto_region 11 with fail
  clear v0 v1 v2 v3 v4 v5 v6 v7 v8 v9 v10 v11 v12 vf vl p7 pf pl K7 XP7 XR7 ND7 BW7
  generalize w7.alloc (.cells #[.int .i64 x.j.id, .int .i64 x.j.pr, .int .i64 x.j.nn, .int .i64 x.j.na, .int .i64 x.j.nb, .int .i64 x.j.nc, .int .i64 x.j.la, .int .i64 x.j.lb, .int .i64 x.j.lc, .int .i64 x.j.wl, .int .i64 x.j.lv] 95) = w8 at *
  obtain ⟨bj, hbj9⟩ : ∃ y, y = w7.heap.size := ⟨_, rfl⟩
  rw [← hbj9] at JB8 hbj ⊢
  clear hbj9
  have u9 := zAb JB8.out.bx 9 rfl
  have uf := zAh JB8.out.bx
  have ul := zAf JB8.out.bx
  simp only [zgc, zga, zgb] at u9
  have p7 := zAb XP8.out.bx 7 rfl
  have pf := zAh XP8.out.bx
  have pl := zAf XP8.out.bx
  simp only [zgc, zga, zgb] at p7
  have JB9 : Hid (BX w (w8.setCell ⟨bj, 9, none⟩ (.int .i64 (x.at_ + x.j.wl - s.now))) bj 95 [.int .i64 x.j.id, .int .i64 x.j.pr, .int .i64 x.j.nn, .int .i64 x.j.na, .int .i64 x.j.nb, .int .i64 x.j.nc, .int .i64 x.j.la, .int .i64 x.j.lb, .int .i64 x.j.lc, .int .i64 (x.at_ + x.j.wl - s.now), .int .i64 x.j.lv]) := Lib.hid (JB8.out.set 9 (.int .i64 (x.at_ + x.j.wl - s.now)))
  have XP9 := Lib.hid (XP8.out.far (b' := bj) (by omega) JB8.out.hb 9 (.int .i64 (x.at_ + x.j.wl - s.now)))
  have XR9 := Lib.hid (XR8.out.far (b' := bj) (by omega) JB8.out.hb 9 (.int .i64 (x.at_ + x.j.wl - s.now)))
  have ND9 := Lib.hid (ND8.out.far (b' := bj) (by omega) JB8.out.hb 9 (.int .i64 (x.at_ + x.j.wl - s.now)))
  have RXq := Lib.hid (RX.out.below LX.out BW8.out)
  have LXq := Lib.hid (zAi LX.out BW8.out)
  have hgb : 0 < x.nd.length → ∀ k, atB X k → k < wo.heap.size := fun h0 k hk => by
   obtain ⟨o, ho⟩ := hk
   obtain ⟨g9, e9, _⟩ := RX.out.2 h0
   rw [e9] at ho
   injection ho with ho
   injection ho with ho
   subst ho
   exact LX.out g9 e9
  have K9 : Hid (RK w (w8.setCell ⟨bj, 9, none⟩ (.int .i64 (x.at_ + x.j.wl - s.now))) br ⟨A1, B1, U1, R1, L1, n1, m1, nu1, np1, nl1, c1, d1, cu1, cp1, cl1⟩ r) := Lib.hid (by
   obtain ⟨xs, ho⟩ := K8.out.own
   refine ⟨bx_set K8.out.bx (by show br ≠ bj; omega) _, ⟨xs, ?_⟩, K8.out.bel.setCell JB8.out.hb _, K8.out.hb⟩
   exact ho.jobbox JB8.out.bx 9 _)
  go_upto_region 12 with fail
  clear u9 uf ul p7 pf pl K8 XP8 XR8 ND8 JB8
  have RX9 : Hid (Rd (w8.setCell ⟨bj, 9, none⟩ (.int .i64 (x.at_ + x.j.wl - s.now))) X x.nd.length 1 (ints x.nd)) := Lib.hid (by
   rcases Nat.eq_zero_or_pos x.nd.length with h0 | h0
   ·exact ⟨RXq.out.1, fun h => absurd h (by omega)⟩
   ·exact RXq.out.fr (S := (· = bj)) LXq.out ((Fr.refl (fun k => k = bj) w8).setCell (p := ⟨bj, 9, none⟩) (Or.inl rfl) _) (fun k hk e => by have := hgb h0 k hk; omega))
  have LX9 : Hid (∀ g, X = some ⟨g, 0, none⟩ → g < (w8.setCell ⟨bj, 9, none⟩ (.int .i64 (x.at_ + x.j.wl - s.now))).heap.size) := Lib.hid (fun g hg => by simpa using LXq.out g hg)
  clear RXq LXq hgb
  generalize w8.setCell ⟨bj, 9, none⟩ (.int .i64 (x.at_ + x.j.wl - s.now)) = w9 at *
  obtain ⟨xs9, ro9⟩ := K9.out.own
  have RO9 := Lib.hid ro9
  clear ro9
  have k0 := zAb K9.out.bx 0 rfl
  have k1 := zAb K9.out.bx 1 rfl
  have k2 := zAb K9.out.bx 2 rfl
  have k3 := zAb K9.out.bx 3 rfl
  have k4 := zAb K9.out.bx 4 rfl
  have kf := zAh K9.out.bx
  have kl := zAf K9.out.bx
  simp only [zgc, zga, zgb] at k0 k1 k2 k3 k4
  have v12 := zAb ND9.out.bx 12 rfl
  have vf := zAh ND9.out.bx
  have vl := zAf ND9.out.bx
  simp only [zgc, zga, zgb] at v12
  have p7 := zAb XP9.out.bx 7 rfl
  have pf := zAh XP9.out.bx
  have pl := zAf XP9.out.bx
  simp only [zgc, zga, zgb] at p7
  have u0 := zAb JB9.out.bx 0 rfl
  have u1 := zAb JB9.out.bx 1 rfl
  have u2 := zAb JB9.out.bx 2 rfl
  have u3 := zAb JB9.out.bx 3 rfl
  have u4 := zAb JB9.out.bx 4 rfl
  have u5 := zAb JB9.out.bx 5 rfl
  have u6 := zAb JB9.out.bx 6 rfl
  have u7 := zAb JB9.out.bx 7 rfl
  have u8 := zAb JB9.out.bx 8 rfl
  have u9 := zAb JB9.out.bx 9 rfl
  have u10 := zAb JB9.out.bx 10 rfl
  have uf := zAh JB9.out.bx
  have ul := zAf JB9.out.bx
  simp only [zgc, zga, zgb] at u0 u1 u2 u3 u4 u5 u6 u7 u8 u9 u10
  go_wp2_with fail
  refine (sReserve_any ⟨A1, B1, U1, R1, L1, n1, m1, nu1, np1, nl1, c1, d1, cu1, cp1, cl1⟩ r xs9 _ (x.left s.now) X x.nd.length dX x.nd _ RO9.out l1 l2 l3 RX9.out LX9.out s.now).mono ?_
  rintro e wA ⟨aA, rfl, ⟨xsA, ownA⟩, hbA⟩
  obtain ⟨A9, B9, U9, R9, L9, n9, m9, nu9, np9, nl9, c9, d9, cu9, cp9, cl9⟩ := aA
  dsimp only [RA.v]
  have hw9 := XP9.out.bel.size
  obtain ⟨RV, hRV⟩ : ∃ y, y = resV r (x.left s.now) s.now x.nd := ⟨_, rfl⟩
  rw [← hRV] at ownA HRUN ⊢
  have KA := Lib.hid ((K9.out.step hbA).step (zAa wA (.cells #[.slice A9 n9 c9, .slice B9 m9 d9, .slice U9 nu9 cu9, .slice R9 np9 cp9, .slice L9 nl9 cl9] 33)))
  have XPA := Lib.hid ((XP9.out.step hbA).step (zAa wA (.cells #[.slice A9 n9 c9, .slice B9 m9 d9, .slice U9 nu9 cu9, .slice R9 np9 cp9, .slice L9 nl9 cl9] 33)))
  have XRA := Lib.hid ((XR9.out.step hbA).step (zAa wA (.cells #[.slice A9 n9 c9, .slice B9 m9 d9, .slice U9 nu9 cu9, .slice R9 np9 cp9, .slice L9 nl9 cl9] 33)))
  have NBA : Hid ((wA.alloc (.cells #[.slice A9 n9 c9, .slice B9 m9 d9, .slice U9 nu9 cu9, .slice R9 np9 cp9, .slice L9 nl9 cl9] 33)).heap[wA.heap.size]? = some (.cells #[.slice A9 n9 c9, .slice B9 m9 d9, .slice U9 nu9 cu9, .slice R9 np9 cp9, .slice L9 nl9 cl9] 33 (0, 0))) := Lib.hid (zAk _ rfl)
  have ROA := Lib.hid ((ownA.mono hw9).bel (zAa wA (.cells #[.slice A9 n9 c9, .slice B9 m9 d9, .slice U9 nu9 cu9, .slice R9 np9 cp9, .slice L9 nl9 cl9] 33)))
  clear hRV ownA hbA hw9 K9 XP9 XR9 ND9 JB9 RO9 k0 k1 k2 k3 k4 kf kl v12 vf vl p7 pf pl u0 u1 u2 u3 u4 u5 u6 u7 u8 u9 u10 uf ul
  go_upto_region 13 with fail
  generalize wA.alloc (.cells #[.slice A9 n9 c9, .slice B9 m9 d9, .slice U9 nu9 cu9, .slice R9 np9 cp9, .slice L9 nl9 cl9] 33) = wB at *
  generalize wA.heap.size = bn at *
  cases RV with
  | none =>
   simp only [Option.isSome_none]
   have r0 := zAb XRA.out.bx 0 rfl
   have r1 := zAb XRA.out.bx 1 rfl
   have r2 := zAb XRA.out.bx 2 rfl
   have r3 := zAb XRA.out.bx 3 rfl
   have r4 := zAb XRA.out.bx 4 rfl
   have rf := zAh XRA.out.bx
   have rl := zAf XRA.out.bx
   simp only [zgc, zga, zgb] at r0 r1 r2 r3 r4
   have XW : Hid (BX w (((((wB.setCell ⟨w.heap.size + 1, 0, none⟩ (.slice none 0 0)).setCell ⟨w.heap.size + 1, 1, none⟩ (.slice none 0 0)).setCell ⟨w.heap.size + 1, 2, none⟩ (.slice none 0 0)).setCell ⟨w.heap.size + 1, 3, none⟩ (.slice none 0 0)).setCell ⟨w.heap.size + 1, 4, none⟩ (.slice none 0 0)) (w.heap.size + 1) 33 [.slice none 0 0, .slice none 0 0, .slice none 0 0, .slice none 0 0, .slice none 0 0]) := Lib.hid (XRA.out.sets [.slice none 0 0, .slice none 0 0, .slice none 0 0, .slice none 0 0, .slice none 0 0] 0)
   go_wp2
   (try go_light)
   generalize ((((wB.setCell ⟨w.heap.size + 1, 0, none⟩ (.slice none 0 0)).setCell ⟨w.heap.size + 1, 1, none⟩ (.slice none 0 0)).setCell ⟨w.heap.size + 1, 2, none⟩ (.slice none 0 0)).setCell ⟨w.heap.size + 1, 3, none⟩ (.slice none 0 0)).setCell ⟨w.heap.size + 1, 4, none⟩ (.slice none 0 0) = W at *
   have f0 := zAb XW.out.bx 0 rfl
   have f1 := zAb XW.out.bx 1 rfl
   have f2 := zAb XW.out.bx 2 rfl
   have f3 := zAb XW.out.bx 3 rfl
   have f4 := zAb XW.out.bx 4 rfl
   have ff := zAh XW.out.bx
   have fl := zAf XW.out.bx
   simp only [zgc, zga, zgb] at f0 f1 f2 f3 f4
   refine bodyPost_ret (v := .tuple #[.agg #[.slice none 0 0, .slice none 0 0, .slice none 0 0, .slice none 0 0, .slice none 0 0], .bool false]) (by simp [results, Tryz.results32, go_sem, f0, f1, f2, f3, f4]) rfl ?_
   rw [show roomO s = none from runsV_stop HPQ.out HRUN.out hro.out]; exact ⟨⟨none, none, none, none, none, 0, 0, 0, 0, 0, 0, 0, 0, 0, 0⟩, rfl, ⟨[], noRm_own _ _⟩, XW.out.bel⟩
  | some q9 =>
   simp only [Option.isSome_some, zgg] at ROA ⊢
   have k0 := zAb KA.out.bx 0 rfl
   have k1 := zAb KA.out.bx 1 rfl
   have k2 := zAb KA.out.bx 2 rfl
   have k3 := zAb KA.out.bx 3 rfl
   have k4 := zAb KA.out.bx 4 rfl
   have kf := zAh KA.out.bx
   have kl := zAf KA.out.bx
   simp only [zgc, zga, zgb] at k0 k1 k2 k3 k4
   have y0 := zAb NBA.out 0 rfl
   have y1 := zAb NBA.out 1 rfl
   have y2 := zAb NBA.out 2 rfl
   have y3 := zAb NBA.out 3 rfl
   have y4 := zAb NBA.out 4 rfl
   simp only [zgc, zga, zgb] at y0 y1 y2 y3 y4
   have KB := Lib.hid (KA.out.room ROA.out)
   have XPB := Lib.hid (XPA.out.fars (b' := br) (by omega) KA.out.hb [.slice A9 n9 c9, .slice B9 m9 d9, .slice U9 nu9 cu9, .slice R9 np9 cp9, .slice L9 nl9 cl9] 0)
   change Hid (BX w (((((wB.setCell ⟨br, 0, none⟩ (.slice A9 n9 c9)).setCell ⟨br, 1, none⟩ (.slice B9 m9 d9)).setCell ⟨br, 2, none⟩ (.slice U9 nu9 cu9)).setCell ⟨br, 3, none⟩ (.slice R9 np9 cp9)).setCell ⟨br, 4, none⟩ (.slice L9 nl9 cl9)) _ _ _) at XPB
   have XRB := Lib.hid (XRA.out.fars (b' := br) (by omega) KA.out.hb [.slice A9 n9 c9, .slice B9 m9 d9, .slice U9 nu9 cu9, .slice R9 np9 cp9, .slice L9 nl9 cl9] 0)
   change Hid (BX w (((((wB.setCell ⟨br, 0, none⟩ (.slice A9 n9 c9)).setCell ⟨br, 1, none⟩ (.slice B9 m9 d9)).setCell ⟨br, 2, none⟩ (.slice U9 nu9 cu9)).setCell ⟨br, 3, none⟩ (.slice R9 np9 cp9)).setCell ⟨br, 4, none⟩ (.slice L9 nl9 cl9)) _ _ _) at XRB
   have HRO := Lib.hid (runsV_step HPQ.out HRUN.out hro.out)
   clear KA XPA XRA NBA ROA
   go_wp2
   exact ⟨⟨q + 1, ⟨A9, B9, U9, R9, L9, n9, m9, nu9, np9, nl9, c9, d9, cu9, cp9, cl9⟩, q9, by omega, by go_num, KB.out, XPB.out, XRB.out, HRO⟩, by simp [intOf]; omega⟩
 ·obtain rfl : nr = q := by omega
  have hlt' : ¬ ((nr : Nat) : Int) < nr := by omega
  have HRS : Hid (roomO s = some r) := Lib.hid (by rw [hro.out, List.drop_of_length_le (by have := H.out.runs.len; simp only at this; omega)]; rfl)
  obtain ⟨xs4, ro4⟩ := K4.out.own
  have RO4 := Lib.hid ro4
  clear ro4
  have k0 := zAb K4.out.bx 0 rfl
  have k1 := zAb K4.out.bx 1 rfl
  have k2 := zAb K4.out.bx 2 rfl
  have k3 := zAb K4.out.bx 3 rfl
  have k4 := zAb K4.out.bx 4 rfl
  have kf := zAh K4.out.bx
  have kl := zAf K4.out.bx
  simp only [zgc, zga, zgb] at k0 k1 k2 k3 k4
  have r0 := zAb XR4.out.bx 0 rfl
  have r1 := zAb XR4.out.bx 1 rfl
  have r2 := zAb XR4.out.bx 2 rfl
  have r3 := zAb XR4.out.bx 3 rfl
  have r4 := zAb XR4.out.bx 4 rfl
  have rf := zAh XR4.out.bx
  have rl := zAf XR4.out.bx
  simp only [zgc, zga, zgb] at r0 r1 r2 r3 r4
  have XW : Hid (BX w (((((wo.setCell ⟨w.heap.size + 1, 0, none⟩ (.slice A1 n1 c1)).setCell ⟨w.heap.size + 1, 1, none⟩ (.slice B1 m1 d1)).setCell ⟨w.heap.size + 1, 2, none⟩ (.slice U1 nu1 cu1)).setCell ⟨w.heap.size + 1, 3, none⟩ (.slice R1 np1 cp1)).setCell ⟨w.heap.size + 1, 4, none⟩ (.slice L1 nl1 cl1)) (w.heap.size + 1) 33 [.slice A1 n1 c1, .slice B1 m1 d1, .slice U1 nu1 cu1, .slice R1 np1 cp1, .slice L1 nl1 cl1]) := Lib.hid (XR4.out.sets [.slice A1 n1 c1, .slice B1 m1 d1, .slice U1 nu1 cu1, .slice R1 np1 cp1, .slice L1 nl1 cl1] 0)
  have RMW := Lib.hid (RO4.out.box5 XR4.out.bx (.slice A1 n1 c1) (.slice B1 m1 d1) (.slice U1 nu1 cu1) (.slice R1 np1 cp1) (.slice L1 nl1 cl1))
  go_wp2
  (try go_light)
  generalize ((((wo.setCell ⟨w.heap.size + 1, 0, none⟩ (.slice A1 n1 c1)).setCell ⟨w.heap.size + 1, 1, none⟩ (.slice B1 m1 d1)).setCell ⟨w.heap.size + 1, 2, none⟩ (.slice U1 nu1 cu1)).setCell ⟨w.heap.size + 1, 3, none⟩ (.slice R1 np1 cp1)).setCell ⟨w.heap.size + 1, 4, none⟩ (.slice L1 nl1 cl1) = W at *
  have f0 := zAb XW.out.bx 0 rfl
  have f1 := zAb XW.out.bx 1 rfl
  have f2 := zAb XW.out.bx 2 rfl
  have f3 := zAb XW.out.bx 3 rfl
  have f4 := zAb XW.out.bx 4 rfl
  have ff := zAh XW.out.bx
  have fl := zAf XW.out.bx
  simp only [zgc, zga, zgb] at f0 f1 f2 f3 f4
  refine bodyPost_ret (v := .tuple #[.agg #[.slice A1 n1 c1, .slice B1 m1 d1, .slice U1 nu1 cu1, .slice R1 np1 cp1, .slice L1 nl1 cl1], .bool true]) (by simp [results, Tryz.results32, go_sem, f0, f1, f2, f3, f4]) rfl ?_
  rw [HRS.out]; exact ⟨⟨A1, B1, U1, R1, L1, n1, m1, nu1, np1, nl1, c1, d1, cu1, cp1, cl1⟩, rfl, ⟨xs4, RMW.out⟩, XW.out.bel⟩
end Go.Proofs.YtnphjhbfpoekpaaGreat
