import Derived.Test.YtnphjhbfpoekpaaGreatWgPl
import Derived.Test.YtnphjhbfpoekpaaGreatFhPl
import Derived.Test.YtnphjhbfpoekpaaGreatHaPl
namespace Go.Proofs.YtnphjhbfpoekpaaGreat
set_option linter.unusedSimpArgs false
set_option linter.unusedVariables false
set_option linter.unnecessarySimpa false
open Go.RowKit
structure RK (w wr : World) (b : Nat) (a : RA) (r : Rm) : Prop where
 bx : wr.heap[b]? = some (.cells #[.slice a.A a.n a.c, .slice a.B a.m a.d, .slice a.U a.nu a.cu, .slice a.R a.np a.cp, .slice a.L a.nl a.cl] 33 (0, 0))
 own : ∃ xs, RoomOwn wr w.heap.size a r xs
 bel : Below w.heap.size w wr
 hb : w.heap.size ≤ b
theorem RK.step {w wr w' : World} {b : Nat} {a : RA} {r : Rm} (h : RK w wr b a r) (hb : Below wr.heap.size wr w') : RK w w' b a r := by
 obtain ⟨xs, ho⟩ := h.own
 exact ⟨zAg h.bx hb, ⟨xs, ho.bel hb⟩, zAc h.bel hb, h.hb⟩
theorem RK.room {w wr : World} {b : Nat} {a a' : RA} {r r' : Rm} {xs : List Value} (h : RK w wr b a r) (ho : RoomOwn wr w.heap.size a' r' xs) :
  RK w (((((wr.setCell ⟨b, 0, none⟩ (.slice a'.A a'.n a'.c)).setCell ⟨b, 1, none⟩ (.slice a'.B a'.m a'.d)).setCell ⟨b, 2, none⟩ (.slice a'.U a'.nu a'.cu)).setCell ⟨b, 3, none⟩ (.slice a'.R a'.np a'.cp)).setCell ⟨b, 4, none⟩ (.slice a'.L a'.nl a'.cl)) b a' r' :=
 ⟨set5 h.bx, ⟨xs, ho.box5 h.bx _ _ _ _ _⟩, bel_set5 h.bel h.hb _ _ _ _ _, h.hb⟩
theorem runsV_step {s : St} {r r' : Rm} {q : Nat} {x : Rn} (h : s.runs[q]? = some x) (hr : runO s.now r x = some r') (hp : roomO s = runsV s.now r (s.runs.drop q)) : roomO s = runsV s.now r' (s.runs.drop (q + 1)) := by
 rw [hp, drop_cons' h, runsV_some hr]
theorem runsV_stop {s : St} {r : Rm} {q : Nat} {x : Rn} (h : s.runs[q]? = some x) (hr : runO s.now r x = none) (hp : roomO s = runsV s.now r (s.runs.drop q)) : roomO s = none := by
 rw [hp, drop_cons' h, runsV_none hr]
set_option maxHeartbeats 16000000 in
set_option maxRecDepth 20000 in
theorem RoomOf_any (a : SA) (s : St) (ss : List Value) (w : World) (h : StRd w a s ss) :
  Calls Tryz.prog 33 #[a.v s] w fun e w' => ∃ a', e = .returned (.tuple #[RA.v a', .bool (roomO s).isSome]) ∧ (∃ xs, RoomOwn w' w.heap.size a' ((roomO s).getD noRm) xs) ∧ Below w.heap.size w w' := by
 obtain ⟨A, B, U, K, R, E, n, m, nu, nk, nr, ne, c, d, cu, ck, cr, ce⟩ := a
 dsimp only [SA.v]
 have H := Lib.hid h
 have hm9 : m ≤ 1048576 := h.m
 have hr9 : nr ≤ 1048576 := h.nr
 have HMM : Hid (s.nodes.length = m) := Lib.hid (by have := h.nodes.1; rw [flat_len] at this; simp only at this; omega)
 have HUL : Hid (s.up.length = nu) := Lib.hid (by have := h.up.1; simpa [bools] using this)
 clear h
 have BE : Below w.heap.size w ((w.alloc (.cells #[.slice A n c, .slice B m d, .slice U nu cu, .int .i64 s.lic.A, .int .i64 s.lic.B, .int .i64 s.lic.C, .int .i64 s.dep, .int .i64 s.now, .slice K nk ck, .slice R nr cr, .slice E ne ce] 77)).alloc (.cells #[.slice none 0 0, .slice none 0 0, .slice none 0 0, .slice none 0 0, .slice none 0 0] 33)) := zAc (zAa _ _) (zAa _ _)
 have XP0 : Hid (BX w ((w.alloc (.cells #[.slice A n c, .slice B m d, .slice U nu cu, .int .i64 s.lic.A, .int .i64 s.lic.B, .int .i64 s.lic.C, .int .i64 s.dep, .int .i64 s.now, .slice K nk ck, .slice R nr cr, .slice E ne ce] 77)).alloc (.cells #[.slice none 0 0, .slice none 0 0, .slice none 0 0, .slice none 0 0, .slice none 0 0] 33)) (w.heap.size) 77 [.slice A n c, .slice B m d, .slice U nu cu, .int .i64 s.lic.A, .int .i64 s.lic.B, .int .i64 s.lic.C, .int .i64 s.dep, .int .i64 s.now, .slice K nk ck, .slice R nr cr, .slice E ne ce]) := Lib.hid ⟨zAu (zAk _ rfl) _, BE, Nat.le_refl _⟩
 have XR0 : Hid (BX w ((w.alloc (.cells #[.slice A n c, .slice B m d, .slice U nu cu, .int .i64 s.lic.A, .int .i64 s.lic.B, .int .i64 s.lic.C, .int .i64 s.dep, .int .i64 s.now, .slice K nk ck, .slice R nr cr, .slice E ne ce] 77)).alloc (.cells #[.slice none 0 0, .slice none 0 0, .slice none 0 0, .slice none 0 0, .slice none 0 0] 33)) (w.heap.size + 1) 33 [.slice none 0 0, .slice none 0 0, .slice none 0 0, .slice none 0 0, .slice none 0 0]) := Lib.hid ⟨zAk _ (by simp), BE, by omega⟩
 clear BE
 go_enter Tryz.func33, Tryz.ntmps33
 go_upto_region 1 with fail
 generalize (w.alloc (.cells #[.slice A n c, .slice B m d, .slice U nu cu, .int .i64 s.lic.A, .int .i64 s.lic.B, .int .i64 s.lic.C, .int .i64 s.dep, .int .i64 s.now, .slice K nk ck, .slice R nr cr, .slice E ne ce] 77)).alloc (.cells #[.slice none 0 0, .slice none 0 0, .slice none 0 0, .slice none 0 0, .slice none 0 0] 33) = w0 at *
 have k0 := zAb XP0.out.bx 0 rfl
 have k1 := zAb XP0.out.bx 1 rfl
 have k2 := zAb XP0.out.bx 2 rfl
 have k3 := zAb XP0.out.bx 3 rfl
 have k4 := zAb XP0.out.bx 4 rfl
 have k5 := zAb XP0.out.bx 5 rfl
 have k6 := zAb XP0.out.bx 6 rfl
 have k7 := zAb XP0.out.bx 7 rfl
 have k8 := zAb XP0.out.bx 8 rfl
 have k9 := zAb XP0.out.bx 9 rfl
 have k10 := zAb XP0.out.bx 10 rfl
 have kf := zAh XP0.out.bx
 have kl := zAf XP0.out.bx
 simp only [zgc, zga, zgb] at k0 k1 k2 k3 k4 k5 k6 k7 k8 k9 k10
 go_wp2_with fail
 refine (topoOk_any A B n c m d s.par s.nodes _ H.out.n H.out.m (H.out.bel XP0.out.bel).par (H.out.bel XP0.out.bel).nodes (H.out.bel XP0.out.bel).lA (H.out.bel XP0.out.bel).lB).mono ?_
 rintro e w2 ⟨rfl, hb2⟩
 have XP2 := Lib.hid (XP0.out.step hb2)
 have XR2 := Lib.hid (XR0.out.step hb2)
 clear hb2 k0 k1 k2 k3 k4 k5 k6 k7 k8 k9 k10 kf kl XP0 XR0
 cases hto : topoOkB s.par s.nodes
 ·skip
  have k0 := zAb XP2.out.bx 0 rfl
  have k1 := zAb XP2.out.bx 1 rfl
  have k2 := zAb XP2.out.bx 2 rfl
  have k3 := zAb XP2.out.bx 3 rfl
  have k4 := zAb XP2.out.bx 4 rfl
  have k5 := zAb XP2.out.bx 5 rfl
  have k6 := zAb XP2.out.bx 6 rfl
  have k7 := zAb XP2.out.bx 7 rfl
  have k8 := zAb XP2.out.bx 8 rfl
  have k9 := zAb XP2.out.bx 9 rfl
  have k10 := zAb XP2.out.bx 10 rfl
  have kf := zAh XP2.out.bx
  have kl := zAf XP2.out.bx
  simp only [zgc, zga, zgb] at k0 k1 k2 k3 k4 k5 k6 k7 k8 k9 k10
  have r0 := zAb XR2.out.bx 0 rfl
  have r1 := zAb XR2.out.bx 1 rfl
  have r2 := zAb XR2.out.bx 2 rfl
  have r3 := zAb XR2.out.bx 3 rfl
  have r4 := zAb XR2.out.bx 4 rfl
  have rf := zAh XR2.out.bx
  have rl := zAf XR2.out.bx
  simp only [zgc, zga, zgb] at r0 r1 r2 r3 r4
  have XW : Hid (BX w (((((w2.setCell ⟨w.heap.size + 1, 0, none⟩ (.slice none 0 0)).setCell ⟨w.heap.size + 1, 1, none⟩ (.slice none 0 0)).setCell ⟨w.heap.size + 1, 2, none⟩ (.slice none 0 0)).setCell ⟨w.heap.size + 1, 3, none⟩ (.slice none 0 0)).setCell ⟨w.heap.size + 1, 4, none⟩ (.slice none 0 0)) (w.heap.size + 1) 33 [.slice none 0 0, .slice none 0 0, .slice none 0 0, .slice none 0 0, .slice none 0 0]) := Lib.hid (XR2.out.sets [.slice none 0 0, .slice none 0 0, .slice none 0 0, .slice none 0 0, .slice none 0 0] 0)
  go_wp2
  (try go_light)
  generalize ((((w2.setCell ⟨w.heap.size + 1, 0, none⟩ (.slice none 0 0)).setCell ⟨w.heap.size + 1, 1, none⟩ (.slice none 0 0)).setCell ⟨w.heap.size + 1, 2, none⟩ (.slice none 0 0)).setCell ⟨w.heap.size + 1, 3, none⟩ (.slice none 0 0)).setCell ⟨w.heap.size + 1, 4, none⟩ (.slice none 0 0) = W at *
  have f0 := zAb XW.out.bx 0 rfl
  have f1 := zAb XW.out.bx 1 rfl
  have f2 := zAb XW.out.bx 2 rfl
  have f3 := zAb XW.out.bx 3 rfl
  have f4 := zAb XW.out.bx 4 rfl
  have ff := zAh XW.out.bx
  have fl := zAf XW.out.bx
  simp only [zgc, zga, zgb] at f0 f1 f2 f3 f4
  refine bodyPost_ret (v := .tuple #[.agg #[.slice none 0 0, .slice none 0 0, .slice none 0 0, .slice none 0 0, .slice none 0 0], .bool false]) (by simp [results, Tryz.results33, go_sem, f0, f1, f2, f3, f4]) rfl ?_
  rw [show roomO s = none from by unfold roomO preB; rw [hto]; rfl]; exact ⟨⟨none, none, none, none, none, 0, 0, 0, 0, 0, 0, 0, 0, 0, 0⟩, rfl, ⟨[], noRm_own _ _⟩, XW.out.bel⟩
 by_cases hul : nu = m
 rotate_left
 ·have hul2 : ¬ ((nu : Nat) : Int) = m := by omega
  have k0 := zAb XP2.out.bx 0 rfl
  have k1 := zAb XP2.out.bx 1 rfl
  have k2 := zAb XP2.out.bx 2 rfl
  have k3 := zAb XP2.out.bx 3 rfl
  have k4 := zAb XP2.out.bx 4 rfl
  have k5 := zAb XP2.out.bx 5 rfl
  have k6 := zAb XP2.out.bx 6 rfl
  have k7 := zAb XP2.out.bx 7 rfl
  have k8 := zAb XP2.out.bx 8 rfl
  have k9 := zAb XP2.out.bx 9 rfl
  have k10 := zAb XP2.out.bx 10 rfl
  have kf := zAh XP2.out.bx
  have kl := zAf XP2.out.bx
  simp only [zgc, zga, zgb] at k0 k1 k2 k3 k4 k5 k6 k7 k8 k9 k10
  have r0 := zAb XR2.out.bx 0 rfl
  have r1 := zAb XR2.out.bx 1 rfl
  have r2 := zAb XR2.out.bx 2 rfl
  have r3 := zAb XR2.out.bx 3 rfl
  have r4 := zAb XR2.out.bx 4 rfl
  have rf := zAh XR2.out.bx
  have rl := zAf XR2.out.bx
  simp only [zgc, zga, zgb] at r0 r1 r2 r3 r4
  have XW : Hid (BX w (((((w2.setCell ⟨w.heap.size + 1, 0, none⟩ (.slice none 0 0)).setCell ⟨w.heap.size + 1, 1, none⟩ (.slice none 0 0)).setCell ⟨w.heap.size + 1, 2, none⟩ (.slice none 0 0)).setCell ⟨w.heap.size + 1, 3, none⟩ (.slice none 0 0)).setCell ⟨w.heap.size + 1, 4, none⟩ (.slice none 0 0)) (w.heap.size + 1) 33 [.slice none 0 0, .slice none 0 0, .slice none 0 0, .slice none 0 0, .slice none 0 0]) := Lib.hid (XR2.out.sets [.slice none 0 0, .slice none 0 0, .slice none 0 0, .slice none 0 0, .slice none 0 0] 0)
  go_wp2
  (try go_light)
  generalize ((((w2.setCell ⟨w.heap.size + 1, 0, none⟩ (.slice none 0 0)).setCell ⟨w.heap.size + 1, 1, none⟩ (.slice none 0 0)).setCell ⟨w.heap.size + 1, 2, none⟩ (.slice none 0 0)).setCell ⟨w.heap.size + 1, 3, none⟩ (.slice none 0 0)).setCell ⟨w.heap.size + 1, 4, none⟩ (.slice none 0 0) = W at *
  have f0 := zAb XW.out.bx 0 rfl
  have f1 := zAb XW.out.bx 1 rfl
  have f2 := zAb XW.out.bx 2 rfl
  have f3 := zAb XW.out.bx 3 rfl
  have f4 := zAb XW.out.bx 4 rfl
  have ff := zAh XW.out.bx
  have fl := zAf XW.out.bx
  simp only [zgc, zga, zgb] at f0 f1 f2 f3 f4
  refine bodyPost_ret (v := .tuple #[.agg #[.slice none 0 0, .slice none 0 0, .slice none 0 0, .slice none 0 0, .slice none 0 0], .bool false]) (by simp [results, Tryz.results33, go_sem, f0, f1, f2, f3, f4]) rfl ?_
  rw [show roomO s = none from by unfold roomO preB; rw [hto, decide_eq_false (by rw [HUL.out, HMM.out]; exact hul)]; rfl]; exact ⟨⟨none, none, none, none, none, 0, 0, 0, 0, 0, 0, 0, 0, 0, 0⟩, rfl, ⟨[], noRm_own _ _⟩, XW.out.bel⟩
 have hul2 : ((nu : Nat) : Int) = m := by omega
 have k0 := zAb XP2.out.bx 0 rfl
 have k1 := zAb XP2.out.bx 1 rfl
 have k2 := zAb XP2.out.bx 2 rfl
 have k3 := zAb XP2.out.bx 3 rfl
 have k4 := zAb XP2.out.bx 4 rfl
 have k5 := zAb XP2.out.bx 5 rfl
 have k6 := zAb XP2.out.bx 6 rfl
 have k7 := zAb XP2.out.bx 7 rfl
 have k8 := zAb XP2.out.bx 8 rfl
 have k9 := zAb XP2.out.bx 9 rfl
 have k10 := zAb XP2.out.bx 10 rfl
 have kf := zAh XP2.out.bx
 have kl := zAf XP2.out.bx
 simp only [zgc, zga, zgb] at k0 k1 k2 k3 k4 k5 k6 k7 k8 k9 k10
 go_wp2_with fail
 refine (vecOk_raw _ _ _ _).mono ?_
 rintro e w3 ⟨rfl, hb3⟩
 have XP3 := Lib.hid (XP2.out.step hb3)
 have XR3 := Lib.hid (XR2.out.step hb3)
 clear hb3 k0 k1 k2 k3 k4 k5 k6 k7 k8 k9 k10 kf kl XP2 XR2
 cases hvo : s.lic.ok
 ·have hvo2 : vecOkB s.lic.A s.lic.B s.lic.C = false := hvo
  have k0 := zAb XP3.out.bx 0 rfl
  have k1 := zAb XP3.out.bx 1 rfl
  have k2 := zAb XP3.out.bx 2 rfl
  have k3 := zAb XP3.out.bx 3 rfl
  have k4 := zAb XP3.out.bx 4 rfl
  have k5 := zAb XP3.out.bx 5 rfl
  have k6 := zAb XP3.out.bx 6 rfl
  have k7 := zAb XP3.out.bx 7 rfl
  have k8 := zAb XP3.out.bx 8 rfl
  have k9 := zAb XP3.out.bx 9 rfl
  have k10 := zAb XP3.out.bx 10 rfl
  have kf := zAh XP3.out.bx
  have kl := zAf XP3.out.bx
  simp only [zgc, zga, zgb] at k0 k1 k2 k3 k4 k5 k6 k7 k8 k9 k10
  have r0 := zAb XR3.out.bx 0 rfl
  have r1 := zAb XR3.out.bx 1 rfl
  have r2 := zAb XR3.out.bx 2 rfl
  have r3 := zAb XR3.out.bx 3 rfl
  have r4 := zAb XR3.out.bx 4 rfl
  have rf := zAh XR3.out.bx
  have rl := zAf XR3.out.bx
  simp only [zgc, zga, zgb] at r0 r1 r2 r3 r4
  have XW : Hid (BX w (((((w3.setCell ⟨w.heap.size + 1, 0, none⟩ (.slice none 0 0)).setCell ⟨w.heap.size + 1, 1, none⟩ (.slice none 0 0)).setCell ⟨w.heap.size + 1, 2, none⟩ (.slice none 0 0)).setCell ⟨w.heap.size + 1, 3, none⟩ (.slice none 0 0)).setCell ⟨w.heap.size + 1, 4, none⟩ (.slice none 0 0)) (w.heap.size + 1) 33 [.slice none 0 0, .slice none 0 0, .slice none 0 0, .slice none 0 0, .slice none 0 0]) := Lib.hid (XR3.out.sets [.slice none 0 0, .slice none 0 0, .slice none 0 0, .slice none 0 0, .slice none 0 0] 0)
  go_wp2
  (try go_light)
  generalize ((((w3.setCell ⟨w.heap.size + 1, 0, none⟩ (.slice none 0 0)).setCell ⟨w.heap.size + 1, 1, none⟩ (.slice none 0 0)).setCell ⟨w.heap.size + 1, 2, none⟩ (.slice none 0 0)).setCell ⟨w.heap.size + 1, 3, none⟩ (.slice none 0 0)).setCell ⟨w.heap.size + 1, 4, none⟩ (.slice none 0 0) = W at *
  have f0 := zAb XW.out.bx 0 rfl
  have f1 := zAb XW.out.bx 1 rfl
  have f2 := zAb XW.out.bx 2 rfl
  have f3 := zAb XW.out.bx 3 rfl
  have f4 := zAb XW.out.bx 4 rfl
  have ff := zAh XW.out.bx
  have fl := zAf XW.out.bx
  simp only [zgc, zga, zgb] at f0 f1 f2 f3 f4
  refine bodyPost_ret (v := .tuple #[.agg #[.slice none 0 0, .slice none 0 0, .slice none 0 0, .slice none 0 0, .slice none 0 0], .bool false]) (by simp [results, Tryz.results33, go_sem, f0, f1, f2, f3, f4]) rfl ?_
  rw [show roomO s = none from by unfold roomO preB; rw [hvo]; simp]; exact ⟨⟨none, none, none, none, none, 0, 0, 0, 0, 0, 0, 0, 0, 0, 0⟩, rfl, ⟨[], noRm_own _ _⟩, XW.out.bel⟩
 have hvo2 : vecOkB s.lic.A s.lic.B s.lic.C = true := hvo
 have k0 := zAb XP3.out.bx 0 rfl
 have k1 := zAb XP3.out.bx 1 rfl
 have k2 := zAb XP3.out.bx 2 rfl
 have k3 := zAb XP3.out.bx 3 rfl
 have k4 := zAb XP3.out.bx 4 rfl
 have k5 := zAb XP3.out.bx 5 rfl
 have k6 := zAb XP3.out.bx 6 rfl
 have k7 := zAb XP3.out.bx 7 rfl
 have k8 := zAb XP3.out.bx 8 rfl
 have k9 := zAb XP3.out.bx 9 rfl
 have k10 := zAb XP3.out.bx 10 rfl
 have kf := zAh XP3.out.bx
 have kl := zAf XP3.out.bx
 simp only [zgc, zga, zgb] at k0 k1 k2 k3 k4 k5 k6 k7 k8 k9 k10
 go_wp2_with fail
 refine (isTime_any s.now _).mono ?_
 rintro e w4 ⟨rfl, rfl⟩
 cases htm : timeB s.now
 ·skip
  have r0 := zAb XR3.out.bx 0 rfl
  have r1 := zAb XR3.out.bx 1 rfl
  have r2 := zAb XR3.out.bx 2 rfl
  have r3 := zAb XR3.out.bx 3 rfl
  have r4 := zAb XR3.out.bx 4 rfl
  have rf := zAh XR3.out.bx
  have rl := zAf XR3.out.bx
  simp only [zgc, zga, zgb] at r0 r1 r2 r3 r4
  have XW : Hid (BX w (((((w3.setCell ⟨w.heap.size + 1, 0, none⟩ (.slice none 0 0)).setCell ⟨w.heap.size + 1, 1, none⟩ (.slice none 0 0)).setCell ⟨w.heap.size + 1, 2, none⟩ (.slice none 0 0)).setCell ⟨w.heap.size + 1, 3, none⟩ (.slice none 0 0)).setCell ⟨w.heap.size + 1, 4, none⟩ (.slice none 0 0)) (w.heap.size + 1) 33 [.slice none 0 0, .slice none 0 0, .slice none 0 0, .slice none 0 0, .slice none 0 0]) := Lib.hid (XR3.out.sets [.slice none 0 0, .slice none 0 0, .slice none 0 0, .slice none 0 0, .slice none 0 0] 0)
  go_wp2
  (try go_light)
  generalize ((((w3.setCell ⟨w.heap.size + 1, 0, none⟩ (.slice none 0 0)).setCell ⟨w.heap.size + 1, 1, none⟩ (.slice none 0 0)).setCell ⟨w.heap.size + 1, 2, none⟩ (.slice none 0 0)).setCell ⟨w.heap.size + 1, 3, none⟩ (.slice none 0 0)).setCell ⟨w.heap.size + 1, 4, none⟩ (.slice none 0 0) = W at *
  have f0 := zAb XW.out.bx 0 rfl
  have f1 := zAb XW.out.bx 1 rfl
  have f2 := zAb XW.out.bx 2 rfl
  have f3 := zAb XW.out.bx 3 rfl
  have f4 := zAb XW.out.bx 4 rfl
  have ff := zAh XW.out.bx
  have fl := zAf XW.out.bx
  simp only [zgc, zga, zgb] at f0 f1 f2 f3 f4
  refine bodyPost_ret (v := .tuple #[.agg #[.slice none 0 0, .slice none 0 0, .slice none 0 0, .slice none 0 0, .slice none 0 0], .bool false]) (by simp [results, Tryz.results33, go_sem, f0, f1, f2, f3, f4]) rfl ?_
  rw [show roomO s = none from by unfold roomO preB; rw [htm]; simp]; exact ⟨⟨none, none, none, none, none, 0, 0, 0, 0, 0, 0, 0, 0, 0, 0⟩, rfl, ⟨[], noRm_own _ _⟩, XW.out.bel⟩
 have hnow : 0 ≤ s.now ∧ s.now ≤ 1000000000 := by simpa [timeB, inB] using htm
 have HRO : Hid (roomO s = runsV s.now s.empty s.runs) := Lib.hid (by unfold roomO preB; rw [hto, hvo, htm, decide_eq_true (by rw [HUL.out, HMM.out]; exact hul)]; rfl)
 have HTM := Lib.hid htm
 clear hto hul hvo htm
 go_wp2_with fail
 refine (Empty_any ⟨A, B, U, K, R, E, n, m, nu, nk, nr, ne, c, d, cu, ck, cr, ce⟩ s ss _ (H.out.bel XP3.out.bel)).mono ?_
 rintro e w5 ⟨a5, xs5, rfl, own5, hb5⟩
 obtain ⟨A5, B5, U5, R5, L5, n5, m5, nu5, np5, nl5, c5, d5, cu5, cp5, cl5⟩ := a5
 dsimp only [RA.v]
 have hw3 := XP3.out.bel.size
 have XP6 := Lib.hid ((XP3.out.step hb5).step (zAa w5 (.cells #[.slice A5 n5 c5, .slice B5 m5 d5, .slice U5 nu5 cu5, .slice R5 np5 cp5, .slice L5 nl5 cl5] 33)))
 have XR6 := Lib.hid ((XR3.out.step hb5).step (zAa w5 (.cells #[.slice A5 n5 c5, .slice B5 m5 d5, .slice U5 nu5 cu5, .slice R5 np5 cp5, .slice L5 nl5 cl5] 33)))
 have K6 : Hid (RK w (w5.alloc (.cells #[.slice A5 n5 c5, .slice B5 m5 d5, .slice U5 nu5 cu5, .slice R5 np5 cp5, .slice L5 nl5 cl5] 33)) w5.heap.size ⟨A5, B5, U5, R5, L5, n5, m5, nu5, np5, nl5, c5, d5, cu5, cp5, cl5⟩ s.empty) := Lib.hid ⟨zAk _ rfl, ⟨xs5, (own5.mono hw3).bel (zAa _ _)⟩, XP6.out.bel, (zAc XP3.out.bel hb5).size⟩
 have hbr9 := zAf (XR3.out.step hb5).bx
 clear own5 hb5 k0 k1 k2 k3 k4 k5 k6 k7 k8 k9 k10 kf kl XP3 XR3 hvo2 hul2
 go_upto_region 4 with fail
 obtain ⟨br, hbr⟩ : ∃ y, y = w5.heap.size := ⟨_, rfl⟩
 rw [← hbr] at K6 hbr9 ⊢
 generalize w5.alloc (.cells #[.slice A5 n5 c5, .slice B5 m5 d5, .slice U5 nu5 cu5, .slice R5 np5 cp5, .slice L5 nl5 cl5] 33) = w6 at *
 clear hbr hw3
 have k9 := zAb XP6.out.bx 9 rfl
 have kf := zAh XP6.out.bx
 have kl := zAf XP6.out.bx
 simp only [zgc, zga, zgb] at k9
 go_wp2
 clear k9 kf kl
 go_loopw [46] (fun i wr => ∃ (q : Nat) (a : RA) (r : Rm), q ≤ nr ∧ i = .int .i64 q ∧ RK w wr br a r ∧ BX w wr (w.heap.size) 77 [.slice A n c, .slice B m d, .slice U nu cu, .int .i64 s.lic.A, .int .i64 s.lic.B, .int .i64 s.lic.C, .int .i64 s.dep, .int .i64 s.now, .slice K nk ck, .slice R nr cr, .slice E ne ce] ∧ BX w wr (w.heap.size + 1) 33 [.slice none 0 0, .slice none 0 0, .slice none 0 0, .slice none 0 0, .slice none 0 0] ∧ Hid (roomO s = runsV s.now r (s.runs.drop q))) (fun i _ => nr - (intOf i).toNat)
 case atStart => exact ⟨0, _, _, Nat.zero_le _, rfl, K6.out, XP6.out, XR6.out, Lib.hid (by rw [HRO.out]; rfl)⟩
 case round =>
 clear K6 XP6 XR6 HRO
 obtain ⟨q, a, r, hq, rfl, K', P', R', hro⟩ := hrel
 obtain ⟨wo, rfl⟩ : ∃ x, x = wr := ⟨wr, rfl⟩
 have K4 := Lib.hid K'
 have XP4 := Lib.hid P'
 have XR4 := Lib.hid R'
 clear K' P' R'
 obtain ⟨A1, B1, U1, R1, L1, n1, m1, nu1, np1, nl1, c1, d1, cu1, cp1, cl1⟩ := a
 by_cases hlt : q < nr
 ·have hlt' : (q : Int) < nr := by omega
  obtain ⟨g, x, X, dX, rfl, hp, hx, l1, l2, l3, rX, lX, hg, d0, d1, d2, d3, d4, d5, d6, d7, d8, d9, d10, d11, d12⟩ := (H.out.bel XP4.out.bel).runs.row hlt
  have HPQ := Lib.hid hp
  have RX := Lib.hid rX
  have LX := Lib.hid lX
  have K5 := Lib.hid (K4.out.step (zAa wo (.cells #[.int .i64 x.j.id, .int .i64 x.j.pr, .int .i64 x.j.nn, .int .i64 x.j.na, .int .i64 x.j.nb, .int .i64 x.j.nc, .int .i64 x.j.la, .int .i64 x.j.lb, .int .i64 x.j.lc, .int .i64 x.j.wl, .int .i64 x.j.lv, .int .i64 x.at_, .slice X x.nd.length dX] 136)))
  have XP5 := Lib.hid (XP4.out.step (zAa wo (.cells #[.int .i64 x.j.id, .int .i64 x.j.pr, .int .i64 x.j.nn, .int .i64 x.j.na, .int .i64 x.j.nb, .int .i64 x.j.nc, .int .i64 x.j.la, .int .i64 x.j.lb, .int .i64 x.j.lc, .int .i64 x.j.wl, .int .i64 x.j.lv, .int .i64 x.at_, .slice X x.nd.length dX] 136)))
  have XR5 := Lib.hid (XR4.out.step (zAa wo (.cells #[.int .i64 x.j.id, .int .i64 x.j.pr, .int .i64 x.j.nn, .int .i64 x.j.na, .int .i64 x.j.nb, .int .i64 x.j.nc, .int .i64 x.j.la, .int .i64 x.j.lb, .int .i64 x.j.lc, .int .i64 x.j.wl, .int .i64 x.j.lv, .int .i64 x.at_, .slice X x.nd.length dX] 136)))
  have BW5 := Lib.hid (zAa wo (.cells #[.int .i64 x.j.id, .int .i64 x.j.pr, .int .i64 x.j.nn, .int .i64 x.j.na, .int .i64 x.j.nb, .int .i64 x.j.nc, .int .i64 x.j.la, .int .i64 x.j.lb, .int .i64 x.j.lc, .int .i64 x.j.wl, .int .i64 x.j.lv, .int .i64 x.at_, .slice X x.nd.length dX] 136))
  have ND5 : Hid (BX w (wo.alloc (.cells #[.int .i64 x.j.id, .int .i64 x.j.pr, .int .i64 x.j.nn, .int .i64 x.j.na, .int .i64 x.j.nb, .int .i64 x.j.nc, .int .i64 x.j.la, .int .i64 x.j.lb, .int .i64 x.j.lc, .int .i64 x.j.wl, .int .i64 x.j.lv, .int .i64 x.at_, .slice X x.nd.length dX] 136)) wo.heap.size 136 [.int .i64 x.j.id, .int .i64 x.j.pr, .int .i64 x.j.nn, .int .i64 x.j.na, .int .i64 x.j.nb, .int .i64 x.j.nc, .int .i64 x.j.la, .int .i64 x.j.lb, .int .i64 x.j.lc, .int .i64 x.j.wl, .int .i64 x.j.lv, .int .i64 x.at_, .slice X x.nd.length dX]) := Lib.hid ⟨zAk _ rfl, XP5.out.bel, XP4.out.bel.size⟩
  clear hp hx rX lX
  go_upto_region 7 with fail
  clear d0 d1 d2 d3 d4 d5 d6 d7 d8 d9 d10 d11 d12 K4 XP4 XR4
  generalize wo.alloc (.cells #[.int .i64 x.j.id, .int .i64 x.j.pr, .int .i64 x.j.nn, .int .i64 x.j.na, .int .i64 x.j.nb, .int .i64 x.j.nc, .int .i64 x.j.la, .int .i64 x.j.lb, .int .i64 x.j.lc, .int .i64 x.j.wl, .int .i64 x.j.lv, .int .i64 x.at_, .slice X x.nd.length dX] 136) = w5 at *
  have v0 := zAb ND5.out.bx 0 rfl
  have v1 := zAb ND5.out.bx 1 rfl
  have v2 := zAb ND5.out.bx 2 rfl
  have v3 := zAb ND5.out.bx 3 rfl
  have v4 := zAb ND5.out.bx 4 rfl
  have v5 := zAb ND5.out.bx 5 rfl
  have v6 := zAb ND5.out.bx 6 rfl
  have v7 := zAb ND5.out.bx 7 rfl
  have v8 := zAb ND5.out.bx 8 rfl
  have v9 := zAb ND5.out.bx 9 rfl
  have v10 := zAb ND5.out.bx 10 rfl
  have v11 := zAb ND5.out.bx 11 rfl
  have v12 := zAb ND5.out.bx 12 rfl
  have vf := zAh ND5.out.bx
  have vl := zAf ND5.out.bx
  simp only [zgc, zga, zgb] at v0 v1 v2 v3 v4 v5 v6 v7 v8 v9 v10 v11 v12
  have k7 := zAb XP5.out.bx 7 rfl
  have kf := zAh XP5.out.bx
  have kl := zAf XP5.out.bx
  simp only [zgc, zga, zgb] at k7
  go_wp2_with fail
  refine (jobOk_raw x.j _).mono ?_
  rintro e w7 ⟨rfl, hb7⟩
  have K7 := Lib.hid (K5.out.step hb7)
  have XP7 := Lib.hid (XP5.out.step hb7)
  have XR7 := Lib.hid (XR5.out.step hb7)
  have ND7 := Lib.hid (ND5.out.step hb7)
  have BW7 := Lib.hid (zAc BW5.out hb7)
  clear hb7 v0 v1 v2 v3 v4 v5 v6 v7 v8 v9 v10 v11 v12 vf vl k7 kf kl K5 XP5 XR5 ND5 BW5
  cases hjo : x.j.okB
  ·skip
   have v0 := zAb ND7.out.bx 0 rfl
   have v1 := zAb ND7.out.bx 1 rfl
   have v2 := zAb ND7.out.bx 2 rfl
   have v3 := zAb ND7.out.bx 3 rfl
   have v4 := zAb ND7.out.bx 4 rfl
   have v5 := zAb ND7.out.bx 5 rfl
   have v6 := zAb ND7.out.bx 6 rfl
   have v7 := zAb ND7.out.bx 7 rfl
   have v8 := zAb ND7.out.bx 8 rfl
   have v9 := zAb ND7.out.bx 9 rfl
   have v10 := zAb ND7.out.bx 10 rfl
   have v11 := zAb ND7.out.bx 11 rfl
   have v12 := zAb ND7.out.bx 12 rfl
   have vf := zAh ND7.out.bx
   have vl := zAf ND7.out.bx
   simp only [zgc, zga, zgb] at v0 v1 v2 v3 v4 v5 v6 v7 v8 v9 v10 v11 v12
   have k7 := zAb XP7.out.bx 7 rfl
   have kf := zAh XP7.out.bx
   have kl := zAf XP7.out.bx
   simp only [zgc, zga, zgb] at k7
   have r0 := zAb XR7.out.bx 0 rfl
   have r1 := zAb XR7.out.bx 1 rfl
   have r2 := zAb XR7.out.bx 2 rfl
   have r3 := zAb XR7.out.bx 3 rfl
   have r4 := zAb XR7.out.bx 4 rfl
   have rf := zAh XR7.out.bx
   have rl := zAf XR7.out.bx
   simp only [zgc, zga, zgb] at r0 r1 r2 r3 r4
   have XW : Hid (BX w (((((w7.setCell ⟨w.heap.size + 1, 0, none⟩ (.slice none 0 0)).setCell ⟨w.heap.size + 1, 1, none⟩ (.slice none 0 0)).setCell ⟨w.heap.size + 1, 2, none⟩ (.slice none 0 0)).setCell ⟨w.heap.size + 1, 3, none⟩ (.slice none 0 0)).setCell ⟨w.heap.size + 1, 4, none⟩ (.slice none 0 0)) (w.heap.size + 1) 33 [.slice none 0 0, .slice none 0 0, .slice none 0 0, .slice none 0 0, .slice none 0 0]) := Lib.hid (XR7.out.sets [.slice none 0 0, .slice none 0 0, .slice none 0 0, .slice none 0 0, .slice none 0 0] 0)
   go_wp2
   (try go_light)
   generalize ((((w7.setCell ⟨w.heap.size + 1, 0, none⟩ (.slice none 0 0)).setCell ⟨w.heap.size + 1, 1, none⟩ (.slice none 0 0)).setCell ⟨w.heap.size + 1, 2, none⟩ (.slice none 0 0)).setCell ⟨w.heap.size + 1, 3, none⟩ (.slice none 0 0)).setCell ⟨w.heap.size + 1, 4, none⟩ (.slice none 0 0) = W at *
   have f0 := zAb XW.out.bx 0 rfl
   have f1 := zAb XW.out.bx 1 rfl
   have f2 := zAb XW.out.bx 2 rfl
   have f3 := zAb XW.out.bx 3 rfl
   have f4 := zAb XW.out.bx 4 rfl
   have ff := zAh XW.out.bx
   have fl := zAf XW.out.bx
   simp only [zgc, zga, zgb] at f0 f1 f2 f3 f4
   refine bodyPost_ret (v := .tuple #[.agg #[.slice none 0 0, .slice none 0 0, .slice none 0 0, .slice none 0 0, .slice none 0 0], .bool false]) (by simp [results, Tryz.results33, go_sem, f0, f1, f2, f3, f4]) rfl ?_
   rw [show roomO s = none from runsV_stop HPQ.out (by unfold runO runB; rw [hjo]; rfl) hro.out]; exact ⟨⟨none, none, none, none, none, 0, 0, 0, 0, 0, 0, 0, 0, 0, 0⟩, rfl, ⟨[], noRm_own _ _⟩, XW.out.bel⟩
  have hwl := job_wl hjo
  have v0 := zAb ND7.out.bx 0 rfl
  have v1 := zAb ND7.out.bx 1 rfl
  have v2 := zAb ND7.out.bx 2 rfl
  have v3 := zAb ND7.out.bx 3 rfl
  have v4 := zAb ND7.out.bx 4 rfl
  have v5 := zAb ND7.out.bx 5 rfl
  have v6 := zAb ND7.out.bx 6 rfl
  have v7 := zAb ND7.out.bx 7 rfl
  have v8 := zAb ND7.out.bx 8 rfl
  have v9 := zAb ND7.out.bx 9 rfl
  have v10 := zAb ND7.out.bx 10 rfl
  have v11 := zAb ND7.out.bx 11 rfl
  have v12 := zAb ND7.out.bx 12 rfl
  have vf := zAh ND7.out.bx
  have vl := zAf ND7.out.bx
  simp only [zgc, zga, zgb] at v0 v1 v2 v3 v4 v5 v6 v7 v8 v9 v10 v11 v12
  have k7 := zAb XP7.out.bx 7 rfl
  have kf := zAh XP7.out.bx
  have kl := zAf XP7.out.bx
  simp only [zgc, zga, zgb] at k7
  go_wp2_with fail
  refine (within_any x.at_ 0 s.now _).mono ?_
  rintro e w8 ⟨rfl, rfl⟩
  cases hat : inB x.at_ 0 s.now
  ·skip
   have r0 := zAb XR7.out.bx 0 rfl
   have r1 := zAb XR7.out.bx 1 rfl
   have r2 := zAb XR7.out.bx 2 rfl
   have r3 := zAb XR7.out.bx 3 rfl
   have r4 := zAb XR7.out.bx 4 rfl
   have rf := zAh XR7.out.bx
   have rl := zAf XR7.out.bx
   simp only [zgc, zga, zgb] at r0 r1 r2 r3 r4
   have XW : Hid (BX w (((((w7.setCell ⟨w.heap.size + 1, 0, none⟩ (.slice none 0 0)).setCell ⟨w.heap.size + 1, 1, none⟩ (.slice none 0 0)).setCell ⟨w.heap.size + 1, 2, none⟩ (.slice none 0 0)).setCell ⟨w.heap.size + 1, 3, none⟩ (.slice none 0 0)).setCell ⟨w.heap.size + 1, 4, none⟩ (.slice none 0 0)) (w.heap.size + 1) 33 [.slice none 0 0, .slice none 0 0, .slice none 0 0, .slice none 0 0, .slice none 0 0]) := Lib.hid (XR7.out.sets [.slice none 0 0, .slice none 0 0, .slice none 0 0, .slice none 0 0, .slice none 0 0] 0)
   go_wp2
   (try go_light)
   generalize ((((w7.setCell ⟨w.heap.size + 1, 0, none⟩ (.slice none 0 0)).setCell ⟨w.heap.size + 1, 1, none⟩ (.slice none 0 0)).setCell ⟨w.heap.size + 1, 2, none⟩ (.slice none 0 0)).setCell ⟨w.heap.size + 1, 3, none⟩ (.slice none 0 0)).setCell ⟨w.heap.size + 1, 4, none⟩ (.slice none 0 0) = W at *
   have f0 := zAb XW.out.bx 0 rfl
   have f1 := zAb XW.out.bx 1 rfl
   have f2 := zAb XW.out.bx 2 rfl
   have f3 := zAb XW.out.bx 3 rfl
   have f4 := zAb XW.out.bx 4 rfl
   have ff := zAh XW.out.bx
   have fl := zAf XW.out.bx
   simp only [zgc, zga, zgb] at f0 f1 f2 f3 f4
   refine bodyPost_ret (v := .tuple #[.agg #[.slice none 0 0, .slice none 0 0, .slice none 0 0, .slice none 0 0, .slice none 0 0], .bool false]) (by simp [results, Tryz.results33, go_sem, f0, f1, f2, f3, f4]) rfl ?_
   rw [show roomO s = none from runsV_stop HPQ.out (by unfold runO runB; rw [hat]; simp) hro.out]; exact ⟨⟨none, none, none, none, none, 0, 0, 0, 0, 0, 0, 0, 0, 0, 0⟩, rfl, ⟨[], noRm_own _ _⟩, XW.out.bel⟩
  have hat2 : 0 ≤ x.at_ ∧ x.at_ ≤ s.now := by simpa [inB] using hat
  have hwr1 : wrap64 (x.at_ + x.j.wl) = x.at_ + x.j.wl := IntWalk.wrap64_in _ (by omega)
  have hwr2 : wrap64 (s.now + 1) = s.now + 1 := IntWalk.wrap64_in _ (by omega)
  go_wp2_with fail
  refine (within_any (x.at_ + x.j.wl) (s.now + 1) 1000000000 _).mono ?_
  rintro e w8 ⟨rfl, rfl⟩
  cases hen : inB (x.at_ + x.j.wl) (s.now + 1) 1000000000
  ·skip
   have r0 := zAb XR7.out.bx 0 rfl
   have r1 := zAb XR7.out.bx 1 rfl
   have r2 := zAb XR7.out.bx 2 rfl
   have r3 := zAb XR7.out.bx 3 rfl
   have r4 := zAb XR7.out.bx 4 rfl
   have rf := zAh XR7.out.bx
   have rl := zAf XR7.out.bx
   simp only [zgc, zga, zgb] at r0 r1 r2 r3 r4
   have XW : Hid (BX w (((((w7.setCell ⟨w.heap.size + 1, 0, none⟩ (.slice none 0 0)).setCell ⟨w.heap.size + 1, 1, none⟩ (.slice none 0 0)).setCell ⟨w.heap.size + 1, 2, none⟩ (.slice none 0 0)).setCell ⟨w.heap.size + 1, 3, none⟩ (.slice none 0 0)).setCell ⟨w.heap.size + 1, 4, none⟩ (.slice none 0 0)) (w.heap.size + 1) 33 [.slice none 0 0, .slice none 0 0, .slice none 0 0, .slice none 0 0, .slice none 0 0]) := Lib.hid (XR7.out.sets [.slice none 0 0, .slice none 0 0, .slice none 0 0, .slice none 0 0, .slice none 0 0] 0)
   go_wp2
   (try go_light)
   generalize ((((w7.setCell ⟨w.heap.size + 1, 0, none⟩ (.slice none 0 0)).setCell ⟨w.heap.size + 1, 1, none⟩ (.slice none 0 0)).setCell ⟨w.heap.size + 1, 2, none⟩ (.slice none 0 0)).setCell ⟨w.heap.size + 1, 3, none⟩ (.slice none 0 0)).setCell ⟨w.heap.size + 1, 4, none⟩ (.slice none 0 0) = W at *
   have f0 := zAb XW.out.bx 0 rfl
   have f1 := zAb XW.out.bx 1 rfl
   have f2 := zAb XW.out.bx 2 rfl
   have f3 := zAb XW.out.bx 3 rfl
   have f4 := zAb XW.out.bx 4 rfl
   have ff := zAh XW.out.bx
   have fl := zAf XW.out.bx
   simp only [zgc, zga, zgb] at f0 f1 f2 f3 f4
   refine bodyPost_ret (v := .tuple #[.agg #[.slice none 0 0, .slice none 0 0, .slice none 0 0, .slice none 0 0, .slice none 0 0], .bool false]) (by simp [results, Tryz.results33, go_sem, f0, f1, f2, f3, f4]) rfl ?_
   rw [show roomO s = none from runsV_stop HPQ.out (by unfold runO runB; rw [hen]; simp) hro.out]; exact ⟨⟨none, none, none, none, none, 0, 0, 0, 0, 0, 0, 0, 0, 0, 0⟩, rfl, ⟨[], noRm_own _ _⟩, XW.out.bel⟩
  have HRUN : Hid (runO s.now r x = movedV (takeO s.now (x.at_ + x.j.wl)) r x.j x.nd) := Lib.hid (by unfold runO runB; rw [hjo, hat, hen]; rfl)
  clear hjo hat hen
  obtain ⟨xs7, ro7⟩ := K7.out.own
  have RO7 := Lib.hid ro7
  clear ro7
  have k0 := zAb K7.out.bx 0 rfl
  have k1 := zAb K7.out.bx 1 rfl
  have k2 := zAb K7.out.bx 2 rfl
  have k3 := zAb K7.out.bx 3 rfl
  have k4 := zAb K7.out.bx 4 rfl
  have kf := zAh K7.out.bx
  have kl := zAf K7.out.bx
  simp only [zgc, zga, zgb] at k0 k1 k2 k3 k4
  go_wp2_with fail
  refine (movedT_any s.now (x.at_ + x.j.wl) ⟨A1, B1, U1, R1, L1, n1, m1, nu1, np1, nl1, c1, d1, cu1, cp1, cl1⟩ r xs7 _ x.j X x.nd.length dX x.nd _ RO7.out l1 l2 l3 (RX.out.below LX.out BW7.out) (zAi LX.out BW7.out)).mono ?_
  rintro e w9 ⟨a9, xs9, rfl, own9, hb9⟩
  obtain ⟨A9, B9, U9, R9, L9, n9, m9, nu9, np9, nl9, c9, d9, cu9, cp9, cl9⟩ := a9
  dsimp only [RA.v]
  have hw7 := XP7.out.bel.size
  obtain ⟨RV, hRV⟩ : ∃ y, y = movedV (takeO s.now (x.at_ + x.j.wl)) r x.j x.nd := ⟨_, rfl⟩
  rw [← hRV] at own9 HRUN ⊢
  have KA := Lib.hid ((K7.out.step hb9).step (zAa w9 (.cells #[.slice A9 n9 c9, .slice B9 m9 d9, .slice U9 nu9 cu9, .slice R9 np9 cp9, .slice L9 nl9 cl9] 33)))
  have XPA := Lib.hid ((XP7.out.step hb9).step (zAa w9 (.cells #[.slice A9 n9 c9, .slice B9 m9 d9, .slice U9 nu9 cu9, .slice R9 np9 cp9, .slice L9 nl9 cl9] 33)))
  have XRA := Lib.hid ((XR7.out.step hb9).step (zAa w9 (.cells #[.slice A9 n9 c9, .slice B9 m9 d9, .slice U9 nu9 cu9, .slice R9 np9 cp9, .slice L9 nl9 cl9] 33)))
  have NBA : Hid ((w9.alloc (.cells #[.slice A9 n9 c9, .slice B9 m9 d9, .slice U9 nu9 cu9, .slice R9 np9 cp9, .slice L9 nl9 cl9] 33)).heap[w9.heap.size]? = some (.cells #[.slice A9 n9 c9, .slice B9 m9 d9, .slice U9 nu9 cu9, .slice R9 np9 cp9, .slice L9 nl9 cl9] 33 (0, 0))) := Lib.hid (zAk _ rfl)
  have ROA := Lib.hid ((own9.mono hw7).bel (zAa w9 (.cells #[.slice A9 n9 c9, .slice B9 m9 d9, .slice U9 nu9 cu9, .slice R9 np9 cp9, .slice L9 nl9 cl9] 33)))
  clear hRV own9 hb9 hw7 K7 XP7 XR7 ND7 BW7 RO7 k0 k1 k2 k3 k4 kf kl v0 v1 v2 v3 v4 v5 v6 v7 v8 v9 v10 v11 v12 vf vl k7
  go_upto_region 10 with fail
  generalize w9.alloc (.cells #[.slice A9 n9 c9, .slice B9 m9 d9, .slice U9 nu9 cu9, .slice R9 np9 cp9, .slice L9 nl9 cl9] 33) = wA at *
  generalize w9.heap.size = bn at *
  cases RV with
  | none =>
   simp only [Option.isSome_none]
   have r0 := zAb XRA.out.bx 0 rfl
   have r1 := zAb XRA.out.bx 1 rfl
   have r2 := zAb XRA.out.bx 2 rfl
   have r3 := zAb XRA.out.bx 3 rfl
   have r4 := zAb XRA.out.bx 4 rfl
   have rf := zAh XRA.out.bx
   have rl := zAf XRA.out.bx
   simp only [zgc, zga, zgb] at r0 r1 r2 r3 r4
   have XW : Hid (BX w (((((wA.setCell ⟨w.heap.size + 1, 0, none⟩ (.slice none 0 0)).setCell ⟨w.heap.size + 1, 1, none⟩ (.slice none 0 0)).setCell ⟨w.heap.size + 1, 2, none⟩ (.slice none 0 0)).setCell ⟨w.heap.size + 1, 3, none⟩ (.slice none 0 0)).setCell ⟨w.heap.size + 1, 4, none⟩ (.slice none 0 0)) (w.heap.size + 1) 33 [.slice none 0 0, .slice none 0 0, .slice none 0 0, .slice none 0 0, .slice none 0 0]) := Lib.hid (XRA.out.sets [.slice none 0 0, .slice none 0 0, .slice none 0 0, .slice none 0 0, .slice none 0 0] 0)
   go_wp2
   (try go_light)
   generalize ((((wA.setCell ⟨w.heap.size + 1, 0, none⟩ (.slice none 0 0)).setCell ⟨w.heap.size + 1, 1, none⟩ (.slice none 0 0)).setCell ⟨w.heap.size + 1, 2, none⟩ (.slice none 0 0)).setCell ⟨w.heap.size + 1, 3, none⟩ (.slice none 0 0)).setCell ⟨w.heap.size + 1, 4, none⟩ (.slice none 0 0) = W at *
   have f0 := zAb XW.out.bx 0 rfl
   have f1 := zAb XW.out.bx 1 rfl
   have f2 := zAb XW.out.bx 2 rfl
   have f3 := zAb XW.out.bx 3 rfl
   have f4 := zAb XW.out.bx 4 rfl
   have ff := zAh XW.out.bx
   have fl := zAf XW.out.bx
   simp only [zgc, zga, zgb] at f0 f1 f2 f3 f4
   refine bodyPost_ret (v := .tuple #[.agg #[.slice none 0 0, .slice none 0 0, .slice none 0 0, .slice none 0 0, .slice none 0 0], .bool false]) (by simp [results, Tryz.results33, go_sem, f0, f1, f2, f3, f4]) rfl ?_
   rw [show roomO s = none from runsV_stop HPQ.out HRUN.out hro.out]; exact ⟨⟨none, none, none, none, none, 0, 0, 0, 0, 0, 0, 0, 0, 0, 0⟩, rfl, ⟨[], noRm_own _ _⟩, XW.out.bel⟩
  | some q9 =>
   simp only [Option.isSome_some, zgg] at ROA ⊢
   have k0 := zAb KA.out.bx 0 rfl
   have k1 := zAb KA.out.bx 1 rfl
   have k2 := zAb KA.out.bx 2 rfl
   have k3 := zAb KA.out.bx 3 rfl
   have k4 := zAb KA.out.bx 4 rfl
   have kf := zAh KA.out.bx
   have kl := zAf KA.out.bx
   have y0 := zAb NBA.out 0 rfl
   have y1 := zAb NBA.out 1 rfl
   have y2 := zAb NBA.out 2 rfl
   have y3 := zAb NBA.out 3 rfl
   have y4 := zAb NBA.out 4 rfl
   simp only [zgc, zga, zgb] at k0 k1 k2 k3 k4 y0 y1 y2 y3 y4
   have KB := Lib.hid (KA.out.room ROA.out)
   have XPB := Lib.hid (XPA.out.fars (b' := br) (by omega) KA.out.hb [.slice A9 n9 c9, .slice B9 m9 d9, .slice U9 nu9 cu9, .slice R9 np9 cp9, .slice L9 nl9 cl9] 0)
   change Hid (BX w (((((wA.setCell ⟨br, 0, none⟩ (.slice A9 n9 c9)).setCell ⟨br, 1, none⟩ (.slice B9 m9 d9)).setCell ⟨br, 2, none⟩ (.slice U9 nu9 cu9)).setCell ⟨br, 3, none⟩ (.slice R9 np9 cp9)).setCell ⟨br, 4, none⟩ (.slice L9 nl9 cl9)) _ _ _) at XPB
   have XRB := Lib.hid (XRA.out.fars (b' := br) (by omega) KA.out.hb [.slice A9 n9 c9, .slice B9 m9 d9, .slice U9 nu9 cu9, .slice R9 np9 cp9, .slice L9 nl9 cl9] 0)
   change Hid (BX w (((((wA.setCell ⟨br, 0, none⟩ (.slice A9 n9 c9)).setCell ⟨br, 1, none⟩ (.slice B9 m9 d9)).setCell ⟨br, 2, none⟩ (.slice U9 nu9 cu9)).setCell ⟨br, 3, none⟩ (.slice R9 np9 cp9)).setCell ⟨br, 4, none⟩ (.slice L9 nl9 cl9)) _ _ _) at XRB
   have HRO := Lib.hid (runsV_step HPQ.out HRUN.out hro.out)
   clear KA XPA XRA NBA ROA
   go_wp2
   exact ⟨⟨q + 1, ⟨A9, B9, U9, R9, L9, n9, m9, nu9, np9, nl9, c9, d9, cu9, cp9, cl9⟩, q9, by omega, by go_num, KB.out, XPB.out, XRB.out, HRO⟩, by simp [intOf]; omega⟩
 ·obtain rfl : nr = q := by omega
  have hlt' : ¬ ((nr : Nat) : Int) < nr := by omega
  have HRS : Hid (roomO s = some r) := Lib.hid (by rw [hro.out, List.drop_of_length_le (by have := H.out.runs.len; simp only at this; omega)]; rfl)
  obtain ⟨xs4, ro4⟩ := K4.out.own
  have RO4 := Lib.hid ro4
  clear ro4
  have k0 := zAb K4.out.bx 0 rfl
  have k1 := zAb K4.out.bx 1 rfl
  have k2 := zAb K4.out.bx 2 rfl
  have k3 := zAb K4.out.bx 3 rfl
  have k4 := zAb K4.out.bx 4 rfl
  simp only [zgc, zga, zgb] at k0 k1 k2 k3 k4
  have r0 := zAb XR4.out.bx 0 rfl
  have r1 := zAb XR4.out.bx 1 rfl
  have r2 := zAb XR4.out.bx 2 rfl
  have r3 := zAb XR4.out.bx 3 rfl
  have r4 := zAb XR4.out.bx 4 rfl
  have rf := zAh XR4.out.bx
  have rl := zAf XR4.out.bx
  simp only [zgc, zga, zgb] at r0 r1 r2 r3 r4
  have XW : Hid (BX w (((((wo.setCell ⟨w.heap.size + 1, 0, none⟩ (.slice A1 n1 c1)).setCell ⟨w.heap.size + 1, 1, none⟩ (.slice B1 m1 d1)).setCell ⟨w.heap.size + 1, 2, none⟩ (.slice U1 nu1 cu1)).setCell ⟨w.heap.size + 1, 3, none⟩ (.slice R1 np1 cp1)).setCell ⟨w.heap.size + 1, 4, none⟩ (.slice L1 nl1 cl1)) (w.heap.size + 1) 33 [.slice A1 n1 c1, .slice B1 m1 d1, .slice U1 nu1 cu1, .slice R1 np1 cp1, .slice L1 nl1 cl1]) := Lib.hid (XR4.out.sets [.slice A1 n1 c1, .slice B1 m1 d1, .slice U1 nu1 cu1, .slice R1 np1 cp1, .slice L1 nl1 cl1] 0)
  have RMW := Lib.hid (RO4.out.box5 XR4.out.bx (.slice A1 n1 c1) (.slice B1 m1 d1) (.slice U1 nu1 cu1) (.slice R1 np1 cp1) (.slice L1 nl1 cl1))
  go_wp2
  (try go_light)
  generalize ((((wo.setCell ⟨w.heap.size + 1, 0, none⟩ (.slice A1 n1 c1)).setCell ⟨w.heap.size + 1, 1, none⟩ (.slice B1 m1 d1)).setCell ⟨w.heap.size + 1, 2, none⟩ (.slice U1 nu1 cu1)).setCell ⟨w.heap.size + 1, 3, none⟩ (.slice R1 np1 cp1)).setCell ⟨w.heap.size + 1, 4, none⟩ (.slice L1 nl1 cl1) = W at *
  have f0 := zAb XW.out.bx 0 rfl
  have f1 := zAb XW.out.bx 1 rfl
  have f2 := zAb XW.out.bx 2 rfl
  have f3 := zAb XW.out.bx 3 rfl
  have f4 := zAb XW.out.bx 4 rfl
  have ff := zAh XW.out.bx
  have fl := zAf XW.out.bx
  simp only [zgc, zga, zgb] at f0 f1 f2 f3 f4
  refine bodyPost_ret (v := .tuple #[.agg #[.slice A1 n1 c1, .slice B1 m1 d1, .slice U1 nu1 cu1, .slice R1 np1 cp1, .slice L1 nl1 cl1], .bool true]) (by simp [results, Tryz.results33, go_sem, f0, f1, f2, f3, f4]) rfl ?_
  rw [HRS.out]; exact ⟨⟨A1, B1, U1, R1, L1, n1, m1, nu1, np1, nl1, c1, d1, cu1, cp1, cl1⟩, rfl, ⟨xs4, RMW.out⟩, XW.out.bel⟩
end Go.Proofs.YtnphjhbfpoekpaaGreat
