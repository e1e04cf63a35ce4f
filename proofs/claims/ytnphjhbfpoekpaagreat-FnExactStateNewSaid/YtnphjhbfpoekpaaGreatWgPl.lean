import Derived.Test.YtnphjhbfpoekpaaGreatWfPl
import Derived.Test.YtnphjhbfpoekpaaGreatFiPl
namespace Go.Proofs.YtnphjhbfpoekpaaGreat
set_option linter.unusedSimpArgs false
set_option linter.unusedVariables false
set_option linter.unnecessarySimpa false
open Go.RowKit
def eokB (s : St) : Bool := topoOkB s.par s.nodes && decide (s.up.length = s.nodes.length) && s.lic.ok
set_option maxHeartbeats 8000000 in
set_option maxRecDepth 20000 in
theorem sEmpty_any (a : SA) (s : St) (ss : List Value) (lo0 : Nat) (w : World) (h : StOwn w lo0 a s ss) :
  Calls Tryz.prog 98 #[a.v s] w fun e w' => ∃ a', e = .returned (.tuple #[RA.v a', .bool (eokB s)]) ∧ (eokB s = true → ∃ xs, RoomOwn w' w.heap.size a' s.empty xs) ∧ Below w.heap.size w w' := by
 obtain ⟨A, B, U, K, R, E, n, m, nu, nk, nr, ne, c, d, cu, ck, cr, ce⟩ := a
 dsimp only [SA.v]
 have H := Lib.hid h
 have hm9 : m ≤ 1048576 := h.m
 have HMM : Hid (s.nodes.length = m ∧ m ≤ 1048576) := Lib.hid ⟨by have := h.rd.nodes.1; rw [flat_len] at this; simp only at this; omega, h.m⟩
 have HUL : Hid (s.up.length = nu) := Lib.hid (by have := h.rd.up.1; simpa [bools] using this)
 obtain ⟨iP, hiP, hzP1, hzP2, hzP3⟩ := info_parts infoProf
 clear h
 have BE : Below w.heap.size w (((w.alloc (.cells #[.slice A n c, .slice B m d, .slice U nu cu, .int .i64 s.lic.A, .int .i64 s.lic.B, .int .i64 s.lic.C, .int .i64 s.dep, .int .i64 s.now, .slice K nk ck, .slice R nr cr, .slice E ne ce] 77)).alloc (.cells #[.slice none 0 0, .slice none 0 0, .slice none 0 0, .slice none 0 0, .slice none 0 0] 33)).alloc (.cells #[.slice A n c, .slice B m d, .slice U nu cu, .slice none 0 0, .slice none 0 0] 33)) := zAc (zAc (zAa _ _) (zAa _ _)) (zAa _ _)
 have XP1 : Hid (BX w (((w.alloc (.cells #[.slice A n c, .slice B m d, .slice U nu cu, .int .i64 s.lic.A, .int .i64 s.lic.B, .int .i64 s.lic.C, .int .i64 s.dep, .int .i64 s.now, .slice K nk ck, .slice R nr cr, .slice E ne ce] 77)).alloc (.cells #[.slice none 0 0, .slice none 0 0, .slice none 0 0, .slice none 0 0, .slice none 0 0] 33)).alloc (.cells #[.slice A n c, .slice B m d, .slice U nu cu, .slice none 0 0, .slice none 0 0] 33)) (w.heap.size) 77 [.slice A n c, .slice B m d, .slice U nu cu, .int .i64 s.lic.A, .int .i64 s.lic.B, .int .i64 s.lic.C, .int .i64 s.dep, .int .i64 s.now, .slice K nk ck, .slice R nr cr, .slice E ne ce]) := Lib.hid ⟨zAu (zAu (zAk _ rfl) _) _, BE, Nat.le_refl _⟩
 have XR1 : Hid (BX w (((w.alloc (.cells #[.slice A n c, .slice B m d, .slice U nu cu, .int .i64 s.lic.A, .int .i64 s.lic.B, .int .i64 s.lic.C, .int .i64 s.dep, .int .i64 s.now, .slice K nk ck, .slice R nr cr, .slice E ne ce] 77)).alloc (.cells #[.slice none 0 0, .slice none 0 0, .slice none 0 0, .slice none 0 0, .slice none 0 0] 33)).alloc (.cells #[.slice A n c, .slice B m d, .slice U nu cu, .slice none 0 0, .slice none 0 0] 33)) (w.heap.size + 1) 33 [.slice none 0 0, .slice none 0 0, .slice none 0 0, .slice none 0 0, .slice none 0 0]) := Lib.hid ⟨zAu (zAk _ (by simp)) _, BE, by omega⟩
 have T1 : Hid (TE w (((w.alloc (.cells #[.slice A n c, .slice B m d, .slice U nu cu, .int .i64 s.lic.A, .int .i64 s.lic.B, .int .i64 s.lic.C, .int .i64 s.dep, .int .i64 s.now, .slice K nk ck, .slice R nr cr, .slice E ne ce] 77)).alloc (.cells #[.slice none 0 0, .slice none 0 0, .slice none 0 0, .slice none 0 0, .slice none 0 0] 33)).alloc (.cells #[.slice A n c, .slice B m d, .slice U nu cu, .slice none 0 0, .slice none 0 0] 33)) (w.heap.size + 1 + 1) (.slice A n c) (.slice B m d) (.slice U nu cu) s.empty.profs none 0 0 []) := Lib.hid ⟨zAk _ (by simp), OwnP.nil _ _, BE, by omega⟩
 clear BE
 go_enter Tryz.func98, Tryz.ntmps98
 go_upto_region 2 with fail
 obtain ⟨br, hbr9⟩ : ∃ y, y = w.heap.size + 1 + 1 := ⟨_, rfl⟩
 have hbr : w.heap.size + 1 < br := by omega
 rw [← hbr9] at T1 ⊢
 generalize ((w.alloc (.cells #[.slice A n c, .slice B m d, .slice U nu cu, .int .i64 s.lic.A, .int .i64 s.lic.B, .int .i64 s.lic.C, .int .i64 s.dep, .int .i64 s.now, .slice K nk ck, .slice R nr cr, .slice E ne ce] 77)).alloc (.cells #[.slice none 0 0, .slice none 0 0, .slice none 0 0, .slice none 0 0, .slice none 0 0] 33)).alloc (.cells #[.slice A n c, .slice B m d, .slice U nu cu, .slice none 0 0, .slice none 0 0] 33) = w1 at *
 clear hbr9
 have k0 := zAb XP1.out.bx 0 rfl
 have k1 := zAb XP1.out.bx 1 rfl
 have k2 := zAb XP1.out.bx 2 rfl
 have k3 := zAb XP1.out.bx 3 rfl
 have k4 := zAb XP1.out.bx 4 rfl
 have k5 := zAb XP1.out.bx 5 rfl
 have kf := zAh XP1.out.bx
 have kl := zAf XP1.out.bx
 simp only [zgc, zga, zgb] at k0 k1 k2 k3 k4 k5
 go_wp2_with fail
 refine (stopoOk_any A B n c m d s.par s.nodes _ H.out.n H.out.m (H.out.bel XP1.out.bel).rd.par (H.out.bel XP1.out.bel).rd.nodes (H.out.bel XP1.out.bel).rd.lA (H.out.bel XP1.out.bel).rd.lB).mono ?_
 rintro e w2 ⟨rfl, hb2⟩
 have XP2 := Lib.hid (XP1.out.step hb2)
 have XR2 := Lib.hid (XR1.out.step hb2)
 have T2 := Lib.hid (T1.out.step hb2)
 clear hb2 k0 k1 k2 k3 k4 k5 kf kl XP1 XR1 T1
 cases hto : topoOkB s.par s.nodes
 ·skip
  have k0 := zAb XP2.out.bx 0 rfl
  have k1 := zAb XP2.out.bx 1 rfl
  have k2 := zAb XP2.out.bx 2 rfl
  have k3 := zAb XP2.out.bx 3 rfl
  have k4 := zAb XP2.out.bx 4 rfl
  have k5 := zAb XP2.out.bx 5 rfl
  have kf := zAh XP2.out.bx
  have kl := zAf XP2.out.bx
  simp only [zgc, zga, zgb] at k0 k1 k2 k3 k4 k5
  have r0 := zAb XR2.out.bx 0 rfl
  have r1 := zAb XR2.out.bx 1 rfl
  have r2 := zAb XR2.out.bx 2 rfl
  have r3 := zAb XR2.out.bx 3 rfl
  have r4 := zAb XR2.out.bx 4 rfl
  have rf := zAh XR2.out.bx
  have rl := zAf XR2.out.bx
  simp only [zgc, zga, zgb] at r0 r1 r2 r3 r4
  have XW : Hid (BX w (((((w2.setCell ⟨w.heap.size + 1, 0, none⟩ (.slice none 0 0)).setCell ⟨w.heap.size + 1, 1, none⟩ (.slice none 0 0)).setCell ⟨w.heap.size + 1, 2, none⟩ (.slice none 0 0)).setCell ⟨w.heap.size + 1, 3, none⟩ (.slice none 0 0)).setCell ⟨w.heap.size + 1, 4, none⟩ (.slice none 0 0)) (w.heap.size + 1) 33 [.slice none 0 0, .slice none 0 0, .slice none 0 0, .slice none 0 0, .slice none 0 0]) := Lib.hid (XR2.out.sets [.slice none 0 0, .slice none 0 0, .slice none 0 0, .slice none 0 0, .slice none 0 0] 0)
  go_wp2
  (try go_light)
  generalize ((((w2.setCell ⟨w.heap.size + 1, 0, none⟩ (.slice none 0 0)).setCell ⟨w.heap.size + 1, 1, none⟩ (.slice none 0 0)).setCell ⟨w.heap.size + 1, 2, none⟩ (.slice none 0 0)).setCell ⟨w.heap.size + 1, 3, none⟩ (.slice none 0 0)).setCell ⟨w.heap.size + 1, 4, none⟩ (.slice none 0 0) = W at *
  have f0 := zAb XW.out.bx 0 rfl
  have f1 := zAb XW.out.bx 1 rfl
  have f2 := zAb XW.out.bx 2 rfl
  have f3 := zAb XW.out.bx 3 rfl
  have f4 := zAb XW.out.bx 4 rfl
  have ff := zAh XW.out.bx
  have fl := zAf XW.out.bx
  simp only [zgc, zga, zgb] at f0 f1 f2 f3 f4
  refine bodyPost_ret (v := .tuple #[.agg #[.slice none 0 0, .slice none 0 0, .slice none 0 0, .slice none 0 0, .slice none 0 0], .bool false]) (by simp [results, Tryz.results98, go_sem, f0, f1, f2, f3, f4]) rfl ?_
  exact ⟨⟨none, none, none, none, none, 0, 0, 0, 0, 0, 0, 0, 0, 0, 0⟩, by rw [show eokB s = false from by unfold eokB; rw [hto]; rfl]; rfl, (fun h9 => by rw [show eokB s = false from by unfold eokB; rw [hto]; rfl] at h9; cases h9), XW.out.bel⟩
 by_cases hul : nu = m
 rotate_left
 ·have hul2 : ¬ ((nu : Nat) : Int) = m := by omega
  have k0 := zAb XP2.out.bx 0 rfl
  have k1 := zAb XP2.out.bx 1 rfl
  have k2 := zAb XP2.out.bx 2 rfl
  have k3 := zAb XP2.out.bx 3 rfl
  have k4 := zAb XP2.out.bx 4 rfl
  have k5 := zAb XP2.out.bx 5 rfl
  have kf := zAh XP2.out.bx
  have kl := zAf XP2.out.bx
  simp only [zgc, zga, zgb] at k0 k1 k2 k3 k4 k5
  have r0 := zAb XR2.out.bx 0 rfl
  have r1 := zAb XR2.out.bx 1 rfl
  have r2 := zAb XR2.out.bx 2 rfl
  have r3 := zAb XR2.out.bx 3 rfl
  have r4 := zAb XR2.out.bx 4 rfl
  have rf := zAh XR2.out.bx
  have rl := zAf XR2.out.bx
  simp only [zgc, zga, zgb] at r0 r1 r2 r3 r4
  have XW : Hid (BX w (((((w2.setCell ⟨w.heap.size + 1, 0, none⟩ (.slice none 0 0)).setCell ⟨w.heap.size + 1, 1, none⟩ (.slice none 0 0)).setCell ⟨w.heap.size + 1, 2, none⟩ (.slice none 0 0)).setCell ⟨w.heap.size + 1, 3, none⟩ (.slice none 0 0)).setCell ⟨w.heap.size + 1, 4, none⟩ (.slice none 0 0)) (w.heap.size + 1) 33 [.slice none 0 0, .slice none 0 0, .slice none 0 0, .slice none 0 0, .slice none 0 0]) := Lib.hid (XR2.out.sets [.slice none 0 0, .slice none 0 0, .slice none 0 0, .slice none 0 0, .slice none 0 0] 0)
  go_wp2
  (try go_light)
  generalize ((((w2.setCell ⟨w.heap.size + 1, 0, none⟩ (.slice none 0 0)).setCell ⟨w.heap.size + 1, 1, none⟩ (.slice none 0 0)).setCell ⟨w.heap.size + 1, 2, none⟩ (.slice none 0 0)).setCell ⟨w.heap.size + 1, 3, none⟩ (.slice none 0 0)).setCell ⟨w.heap.size + 1, 4, none⟩ (.slice none 0 0) = W at *
  have f0 := zAb XW.out.bx 0 rfl
  have f1 := zAb XW.out.bx 1 rfl
  have f2 := zAb XW.out.bx 2 rfl
  have f3 := zAb XW.out.bx 3 rfl
  have f4 := zAb XW.out.bx 4 rfl
  have ff := zAh XW.out.bx
  have fl := zAf XW.out.bx
  simp only [zgc, zga, zgb] at f0 f1 f2 f3 f4
  refine bodyPost_ret (v := .tuple #[.agg #[.slice none 0 0, .slice none 0 0, .slice none 0 0, .slice none 0 0, .slice none 0 0], .bool false]) (by simp [results, Tryz.results98, go_sem, f0, f1, f2, f3, f4]) rfl ?_
  exact ⟨⟨none, none, none, none, none, 0, 0, 0, 0, 0, 0, 0, 0, 0, 0⟩, by rw [show eokB s = false from by unfold eokB; rw [hto, decide_eq_false (by rw [HUL.out, HMM.out.1]; exact hul)]; rfl]; rfl, (fun h9 => by rw [show eokB s = false from by unfold eokB; rw [hto, decide_eq_false (by rw [HUL.out, HMM.out.1]; exact hul)]; rfl] at h9; cases h9), XW.out.bel⟩
 have hul2 : ((nu : Nat) : Int) = m := by omega
 have k0 := zAb XP2.out.bx 0 rfl
 have k1 := zAb XP2.out.bx 1 rfl
 have k2 := zAb XP2.out.bx 2 rfl
 have k3 := zAb XP2.out.bx 3 rfl
 have k4 := zAb XP2.out.bx 4 rfl
 have k5 := zAb XP2.out.bx 5 rfl
 have kf := zAh XP2.out.bx
 have kl := zAf XP2.out.bx
 simp only [zgc, zga, zgb] at k0 k1 k2 k3 k4 k5
 go_wp2_with fail
 refine (svecOk_raw _ _ _ _).mono ?_
 rintro e w3 ⟨rfl, hb3⟩
 have XP3 := Lib.hid (XP2.out.step hb3)
 have XR3 := Lib.hid (XR2.out.step hb3)
 have T3 := Lib.hid (T2.out.step hb3)
 clear hb3 k0 k1 k2 k3 k4 k5 kf kl XP2 XR2 T2
 cases hvo : s.lic.ok
 ·have hvo2 : vecOkB s.lic.A s.lic.B s.lic.C = false := hvo
  have r0 := zAb XR3.out.bx 0 rfl
  have r1 := zAb XR3.out.bx 1 rfl
  have r2 := zAb XR3.out.bx 2 rfl
  have r3 := zAb XR3.out.bx 3 rfl
  have r4 := zAb XR3.out.bx 4 rfl
  have rf := zAh XR3.out.bx
  have rl := zAf XR3.out.bx
  simp only [zgc, zga, zgb] at r0 r1 r2 r3 r4
  have XW : Hid (BX w (((((w3.setCell ⟨w.heap.size + 1, 0, none⟩ (.slice none 0 0)).setCell ⟨w.heap.size + 1, 1, none⟩ (.slice none 0 0)).setCell ⟨w.heap.size + 1, 2, none⟩ (.slice none 0 0)).setCell ⟨w.heap.size + 1, 3, none⟩ (.slice none 0 0)).setCell ⟨w.heap.size + 1, 4, none⟩ (.slice none 0 0)) (w.heap.size + 1) 33 [.slice none 0 0, .slice none 0 0, .slice none 0 0, .slice none 0 0, .slice none 0 0]) := Lib.hid (XR3.out.sets [.slice none 0 0, .slice none 0 0, .slice none 0 0, .slice none 0 0, .slice none 0 0] 0)
  go_wp2
  (try go_light)
  generalize ((((w3.setCell ⟨w.heap.size + 1, 0, none⟩ (.slice none 0 0)).setCell ⟨w.heap.size + 1, 1, none⟩ (.slice none 0 0)).setCell ⟨w.heap.size + 1, 2, none⟩ (.slice none 0 0)).setCell ⟨w.heap.size + 1, 3, none⟩ (.slice none 0 0)).setCell ⟨w.heap.size + 1, 4, none⟩ (.slice none 0 0) = W at *
  have f0 := zAb XW.out.bx 0 rfl
  have f1 := zAb XW.out.bx 1 rfl
  have f2 := zAb XW.out.bx 2 rfl
  have f3 := zAb XW.out.bx 3 rfl
  have f4 := zAb XW.out.bx 4 rfl
  have ff := zAh XW.out.bx
  have fl := zAf XW.out.bx
  simp only [zgc, zga, zgb] at f0 f1 f2 f3 f4
  refine bodyPost_ret (v := .tuple #[.agg #[.slice none 0 0, .slice none 0 0, .slice none 0 0, .slice none 0 0, .slice none 0 0], .bool false]) (by simp [results, Tryz.results98, go_sem, f0, f1, f2, f3, f4]) rfl ?_
  exact ⟨⟨none, none, none, none, none, 0, 0, 0, 0, 0, 0, 0, 0, 0, 0⟩, by rw [show eokB s = false from by unfold eokB; rw [hvo]; simp]; rfl, (fun h9 => by rw [show eokB s = false from by unfold eokB; rw [hvo]; simp] at h9; cases h9), XW.out.bel⟩
 have hvo2 : vecOkB s.lic.A s.lic.B s.lic.C = true := hvo
 have HOK : Hid (eokB s = true) := Lib.hid (by unfold eokB; rw [hto, hvo, decide_eq_true (by rw [HUL.out, HMM.out.1]; exact hul)]; rfl)
 clear hto hul hvo
 have k0 := zAb XP3.out.bx 0 rfl
 have k1 := zAb XP3.out.bx 1 rfl
 have kf := zAh XP3.out.bx
 have kl := zAf XP3.out.bx
 simp only [zgc, zga, zgb] at k0 k1
 go_wp2
 clear k0 k1 kf kl hvo2 hul2
 go_loopw [39] (fun i wr => ∃ (q : Nat) (Rp : Option Addr) (cp : Nat) (xs : List Value), q ≤ m ∧ i = .int .i64 q ∧ TE w wr br (.slice A n c) (.slice B m d) (.slice U nu cu) (s.empty.profs) Rp q cp xs ∧ BX w wr (w.heap.size) 77 [.slice A n c, .slice B m d, .slice U nu cu, .int .i64 s.lic.A, .int .i64 s.lic.B, .int .i64 s.lic.C, .int .i64 s.dep, .int .i64 s.now, .slice K nk ck, .slice R nr cr, .slice E ne ce] ∧ BX w wr (w.heap.size + 1) 33 [.slice none 0 0, .slice none 0 0, .slice none 0 0, .slice none 0 0, .slice none 0 0]) (fun i _ => m - (intOf i).toNat)
 case atStart => exact ⟨0, none, 0, [], Nat.zero_le _, rfl, T3.out, XP3.out, XR3.out⟩
 case round =>
 clear T3 XP3 XR3
 obtain ⟨q, Rp, cp, xs, hq, rfl, T', XP', XR'⟩ := hrel
 obtain ⟨wo, rfl⟩ : ∃ x, x = wr := ⟨wr, rfl⟩
 have T4 := Lib.hid T'
 have XP4 := Lib.hid XP'
 have XR4 := Lib.hid XR'
 clear T' XP' XR'
 by_cases hlt : q < m
 ·have hlt' : (q : Int) < m := by omega
  obtain ⟨g, p, rfl, hp, d0, d1, d2, d3⟩ := (H.out.bel T4.out.bel).rd.nodes.q hlt
  have HPQ := Lib.hid hp
  obtain ⟨NV, hNV⟩ : ∃ y : V, y = ⟨p.a, p.b, p.c⟩ := ⟨_, rfl⟩
  have HNV := Lib.hid hNV
  have T5 := Lib.hid (T4.out.step (zAa wo (.cells #[.int .i64 p.t, .int .i64 p.a, .int .i64 p.b, .int .i64 p.c] 199)))
  have ND5 : Hid (BX w (wo.alloc (.cells #[.int .i64 p.t, .int .i64 p.a, .int .i64 p.b, .int .i64 p.c] 199)) wo.heap.size 199 [.int .i64 p.t, .int .i64 p.a, .int .i64 p.b, .int .i64 p.c]) := Lib.hid ⟨zAk _ rfl, T5.out.bel, T4.out.bel.size⟩
  have XP5 := Lib.hid (XP4.out.step (zAa wo (.cells #[.int .i64 p.t, .int .i64 p.a, .int .i64 p.b, .int .i64 p.c] 199)))
  have XR5 := Lib.hid (XR4.out.step (zAa wo (.cells #[.int .i64 p.t, .int .i64 p.a, .int .i64 p.b, .int .i64 p.c] 199)))
  clear hp hNV
  go_upto_region 7 with fail
  clear d0 d1 d2 d3 T4 XP4 XR4
  generalize wo.alloc (.cells #[.int .i64 p.t, .int .i64 p.a, .int .i64 p.b, .int .i64 p.c] 199) = w5 at *
  generalize wo.heap.size = bn at *
  have k1 := zAb ND5.out.bx 1 rfl
  have k2 := zAb ND5.out.bx 2 rfl
  have k3 := zAb ND5.out.bx 3 rfl
  have kf := zAh ND5.out.bx
  have kl := zAf ND5.out.bx
  simp only [zgc, zga, zgb] at k1 k2 k3
  go_wp2_with fail
  refine (sprofNew_any ⟨p.a, p.b, p.c⟩ _).mono ?_
  rintro e w6 ⟨u6, rfl, own6, hb6⟩
  rw [← HNV.out] at own6 ⊢
  obtain ⟨X, cX, rfl, _⟩ := zAt own6
  have hw5 : w.heap.size ≤ w5.heap.size := T5.out.bel.size
  have HFX : Hid (∀ (i : Nat) y, xs[i]? = some y → ∀ b, y.ownBlock = some b → b < w5.heap.size) := Lib.hid (fun i y hi b hb => T5.out.profs.ltx hi hb)
  have PC6 : Hid (BX w (w6.alloc (.cells #[.slice X (newP NV).length cX] 31)) w6.heap.size 31 [.slice X (newP NV).length cX]) := Lib.hid ⟨zAk _ rfl, zAc (zAc T5.out.bel hb6) (zAa _ _), (zAc T5.out.bel hb6).size⟩
  have OX6 := Lib.hid (zAe own6 (zAa w6 (.cells #[.slice X (newP NV).length cX] 31)))
  have T6 := Lib.hid ((T5.out.step hb6).step (zAa w6 (.cells #[.slice X (newP NV).length cX] 31)))
  have XP6 := Lib.hid ((XP5.out.step hb6).step (zAa w6 (.cells #[.slice X (newP NV).length cX] 31)))
  have XR6 := Lib.hid ((XR5.out.step hb6).step (zAa w6 (.cells #[.slice X (newP NV).length cX] 31)))
  clear own6 hb6 k1 k2 k3 kf kl T5 ND5 XP5 XR5
  go_upto_region 8 with fail
  generalize w6.alloc (.cells #[.slice X (newP NV).length cX] 31) = wB at *
  generalize w6.heap.size = bp at *
  have k3 := zAb T6.out.bx 3 rfl
  have kf := zAh T6.out.bx
  have kl := zAf T6.out.bx
  simp only [zgc, zga, zgb] at k3
  have y0 := zAb PC6.out.bx 0 rfl
  have yf := zAh PC6.out.bx
  have yl := zAf PC6.out.bx
  simp only [zgc, zga, zgb] at y0
  go_wp2_with (at_builtin; refine zAw rfl _ _ 28 rfl w.heap.size 31 iP (.agg #[.slice none 0 0]) 1 24 Tryz.underlying28 hiP hzP1 hzP2 hzP3 rfl (by decide) (.slice Rp q cp) q xs rfl ?ca (some ⟨wB.heap.size, 0, none⟩) 1 1 [.slice X (newP NV).length cX] rfl (Or.inr ⟨_, rfl⟩) ?cb ?cc ?cd ?ce ?cf ?_)
  case ca => exact zAe T6.out.profs.own (zAa _ _)
  case cb => exact zAv (own_lit (lo := 0) (cs := [.slice X (newP NV).length cX]) (n := 1) (size := 1) (e := 31) (zAk _ rfl) rfl (by decide) (Nat.zero_le _))
  case cc => intro u hu; simp only [List.mem_cons, List.not_mem_nil, or_false] at hu; rcases hu with rfl; rfl
  case cd => unfold maxLen; have := HMM.out; omega
  case ce => have := HMM.out; omega
  case cf => have := T6.out.bel.size; first | omega | (simp <;> omega)
  intro vZ wZ ownZ hgZ hneZ hatZ
  obtain ⟨Rp9, cp9, rfl, _⟩ := zAt ownZ
  have TZ := Lib.hid ((T6.out.step (zAa wB (.cells #[.slice X (newP NV).length cX] 31))).app (ps := newP NV) (by show (s.nodes.map _)[q]? = _; rw [List.getElem?_map, HPQ.out, HNV.out]; rfl) ownZ hgZ (zAe OX6.out (zAa _ _)) hw5 (by have := newP_len9 NV; omega) (fun i y hi b hb e => by have q1 := HFX.out i y hi b hb; have q2 := own_ge OX6.out b e; omega))
  have kz := zAr (zAu T6.out.bx _) hgZ (zAm (zAe T6.out.profs.own (zAa wB (.cells #[.slice X (newP NV).length cX] 31))) (zAu T6.out.bx _) (by decide))
  have kz3 := zAb kz 3 rfl
  have kzf := zAh kz
  have kzl := zAf kz
  simp only [zgc, zga, zgb] at kz3
  have XPZ := Lib.hid ((BX.grown (XP6.out.step (zAa wB (.cells #[.slice X (newP NV).length cX] 31))) hgZ (zAm (zAe T6.out.profs.own (zAa wB (.cells #[.slice X (newP NV).length cX] 31))) (XP6.out.step (zAa wB (.cells #[.slice X (newP NV).length cX] 31))).bx (by decide)) (own_ge (zAe T6.out.profs.own (zAa wB (.cells #[.slice X (newP NV).length cX] 31))))).far (b' := br) (by omega) (by omega) 3 (.slice Rp9 (q + 1) cp9))
  have XRZ := Lib.hid ((BX.grown (XR6.out.step (zAa wB (.cells #[.slice X (newP NV).length cX] 31))) hgZ (zAm (zAe T6.out.profs.own (zAa wB (.cells #[.slice X (newP NV).length cX] 31))) (XR6.out.step (zAa wB (.cells #[.slice X (newP NV).length cX] 31))).bx (by decide)) (own_ge (zAe T6.out.profs.own (zAa wB (.cells #[.slice X (newP NV).length cX] 31))))).far (b' := br) (by omega) (by omega) 3 (.slice Rp9 (q + 1) cp9))
  clear ownZ hgZ hneZ hatZ kz T6 PC6 OX6 XP6 XR6 y0 yf yl k3 kf kl
  go_wp2
  exact ⟨⟨q + 1, Rp9, cp9, xs ++ [.slice X (newP NV).length cX], by omega, by go_num, TZ.out, XPZ.out, XRZ.out⟩, by simp [intOf]; omega⟩
 ·obtain rfl : m = q := by omega
  have hlt' : ¬ ((m : Nat) : Int) < m := by omega
  have HZ := Lib.hid ((H.out.bel T4.out.bel).mono (Nat.zero_le lo0))
  have RD : Hid (RoomOwn wo 0 ⟨A, B, U, Rp, none, n, m, nu, m, 0, c, d, cu, cp, 0⟩ { s.empty with lics := [] } xs) := Lib.hid ⟨H.out.n, H.out.m, H.out.nu, HMM.out.2, Nat.zero_le _, HZ.out.par, HZ.out.nodes, HZ.out.up, by have h9 := T4.out.profs; rw [List.take_of_length_le (by have := HMM.out.1; simp [St.empty]; omega)] at h9; exact h9.mono (Nat.zero_le _), own_nil _ _ _ _, fun _ _ _ _ _ h => by obtain ⟨_, h⟩ := h; cases h⟩
  have k3 := zAb XP4.out.bx 3 rfl
  have k4 := zAb XP4.out.bx 4 rfl
  have k5 := zAb XP4.out.bx 5 rfl
  have kf := zAh XP4.out.bx
  have kl := zAf XP4.out.bx
  simp only [zgc, zga, zgb] at k3 k4 k5
  go_wp2_with fail
  refine (sprofNew_any s.lic _).mono ?_
  rintro e w7 ⟨u7, rfl, own7, hb7⟩
  obtain ⟨L7, cl7, rfl, _⟩ := zAt own7
  have T7 := Lib.hid (T4.out.step hb7)
  have XR7 := Lib.hid (XR4.out.step hb7)
  have RM7 := Lib.hid ((RD.out.bel hb7).lic own7 (Nat.zero_le _) (by have := newP_len9 s.lic; omega) (fun i y hi b hb => T4.out.profs.ltx hi hb))
  clear own7 hb7 k3 k4 k5 kf kl T4 XP4 XR4 RD HZ
  have k4 := zAb T7.out.bx 4 rfl
  have kf := zAh T7.out.bx
  have kl := zAf T7.out.bx
  have bx8 := Lib.hid (zAq (i := 4) (v := .slice L7 (newP s.lic).length cl7) T7.out.bx)
  have RM8 := Lib.hid (RM7.out.box1 ⟨_, _, T7.out.bx⟩ 4 (.slice L7 (newP s.lic).length cl7)).1
  have XR8 := Lib.hid (XR7.out.far (b' := br) (by omega) (by omega) 4 (.slice L7 (newP s.lic).length cl7))
  go_upto_region 11 with fail
  clear k4 kf kl T7 XR7 RM7
  generalize w7.setCell ⟨br, 4, none⟩ (.slice L7 (newP s.lic).length cl7) = w8 at *
  have BX8 : Hid (w8.heap[br]? = some (.cells #[.slice A n c, .slice B m d, .slice U nu cu, .slice Rp m cp, .slice L7 (newP s.lic).length cl7] 33 (0, 0))) := Lib.hid (by simpa using bx8.out)
  clear bx8
  have k0 := zAb BX8.out 0 rfl
  have k1 := zAb BX8.out 1 rfl
  have k2 := zAb BX8.out 2 rfl
  have k3 := zAb BX8.out 3 rfl
  have k4 := zAb BX8.out 4 rfl
  simp only [zgc, zga, zgb] at k0 k1 k2 k3 k4
  go_wp2_with fail
  refine (sCopy_any ⟨A, B, U, Rp, L7, n, m, nu, m, (newP s.lic).length, c, d, cu, cp, cl7⟩ s.empty xs 0 _ RM8.out).mono ?_
  rintro e w9 ⟨a9, xs9, rfl, own9, hb9⟩
  obtain ⟨A9, B9, U9, R9, L9, n9, m9, nu9, np9, nl9, c9, d9, cu9, cp9, cl9⟩ := a9
  dsimp only [RA.v]
  have XR9 := Lib.hid (XR8.out.step hb9)
  have RM9 := Lib.hid (own9.mono (lo' := w.heap.size) (by have := XR8.out.bel.size; omega))
  clear own9 hb9 k0 k1 k2 k3 k4 BX8 RM8 XR8
  have r0 := zAb XR9.out.bx 0 rfl
  have r1 := zAb XR9.out.bx 1 rfl
  have r2 := zAb XR9.out.bx 2 rfl
  have r3 := zAb XR9.out.bx 3 rfl
  have r4 := zAb XR9.out.bx 4 rfl
  have rf := zAh XR9.out.bx
  have rl := zAf XR9.out.bx
  simp only [zgc, zga, zgb] at r0 r1 r2 r3 r4
  have XW : Hid (BX w (((((w9.setCell ⟨w.heap.size + 1, 0, none⟩ (.slice A9 n9 c9)).setCell ⟨w.heap.size + 1, 1, none⟩ (.slice B9 m9 d9)).setCell ⟨w.heap.size + 1, 2, none⟩ (.slice U9 nu9 cu9)).setCell ⟨w.heap.size + 1, 3, none⟩ (.slice R9 np9 cp9)).setCell ⟨w.heap.size + 1, 4, none⟩ (.slice L9 nl9 cl9)) (w.heap.size + 1) 33 [.slice A9 n9 c9, .slice B9 m9 d9, .slice U9 nu9 cu9, .slice R9 np9 cp9, .slice L9 nl9 cl9]) := Lib.hid (XR9.out.sets [.slice A9 n9 c9, .slice B9 m9 d9, .slice U9 nu9 cu9, .slice R9 np9 cp9, .slice L9 nl9 cl9] 0)
  have RMW := Lib.hid (RM9.out.box5 XR9.out.bx (.slice A9 n9 c9) (.slice B9 m9 d9) (.slice U9 nu9 cu9) (.slice R9 np9 cp9) (.slice L9 nl9 cl9))
  go_wp2
  (try go_light)
  generalize ((((w9.setCell ⟨w.heap.size + 1, 0, none⟩ (.slice A9 n9 c9)).setCell ⟨w.heap.size + 1, 1, none⟩ (.slice B9 m9 d9)).setCell ⟨w.heap.size + 1, 2, none⟩ (.slice U9 nu9 cu9)).setCell ⟨w.heap.size + 1, 3, none⟩ (.slice R9 np9 cp9)).setCell ⟨w.heap.size + 1, 4, none⟩ (.slice L9 nl9 cl9) = W at *
  have f0 := zAb XW.out.bx 0 rfl
  have f1 := zAb XW.out.bx 1 rfl
  have f2 := zAb XW.out.bx 2 rfl
  have f3 := zAb XW.out.bx 3 rfl
  have f4 := zAb XW.out.bx 4 rfl
  have ff := zAh XW.out.bx
  have fl := zAf XW.out.bx
  simp only [zgc, zga, zgb] at f0 f1 f2 f3 f4
  refine bodyPost_ret (v := .tuple #[.agg #[.slice A9 n9 c9, .slice B9 m9 d9, .slice U9 nu9 cu9, .slice R9 np9 cp9, .slice L9 nl9 cl9], .bool true]) (by simp [results, Tryz.results98, go_sem, f0, f1, f2, f3, f4]) rfl ?_
  exact ⟨⟨A9, B9, U9, R9, L9, n9, m9, nu9, np9, nl9, c9, d9, cu9, cp9, cl9⟩, by rw [HOK.out]; rfl, fun _ => ⟨xs9, RMW.out⟩, XW.out.bel⟩
end Go.Proofs.YtnphjhbfpoekpaaGreat
