import Derived.Test.YtnphjhbfpoekpaaGreatWqPl
namespace Go.Proofs.YtnphjhbfpoekpaaGreat
set_option linter.unusedSimpArgs false
set_option linter.unusedVariables false
set_option linter.unnecessarySimpa false
open Go Go.RowKit
set_option maxHeartbeats 8000000 in
set_option maxRecDepth 20000 in
theorem sStateNew_any (A B : Option Addr) (n c m d lo0 : Nat) (ps : List Int) (ns : List Q) (v : V) (dep : Int) (w : World) (hn : n ≤ 1048576) (hm : m ≤ 1048576) (hr : w.ownsRow lo0 3 1 (.slice A n c) n (ints ps)) (hq : w.ownsRow lo0 199 4 (.slice B m d) m (flat ns)) :
  Calls Tryz.prog 38 #[.agg #[.slice A n c, .slice B m d], .agg #[.int .i64 v.A, .int .i64 v.B, .int .i64 v.C], .int .i64 dep] w fun e w' => ∃ a', e = .returned (.tuple #[SA.v a' (outSt (newSt ps ns v dep)), .bool (stateB (newSt ps ns v dep))]) ∧ StOwn w' w.heap.size a' (outSt (newSt ps ns v dep)) [] ∧ Below w.heap.size w w' := by
 have HQL : Hid (ns.length = m) := Lib.hid (by have := hq.1; rw [flat_len] at this; omega)
 have HNM : Hid (n ≤ 1048576 ∧ m ≤ 1048576) := Lib.hid ⟨hn, hm⟩
 have hn9 : n ≤ 9223372036854775807 := by omega
 have hm9 : m ≤ 9223372036854775807 := by omega
 obtain ⟨iB, hiB, hzB1, hzB2, hzB3⟩ := info_parts infoB
 have BE : Below w.heap.size w ((((w.alloc (.cells #[.slice A n c, .slice B m d] 26)).alloc (.cells #[.int .i64 v.A, .int .i64 v.B, .int .i64 v.C] 73)).alloc (.cells #[.slice none 0 0, .slice none 0 0, .slice none 0 0, .int .i64 0, .int .i64 0, .int .i64 0, .int .i64 0, .int .i64 0, .slice none 0 0, .slice none 0 0, .slice none 0 0] 77)).alloc (.cells #[.slice A n c, .slice B m d, .slice none 0 0, .int .i64 v.A, .int .i64 v.B, .int .i64 v.C, .int .i64 dep, .int .i64 0, .slice none 0 0, .slice none 0 0, .slice none 0 0] 77)) := zAc (zAc (zAc (zAa _ _) (zAa _ _)) (zAa _ _)) (zAa _ _)
 have XT0 : Hid (BX w ((((w.alloc (.cells #[.slice A n c, .slice B m d] 26)).alloc (.cells #[.int .i64 v.A, .int .i64 v.B, .int .i64 v.C] 73)).alloc (.cells #[.slice none 0 0, .slice none 0 0, .slice none 0 0, .int .i64 0, .int .i64 0, .int .i64 0, .int .i64 0, .int .i64 0, .slice none 0 0, .slice none 0 0, .slice none 0 0] 77)).alloc (.cells #[.slice A n c, .slice B m d, .slice none 0 0, .int .i64 v.A, .int .i64 v.B, .int .i64 v.C, .int .i64 dep, .int .i64 0, .slice none 0 0, .slice none 0 0, .slice none 0 0] 77)) (w.heap.size) 26 [.slice A n c, .slice B m d]) := Lib.hid ⟨zAu (zAu (zAu (zAk _ rfl) _) _) _, BE, Nat.le_refl _⟩
 have XR0 : Hid (BX w ((((w.alloc (.cells #[.slice A n c, .slice B m d] 26)).alloc (.cells #[.int .i64 v.A, .int .i64 v.B, .int .i64 v.C] 73)).alloc (.cells #[.slice none 0 0, .slice none 0 0, .slice none 0 0, .int .i64 0, .int .i64 0, .int .i64 0, .int .i64 0, .int .i64 0, .slice none 0 0, .slice none 0 0, .slice none 0 0] 77)).alloc (.cells #[.slice A n c, .slice B m d, .slice none 0 0, .int .i64 v.A, .int .i64 v.B, .int .i64 v.C, .int .i64 dep, .int .i64 0, .slice none 0 0, .slice none 0 0, .slice none 0 0] 77)) (w.heap.size + 1 + 1) 77 [.slice none 0 0, .slice none 0 0, .slice none 0 0, .int .i64 0, .int .i64 0, .int .i64 0, .int .i64 0, .int .i64 0, .slice none 0 0, .slice none 0 0, .slice none 0 0]) := Lib.hid ⟨zAu (zAk _ (by simp)) _, BE, by omega⟩
 have S0 : Hid (SN w ((((w.alloc (.cells #[.slice A n c, .slice B m d] 26)).alloc (.cells #[.int .i64 v.A, .int .i64 v.B, .int .i64 v.C] 73)).alloc (.cells #[.slice none 0 0, .slice none 0 0, .slice none 0 0, .int .i64 0, .int .i64 0, .int .i64 0, .int .i64 0, .int .i64 0, .slice none 0 0, .slice none 0 0, .slice none 0 0] 77)).alloc (.cells #[.slice A n c, .slice B m d, .slice none 0 0, .int .i64 v.A, .int .i64 v.B, .int .i64 v.C, .int .i64 dep, .int .i64 0, .slice none 0 0, .slice none 0 0, .slice none 0 0] 77)) lo0 (w.heap.size + 1 + 1 + 1) A B n c m d ps ns v dep none 0 0) := Lib.hid ⟨⟨zAk _ (by simp), BE, by omega⟩, zAe (zAe (zAe (zAe hr (zAa _ _)) (zAa _ _)) (zAa _ _)) (zAa _ _), zAe (zAe (zAe (zAe hq (zAa _ _)) (zAa _ _)) (zAa _ _)) (zAa _ _), own_nil _ _ _ _⟩
 clear BE hr hq
 go_enter Tryz.func38, Tryz.ntmps38
 go_upto_region 2 with fail
 obtain ⟨bn, hbn9⟩ : ∃ y, y = w.heap.size + 1 + 1 + 1 := ⟨_, rfl⟩
 have hbn : w.heap.size + 1 + 1 < bn := by omega
 rw [← hbn9] at S0 ⊢
 generalize (((w.alloc (.cells #[.slice A n c, .slice B m d] 26)).alloc (.cells #[.int .i64 v.A, .int .i64 v.B, .int .i64 v.C] 73)).alloc (.cells #[.slice none 0 0, .slice none 0 0, .slice none 0 0, .int .i64 0, .int .i64 0, .int .i64 0, .int .i64 0, .int .i64 0, .slice none 0 0, .slice none 0 0, .slice none 0 0] 77)).alloc (.cells #[.slice A n c, .slice B m d, .slice none 0 0, .int .i64 v.A, .int .i64 v.B, .int .i64 v.C, .int .i64 dep, .int .i64 0, .slice none 0 0, .slice none 0 0, .slice none 0 0] 77) = w2 at *
 clear hbn9
 have k1 := zAb XT0.out.bx 1 rfl
 have kf := zAh XT0.out.bx
 have kl := zAf XT0.out.bx
 simp only [zgc, zga, zgb] at k1
 go_wp2
 clear k1 kf kl XT0
 go_loopw [16] (fun i wr => ∃ (q : Nat) (U : Option Addr) (cu : Nat), q ≤ m ∧ i = .int .i64 q ∧ SN w wr lo0 bn A B n c m d ps ns v dep U q cu ∧ BX w wr (w.heap.size + 1 + 1) 77 [.slice none 0 0, .slice none 0 0, .slice none 0 0, .int .i64 0, .int .i64 0, .int .i64 0, .int .i64 0, .int .i64 0, .slice none 0 0, .slice none 0 0, .slice none 0 0]) (fun i _ => m - (intOf i).toNat)
 case atStart => exact ⟨0, none, 0, Nat.zero_le _, rfl, S0.out, XR0.out⟩
 case round =>
 clear S0 XR0
 obtain ⟨q, U, cu, hq, rfl, S', XR'⟩ := hrel
 obtain ⟨wo, rfl⟩ : ∃ x, x = wr := ⟨wr, rfl⟩
 have S4 := Lib.hid S'
 have XR4 := Lib.hid XR'
 clear S' XR'
 by_cases hlt : q < m
 ·have hlt' : (q : Int) < m := by omega
  have k2 := zAb S4.out.bx.bx 2 rfl
  have kf := zAh S4.out.bx.bx
  have kl := zAf S4.out.bx.bx
  simp only [zgc, zga, zgb] at k2
  go_wp2_with (at_builtin; refine zAw rfl _ _ 27 rfl w.heap.size 4 iB (.bool false) 1 1 Tryz.underlying27 hiB hzB1 hzB2 hzB3 rfl (by decide) (.slice U q cu) q (bools (List.replicate q true)) rfl ?ca (some ⟨wo.heap.size, 0, none⟩) 1 1 [.bool true] rfl (Or.inr ⟨_, rfl⟩) ?cb ?cc ?cd ?ce ?cf ?_)
  case ca => exact zAe S4.out.up (zAa _ _)
  case cb => exact zAv (own_lit (lo := 0) (cs := [.bool true]) (n := 1) (size := 1) (e := 4) (zAk _ rfl) rfl (by decide) (Nat.zero_le _))
  case cc => intro u hu; simp only [List.mem_cons, List.not_mem_nil, or_false] at hu; rcases hu with rfl; rfl
  case cd => unfold maxLen; omega
  case ce => omega
  case cf => have := S4.out.bx.bel.size; first | omega | (simp <;> omega)
  intro vZ wZ ownZ hgZ hneZ hatZ
  obtain ⟨UZ, cuZ, rfl, _⟩ := zAt ownZ
  have S5 := Lib.hid (S4.out.step (zAa wo (.cells #[.bool true] 4)))
  have XR5 := Lib.hid (XR4.out.step (zAa wo (.cells #[.bool true] 4)))
  have SZ := Lib.hid (S5.out.app ownZ hgZ)
  have XRZ := Lib.hid ((BX.grown XR5.out hgZ (zAm S5.out.up XR5.out.bx (by decide)) (fun j hj => own_ge S5.out.up j hj)).far (b' := bn) (by omega) (by omega) 2 (.slice UZ (q + 1) cuZ))
  have kz := zAr S5.out.bx.bx hgZ (zAm S5.out.up S5.out.bx.bx (by decide))
  have kz2 := zAb kz 2 rfl
  have kzf := zAh kz
  have kzl := zAf kz
  simp only [zgc, zga, zgb] at kz2
  clear ownZ hgZ hneZ hatZ kz S4 XR4 S5 XR5 k2 kf kl
  go_wp2
  exact ⟨⟨q + 1, UZ, cuZ, by omega, by go_num, SZ.out, XRZ.out⟩, by simp [intOf]; omega⟩
 ·obtain rfl : m = q := by omega
  have hlt' : ¬ ((m : Nat) : Int) < m := by omega
  have ST4 := Lib.hid (S4.out.own (lo' := 0) HNM.out.1 HNM.out.2 HQL.out (by omega) (by omega))
  have XS4 := Lib.hid S4.out.bx
  clear S4
  have k0 := zAb XS4.out.bx 0 rfl
  have k1 := zAb XS4.out.bx 1 rfl
  have k2 := zAb XS4.out.bx 2 rfl
  have k3 := zAb XS4.out.bx 3 rfl
  have k4 := zAb XS4.out.bx 4 rfl
  have k5 := zAb XS4.out.bx 5 rfl
  have k6 := zAb XS4.out.bx 6 rfl
  have k7 := zAb XS4.out.bx 7 rfl
  have k8 := zAb XS4.out.bx 8 rfl
  have k9 := zAb XS4.out.bx 9 rfl
  have k10 := zAb XS4.out.bx 10 rfl
  have kf := zAh XS4.out.bx
  have kl := zAf XS4.out.bx
  simp only [zgc, zga, zgb] at k0 k1 k2 k3 k4 k5 k6 k7 k8 k9 k10
  go_wp2_with fail
  refine (sStateOk_any ⟨A, B, U, none, none, none, n, m, m, 0, 0, 0, c, d, cu, 0, 0, 0⟩ (newSt ps ns v dep) [] 0 _ ST4.out).mono ?_
  rintro e w7 ⟨rfl, hb7⟩
  have XS7 := Lib.hid (XS4.out.step hb7)
  have XR7 := Lib.hid (XR4.out.step hb7)
  have ST7 := Lib.hid (ST4.out.bel hb7)
  clear hb7 XS4 XR4 ST4 k0 k1 k2 k3 k4 k5 k6 k7 k8 k9 k10 kf kl
  cases hs : stateB (newSt ps ns v dep)
  ·have HS := Lib.hid hs
   have HO : Hid (outSt (newSt ps ns v dep) = noSt) := Lib.hid (outSt_no hs)
   clear hs
   have r0 := zAb XR7.out.bx 0 rfl
   have r1 := zAb XR7.out.bx 1 rfl
   have r2 := zAb XR7.out.bx 2 rfl
   have r3 := zAb XR7.out.bx 3 rfl
   have r4 := zAb XR7.out.bx 4 rfl
   have r5 := zAb XR7.out.bx 5 rfl
   have r6 := zAb XR7.out.bx 6 rfl
   have r7 := zAb XR7.out.bx 7 rfl
   have r8 := zAb XR7.out.bx 8 rfl
   have r9 := zAb XR7.out.bx 9 rfl
   have r10 := zAb XR7.out.bx 10 rfl
   have rf := zAh XR7.out.bx
   have rl := zAf XR7.out.bx
   simp only [zgc, zga, zgb] at r0 r1 r2 r3 r4 r5 r6 r7 r8 r9 r10
   have XW : Hid (BX w (((((((((((w7.setCell ⟨w.heap.size + 1 + 1, 0, none⟩ (.slice none 0 0)).setCell ⟨w.heap.size + 1 + 1, 1, none⟩ (.slice none 0 0)).setCell ⟨w.heap.size + 1 + 1, 2, none⟩ (.slice none 0 0)).setCell ⟨w.heap.size + 1 + 1, 3, none⟩ (.int .i64 0)).setCell ⟨w.heap.size + 1 + 1, 4, none⟩ (.int .i64 0)).setCell ⟨w.heap.size + 1 + 1, 5, none⟩ (.int .i64 0)).setCell ⟨w.heap.size + 1 + 1, 6, none⟩ (.int .i64 0)).setCell ⟨w.heap.size + 1 + 1, 7, none⟩ (.int .i64 0)).setCell ⟨w.heap.size + 1 + 1, 8, none⟩ (.slice none 0 0)).setCell ⟨w.heap.size + 1 + 1, 9, none⟩ (.slice none 0 0)).setCell ⟨w.heap.size + 1 + 1, 10, none⟩ (.slice none 0 0)) (w.heap.size + 1 + 1) 77 [.slice none 0 0, .slice none 0 0, .slice none 0 0, .int .i64 0, .int .i64 0, .int .i64 0, .int .i64 0, .int .i64 0, .slice none 0 0, .slice none 0 0, .slice none 0 0]) := Lib.hid (XR7.out.set11 _ _ _ _ _ _ _ _ _ _ _)
   have SW : Hid (StOwn (((((((((((w7.setCell ⟨w.heap.size + 1 + 1, 0, none⟩ (.slice none 0 0)).setCell ⟨w.heap.size + 1 + 1, 1, none⟩ (.slice none 0 0)).setCell ⟨w.heap.size + 1 + 1, 2, none⟩ (.slice none 0 0)).setCell ⟨w.heap.size + 1 + 1, 3, none⟩ (.int .i64 0)).setCell ⟨w.heap.size + 1 + 1, 4, none⟩ (.int .i64 0)).setCell ⟨w.heap.size + 1 + 1, 5, none⟩ (.int .i64 0)).setCell ⟨w.heap.size + 1 + 1, 6, none⟩ (.int .i64 0)).setCell ⟨w.heap.size + 1 + 1, 7, none⟩ (.int .i64 0)).setCell ⟨w.heap.size + 1 + 1, 8, none⟩ (.slice none 0 0)).setCell ⟨w.heap.size + 1 + 1, 9, none⟩ (.slice none 0 0)).setCell ⟨w.heap.size + 1 + 1, 10, none⟩ (.slice none 0 0)) w.heap.size ⟨none, none, none, none, none, none, 0, 0, 0, 0, 0, 0, 0, 0, 0, 0, 0, 0⟩ (outSt (newSt ps ns v dep)) []) := Lib.hid (by rw [HO.out]; exact noSt_own _ _)
   go_wp2
   (try go_light)
   generalize ((((((((((w7.setCell ⟨w.heap.size + 1 + 1, 0, none⟩ (.slice none 0 0)).setCell ⟨w.heap.size + 1 + 1, 1, none⟩ (.slice none 0 0)).setCell ⟨w.heap.size + 1 + 1, 2, none⟩ (.slice none 0 0)).setCell ⟨w.heap.size + 1 + 1, 3, none⟩ (.int .i64 0)).setCell ⟨w.heap.size + 1 + 1, 4, none⟩ (.int .i64 0)).setCell ⟨w.heap.size + 1 + 1, 5, none⟩ (.int .i64 0)).setCell ⟨w.heap.size + 1 + 1, 6, none⟩ (.int .i64 0)).setCell ⟨w.heap.size + 1 + 1, 7, none⟩ (.int .i64 0)).setCell ⟨w.heap.size + 1 + 1, 8, none⟩ (.slice none 0 0)).setCell ⟨w.heap.size + 1 + 1, 9, none⟩ (.slice none 0 0)).setCell ⟨w.heap.size + 1 + 1, 10, none⟩ (.slice none 0 0) = W at *
   have f0 := zAb XW.out.bx 0 rfl
   have f1 := zAb XW.out.bx 1 rfl
   have f2 := zAb XW.out.bx 2 rfl
   have f3 := zAb XW.out.bx 3 rfl
   have f4 := zAb XW.out.bx 4 rfl
   have f5 := zAb XW.out.bx 5 rfl
   have f6 := zAb XW.out.bx 6 rfl
   have f7 := zAb XW.out.bx 7 rfl
   have f8 := zAb XW.out.bx 8 rfl
   have f9 := zAb XW.out.bx 9 rfl
   have f10 := zAb XW.out.bx 10 rfl
   have ff := zAh XW.out.bx
   have fl := zAf XW.out.bx
   simp only [zgc, zga, zgb] at f0 f1 f2 f3 f4 f5 f6 f7 f8 f9 f10
   refine bodyPost_ret (v := .tuple #[.agg #[.slice none 0 0, .slice none 0 0, .slice none 0 0, .int .i64 0, .int .i64 0, .int .i64 0, .int .i64 0, .int .i64 0, .slice none 0 0, .slice none 0 0, .slice none 0 0], .bool false]) (by simp [results, Tryz.results38, go_sem, f0, f1, f2, f3, f4, f5, f6, f7, f8, f9, f10]) rfl ?_
   exact ⟨⟨none, none, none, none, none, none, 0, 0, 0, 0, 0, 0, 0, 0, 0, 0, 0, 0⟩, by rw [HS.out, HO.out]; rfl, SW.out, XW.out.bel⟩
  ·have HS := Lib.hid hs
   have HO : Hid (outSt (newSt ps ns v dep) = newSt ps ns v dep) := Lib.hid (outSt_yes hs)
   clear hs
   have k0 := zAb XS7.out.bx 0 rfl
   have k1 := zAb XS7.out.bx 1 rfl
   have k2 := zAb XS7.out.bx 2 rfl
   have k3 := zAb XS7.out.bx 3 rfl
   have k4 := zAb XS7.out.bx 4 rfl
   have k5 := zAb XS7.out.bx 5 rfl
   have k6 := zAb XS7.out.bx 6 rfl
   have k7 := zAb XS7.out.bx 7 rfl
   have k8 := zAb XS7.out.bx 8 rfl
   have k9 := zAb XS7.out.bx 9 rfl
   have k10 := zAb XS7.out.bx 10 rfl
   have kf := zAh XS7.out.bx
   have kl := zAf XS7.out.bx
   simp only [zgc, zga, zgb] at k0 k1 k2 k3 k4 k5 k6 k7 k8 k9 k10
   go_wp2_with fail
   refine (sCopySt_nil A B U n m m c d cu (newSt ps ns v dep) 0 _ ST7.out).mono ?_
   rintro e w8 ⟨A9, B9, U9, K9, R9, E9, c9, d9, cu9, ck9, cr9, ce9, rfl, own8, hb8⟩
   rw [show SA.v ⟨A9, B9, U9, K9, R9, E9, n, m, m, 0, 0, 0, c9, d9, cu9, ck9, cr9, ce9⟩ (newSt ps ns v dep) = .agg #[.slice A9 n c9, .slice B9 m d9, .slice U9 m cu9, .int .i64 v.A, .int .i64 v.B, .int .i64 v.C, .int .i64 dep, .int .i64 0, .slice K9 0 ck9, .slice R9 0 cr9, .slice E9 0 ce9] from rfl]
   have XR8 := Lib.hid (XR7.out.step hb8)
   have hlo8 := zAf XR7.out.bx
   have ST8 := Lib.hid own8
   clear own8 hb8 XS7 XR7 ST7 k0 k1 k2 k3 k4 k5 k6 k7 k8 k9 k10 kf kl
   have r0 := zAb XR8.out.bx 0 rfl
   have r1 := zAb XR8.out.bx 1 rfl
   have r2 := zAb XR8.out.bx 2 rfl
   have r3 := zAb XR8.out.bx 3 rfl
   have r4 := zAb XR8.out.bx 4 rfl
   have r5 := zAb XR8.out.bx 5 rfl
   have r6 := zAb XR8.out.bx 6 rfl
   have r7 := zAb XR8.out.bx 7 rfl
   have r8 := zAb XR8.out.bx 8 rfl
   have r9 := zAb XR8.out.bx 9 rfl
   have r10 := zAb XR8.out.bx 10 rfl
   have rf := zAh XR8.out.bx
   have rl := zAf XR8.out.bx
   simp only [zgc, zga, zgb] at r0 r1 r2 r3 r4 r5 r6 r7 r8 r9 r10
   have XW : Hid (BX w (((((((((((w8.setCell ⟨w.heap.size + 1 + 1, 0, none⟩ (.slice A9 n c9)).setCell ⟨w.heap.size + 1 + 1, 1, none⟩ (.slice B9 m d9)).setCell ⟨w.heap.size + 1 + 1, 2, none⟩ (.slice U9 m cu9)).setCell ⟨w.heap.size + 1 + 1, 3, none⟩ (.int .i64 v.A)).setCell ⟨w.heap.size + 1 + 1, 4, none⟩ (.int .i64 v.B)).setCell ⟨w.heap.size + 1 + 1, 5, none⟩ (.int .i64 v.C)).setCell ⟨w.heap.size + 1 + 1, 6, none⟩ (.int .i64 dep)).setCell ⟨w.heap.size + 1 + 1, 7, none⟩ (.int .i64 0)).setCell ⟨w.heap.size + 1 + 1, 8, none⟩ (.slice K9 0 ck9)).setCell ⟨w.heap.size + 1 + 1, 9, none⟩ (.slice R9 0 cr9)).setCell ⟨w.heap.size + 1 + 1, 10, none⟩ (.slice E9 0 ce9)) (w.heap.size + 1 + 1) 77 [.slice A9 n c9, .slice B9 m d9, .slice U9 m cu9, .int .i64 v.A, .int .i64 v.B, .int .i64 v.C, .int .i64 dep, .int .i64 0, .slice K9 0 ck9, .slice R9 0 cr9, .slice E9 0 ce9]) := Lib.hid (XR8.out.set11 _ _ _ _ _ _ _ _ _ _ _)
   have SW : Hid (StOwn (((((((((((w8.setCell ⟨w.heap.size + 1 + 1, 0, none⟩ (.slice A9 n c9)).setCell ⟨w.heap.size + 1 + 1, 1, none⟩ (.slice B9 m d9)).setCell ⟨w.heap.size + 1 + 1, 2, none⟩ (.slice U9 m cu9)).setCell ⟨w.heap.size + 1 + 1, 3, none⟩ (.int .i64 v.A)).setCell ⟨w.heap.size + 1 + 1, 4, none⟩ (.int .i64 v.B)).setCell ⟨w.heap.size + 1 + 1, 5, none⟩ (.int .i64 v.C)).setCell ⟨w.heap.size + 1 + 1, 6, none⟩ (.int .i64 dep)).setCell ⟨w.heap.size + 1 + 1, 7, none⟩ (.int .i64 0)).setCell ⟨w.heap.size + 1 + 1, 8, none⟩ (.slice K9 0 ck9)).setCell ⟨w.heap.size + 1 + 1, 9, none⟩ (.slice R9 0 cr9)).setCell ⟨w.heap.size + 1 + 1, 10, none⟩ (.slice E9 0 ce9)) w.heap.size ⟨A9, B9, U9, K9, R9, E9, n, m, m, 0, 0, 0, c9, d9, cu9, ck9, cr9, ce9⟩ (outSt (newSt ps ns v dep)) []) := Lib.hid (by rw [HO.out]; exact (ST8.out.set11 XR8.out.bx _ _ _ _ _ _ _ _ _ _ _).mono (by omega))
   go_wp2
   (try go_light)
   generalize ((((((((((w8.setCell ⟨w.heap.size + 1 + 1, 0, none⟩ (.slice A9 n c9)).setCell ⟨w.heap.size + 1 + 1, 1, none⟩ (.slice B9 m d9)).setCell ⟨w.heap.size + 1 + 1, 2, none⟩ (.slice U9 m cu9)).setCell ⟨w.heap.size + 1 + 1, 3, none⟩ (.int .i64 v.A)).setCell ⟨w.heap.size + 1 + 1, 4, none⟩ (.int .i64 v.B)).setCell ⟨w.heap.size + 1 + 1, 5, none⟩ (.int .i64 v.C)).setCell ⟨w.heap.size + 1 + 1, 6, none⟩ (.int .i64 dep)).setCell ⟨w.heap.size + 1 + 1, 7, none⟩ (.int .i64 0)).setCell ⟨w.heap.size + 1 + 1, 8, none⟩ (.slice K9 0 ck9)).setCell ⟨w.heap.size + 1 + 1, 9, none⟩ (.slice R9 0 cr9)).setCell ⟨w.heap.size + 1 + 1, 10, none⟩ (.slice E9 0 ce9) = W at *
   have f0 := zAb XW.out.bx 0 rfl
   have f1 := zAb XW.out.bx 1 rfl
   have f2 := zAb XW.out.bx 2 rfl
   have f3 := zAb XW.out.bx 3 rfl
   have f4 := zAb XW.out.bx 4 rfl
   have f5 := zAb XW.out.bx 5 rfl
   have f6 := zAb XW.out.bx 6 rfl
   have f7 := zAb XW.out.bx 7 rfl
   have f8 := zAb XW.out.bx 8 rfl
   have f9 := zAb XW.out.bx 9 rfl
   have f10 := zAb XW.out.bx 10 rfl
   have ff := zAh XW.out.bx
   have fl := zAf XW.out.bx
   simp only [zgc, zga, zgb] at f0 f1 f2 f3 f4 f5 f6 f7 f8 f9 f10
   refine bodyPost_ret (v := .tuple #[.agg #[.slice A9 n c9, .slice B9 m d9, .slice U9 m cu9, .int .i64 v.A, .int .i64 v.B, .int .i64 v.C, .int .i64 dep, .int .i64 0, .slice K9 0 ck9, .slice R9 0 cr9, .slice E9 0 ce9], .bool true]) (by simp [results, Tryz.results38, go_sem, f0, f1, f2, f3, f4, f5, f6, f7, f8, f9, f10]) rfl ?_
   exact ⟨⟨A9, B9, U9, K9, R9, E9, n, m, m, 0, 0, 0, c9, d9, cu9, ck9, cr9, ce9⟩, by rw [HS.out, HO.out]; rfl, SW.out, XW.out.bel⟩
end Go.Proofs.YtnphjhbfpoekpaaGreat
