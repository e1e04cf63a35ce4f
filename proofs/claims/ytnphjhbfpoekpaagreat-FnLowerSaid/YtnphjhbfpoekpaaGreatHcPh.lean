import Derived.Test.YtnphjhbfpoekpaaGreatGdPh
import Derived.Test.YtnphjhbfpoekpaaGreatHbPh
namespace Go.Proofs.YtnphjhbfpoekpaaGreat
set_option linter.unusedSimpArgs false
set_option linter.unusedVariables false
set_option linter.unnecessarySimpa false
open Go Go.RowKit
set_option maxHeartbeats 16000000 in
set_option maxRecDepth 20000 in
theorem cur_plan (g : Nat) (w : World) (h : Cur w g) :
  Calls Tryz.prog 51 #[.pointer (some ⟨g, 0, none⟩)] w fun e w' => ∃ (a : RA) (now : Int) (D : Option Addr) (e9 : Nat) (js : List J) (depth : Int), e = .returned (.tuple #[RA.v a, .int .i64 now, .slice D js.length e9, .int .i64 depth]) ∧ js.length ≤ 8 ∧ (∃ r : Rm, r.few 12 ∧ ∃ xs, RoomOwn w' w.heap.size a r xs) ∧ w'.ownsRow w.heap.size 95 11 (.slice D js.length e9) js.length (jflat js) ∧ Cur w' g ∧ Fr (· = g) w w' := by
 have hgw := h.lt
 have C0 := Lib.hid (h.alloc (.cells #[.slice none 0 0, .slice none 0 0, .slice none 0 0, .slice none 0 0, .slice none 0 0] 33))
 have F0 := Lib.hid ((Fr.refl (· = g) w).alloc (.cells #[.slice none 0 0, .slice none 0 0, .slice none 0 0, .slice none 0 0, .slice none 0 0] 33))
 have XR0 : Hid ((w.alloc (.cells #[.slice none 0 0, .slice none 0 0, .slice none 0 0, .slice none 0 0, .slice none 0 0] 33)).heap[w.heap.size]? = some (.cells #[.slice none 0 0, .slice none 0 0, .slice none 0 0, .slice none 0 0, .slice none 0 0] 33 (0, 0))) := Lib.hid (zAj _ rfl)
 clear h
 go_enter Tryz.func51, Tryz.ntmps51
 go_wp2_with fail
 refine (cur_anyRoom g _ C0.out).mono ?_
 rintro e w1 ⟨a, rfl, r, hfw, ⟨xs, oa⟩, cu1, fr1⟩
 have C1 := Lib.hid cu1
 have F1 := Lib.hid ((F0.out).trans fr1)
 have XR1 := Lib.hid (bx_fr (XR0.out) fr1 (by omega))
 clear cu1 fr1 C0 F0 XR0
 obtain ⟨A, B, U, R, L, n, m1, nu, np, nl, c, d, cu, cp, cl⟩ := a
 dsimp only [RA.v]
 have hle1 : w.heap.size < w1.heap.size := zAg XR1.out
 have FW := Lib.hid hfw
 have M1 : Hid (RG w (w1.alloc (.cells #[.slice A n c, .slice B m1 d, .slice U nu cu, .slice R np cp, .slice L nl cl] 33)) g w1.heap.size ⟨A, B, U, R, L, n, m1, nu, np, nl, c, d, cu, cp, cl⟩ r xs) := Lib.hid ⟨zAj _ rfl, (oa.mono (by simp)).bel (zAa _ _), C1.out.alloc _, F1.out.alloc _, ⟨hgw, hle1⟩, zAs XR1.out _⟩
 clear oa XR1 C1 F1 hfw
 go_wp2_with fail
 refine (zAt g 30 _ M1.out.cur (by omega) (by omega)).mono ?_
 rintro e w2 ⟨x2, rfl, p2, q2, cu2, fr2⟩
 have T2 : Hid (RG w w2 g w1.heap.size ⟨A, B, U, R, L, n, m1, nu, np, nl, c, d, cu, cp, cl⟩ r xs) := Lib.hid (M1.out.cs fr2 cu2)
 clear M1 cu2 fr2
 go_wp2_with fail
 refine (cur_queueAny g _ T2.out.cur).mono ?_
 rintro e w3 ⟨D, e9, js, rfl, hjl, oj, cu3, fr3⟩
 have T3 := Lib.hid (T2.out.cs fr3 cu3)
 have O3 := Lib.hid (zAm (lo' := w.heap.size) oj T2.out.fr.size)
 clear T2 cu3 fr3 oj
 go_wp2_with fail
 refine (zAt g 4 _ T3.out.cur (by omega) (by omega)).mono ?_
 rintro e w4 ⟨x4, rfl, p4, q4, cu4, fr4⟩
 have T4 := Lib.hid (T3.out.cs fr4 cu4)
 have O4 := Lib.hid (own_fr O3.out fr4 (fun k hk e => by have := zAu O3.out k hk; omega))
 clear T3 O3 cu4 fr4
 go_wp2_with fail
 refine (zAt g 14 _ T4.out.cur (by omega) (by omega)).mono ?_
 rintro e w5 ⟨x5, rfl, p5, q5, cu5, fr5⟩
 have T5 := Lib.hid (T4.out.cs fr5 cu5)
 have O5 := Lib.hid (own_fr O4.out fr5 (fun k hk e => by have := zAu O4.out k hk; omega))
 clear T4 O4 cu5 fr5
 by_cases h0 : x5 = 0
 ·subst h0
  go_wp2_with fail
  refine (cur_raw g _ T5.out.cur).mono ?_
  rintro e w6 ⟨x6, rfl, i6, cu6, fr6⟩
  have T6 := Lib.hid (T5.out.cs fr6 cu6)
  have O6 := Lib.hid (own_fr O5.out fr6 (fun k hk e => by have := zAu O5.out k hk; omega))
  clear T5 O5 cu6 fr6
  go_upto_region 10 with fail
  have k0 := zAb T6.out.bx 0 rfl
  have k1 := zAb T6.out.bx 1 rfl
  have k2 := zAb T6.out.bx 2 rfl
  have k3 := zAb T6.out.bx 3 rfl
  have k4 := zAb T6.out.bx 4 rfl
  have kf := zAh T6.out.bx
  have kl := zAg T6.out.bx
  simp only [zgc, zga, zgb] at k0 k1 k2 k3 k4
  have z0 := zAb T6.out.z0 0 rfl
  have z1 := zAb T6.out.z0 1 rfl
  have z2 := zAb T6.out.z0 2 rfl
  have z3 := zAb T6.out.z0 3 rfl
  have z4 := zAb T6.out.z0 4 rfl
  have zf := zAh T6.out.z0
  have zl := zAg T6.out.z0
  simp only [zgc, zga, zgb] at z0 z1 z2 z3 z4
  go_wp2
  (try go_light)
  refine bodyPost_ret (v := .tuple #[.agg #[.slice A n c, .slice B m1 d, .slice U nu cu, .slice R np cp, .slice L nl cl], .int .i64 x6, .slice D js.length e9, .int .i64 x4]) (by simp [results, Tryz.results51, go_sem, k0, k1, k2, k3, k4, kf, z0, z1, z2, z3, z4, zf]) rfl ?_
  exact ⟨⟨A, B, U, R, L, n, m1, nu, np, nl, c, d, cu, cp, cl⟩, x6, D, e9, js, x4, rfl, hjl, ⟨r, FW.out, xs, T6.out.own.box5 T6.out.z0 _ _ _ _ _⟩, own_set5 O6.out T6.out.z0 (by decide) _ _ _ _ _, RG.ret5c T6.out _ _ _ _ _, RG.ret5f T6.out _ _ _ _ _⟩
 by_cases h1 : x5 = 1
 ·subst h1
  go_wp2_with fail
  refine (cur_raw g _ T5.out.cur).mono ?_
  rintro e w6 ⟨x6, rfl, i6, cu6, fr6⟩
  have T6 := Lib.hid (T5.out.cs fr6 cu6)
  have O6 := Lib.hid (own_fr O5.out fr6 (fun k hk e => by have := zAu O5.out k hk; omega))
  clear T5 O5 cu6 fr6
  go_upto_region 10 with fail
  have k0 := zAb T6.out.bx 0 rfl
  have k1 := zAb T6.out.bx 1 rfl
  have k2 := zAb T6.out.bx 2 rfl
  have k3 := zAb T6.out.bx 3 rfl
  have k4 := zAb T6.out.bx 4 rfl
  have kf := zAh T6.out.bx
  have kl := zAg T6.out.bx
  simp only [zgc, zga, zgb] at k0 k1 k2 k3 k4
  have z0 := zAb T6.out.z0 0 rfl
  have z1 := zAb T6.out.z0 1 rfl
  have z2 := zAb T6.out.z0 2 rfl
  have z3 := zAb T6.out.z0 3 rfl
  have z4 := zAb T6.out.z0 4 rfl
  have zf := zAh T6.out.z0
  have zl := zAg T6.out.z0
  simp only [zgc, zga, zgb] at z0 z1 z2 z3 z4
  go_wp2
  (try go_light)
  refine bodyPost_ret (v := .tuple #[.agg #[.slice A n c, .slice B m1 d, .slice U nu cu, .slice R np cp, .slice L nl cl], .int .i64 x2, .slice D js.length e9, .int .i64 x6]) (by simp [results, Tryz.results51, go_sem, k0, k1, k2, k3, k4, kf, z0, z1, z2, z3, z4, zf]) rfl ?_
  exact ⟨⟨A, B, U, R, L, n, m1, nu, np, nl, c, d, cu, cp, cl⟩, x2, D, e9, js, x6, rfl, hjl, ⟨r, FW.out, xs, T6.out.own.box5 T6.out.z0 _ _ _ _ _⟩, own_set5 O6.out T6.out.z0 (by decide) _ _ _ _ _, RG.ret5c T6.out _ _ _ _ _, RG.ret5f T6.out _ _ _ _ _⟩
 go_upto_region 10 with fail
 have k0 := zAb T5.out.bx 0 rfl
 have k1 := zAb T5.out.bx 1 rfl
 have k2 := zAb T5.out.bx 2 rfl
 have k3 := zAb T5.out.bx 3 rfl
 have k4 := zAb T5.out.bx 4 rfl
 have kf := zAh T5.out.bx
 have kl := zAg T5.out.bx
 simp only [zgc, zga, zgb] at k0 k1 k2 k3 k4
 have z0 := zAb T5.out.z0 0 rfl
 have z1 := zAb T5.out.z0 1 rfl
 have z2 := zAb T5.out.z0 2 rfl
 have z3 := zAb T5.out.z0 3 rfl
 have z4 := zAb T5.out.z0 4 rfl
 have zf := zAh T5.out.z0
 have zl := zAg T5.out.z0
 simp only [zgc, zga, zgb] at z0 z1 z2 z3 z4
 go_wp2
 (try go_light)
 refine bodyPost_ret (v := .tuple #[.agg #[.slice A n c, .slice B m1 d, .slice U nu cu, .slice R np cp, .slice L nl cl], .int .i64 x2, .slice D js.length e9, .int .i64 x4]) (by simp [results, Tryz.results51, go_sem, k0, k1, k2, k3, k4, kf, z0, z1, z2, z3, z4, zf]) rfl ?_
 exact ⟨⟨A, B, U, R, L, n, m1, nu, np, nl, c, d, cu, cp, cl⟩, x2, D, e9, js, x4, rfl, hjl, ⟨r, FW.out, xs, T5.out.own.box5 T5.out.z0 _ _ _ _ _⟩, own_set5 O5.out T5.out.z0 (by decide) _ _ _ _ _, RG.ret5c T5.out _ _ _ _ _, RG.ret5f T5.out _ _ _ _ _⟩
set_option maxHeartbeats 16000000 in
set_option maxRecDepth 20000 in
theorem drawPlan_any (A0 : Option Addr) (n0 c0 : Nat) (w : World) (hn : n0 ≤ 1048576) (h : ByIn w A0 n0) :
  Calls Tryz.prog 11 #[.slice A0 n0 c0] w fun e w' => ∃ (a : RA) (now : Int) (D : Option Addr) (e9 : Nat) (js : List J) (depth : Int), e = .returned (.tuple #[RA.v a, .int .i64 now, .slice D js.length e9, .int .i64 depth]) ∧ js.length ≤ 8 ∧ (∃ r : Rm, r.few 12 ∧ ∃ xs, RoomOwn w' w.heap.size a r xs) ∧ w'.ownsRow w.heap.size 95 11 (.slice D js.length e9) js.length (jflat js) ∧ Below w.heap.size w w' := by
 have HB := Lib.hid h
 clear h
 go_enter Tryz.func11, Tryz.ntmps11
 go_wp2_with fail
 refine (cur_new A0 n0 c0 _ hn (HB.out.below (zAa w (.cells #[.slice none 0 0, .slice none 0 0, .slice none 0 0, .slice none 0 0, .slice none 0 0] 33)))).mono ?_
 rintro e w1 ⟨g, rfl, hg, cu1, hb1⟩
 have C1 := Lib.hid cu1
 have hg' : w.heap.size < g := by simp at hg; omega
 have hgl := cu1.lt
 have B1 := Lib.hid (zAc (zAa w (.cells #[.slice none 0 0, .slice none 0 0, .slice none 0 0, .slice none 0 0, .slice none 0 0] 33)) hb1)
 have X1 := Lib.hid (zAf (zAj (w := w) (.cells #[.slice none 0 0, .slice none 0 0, .slice none 0 0, .slice none 0 0, .slice none 0 0] 33) rfl) hb1)
 clear cu1 hb1 hg
 go_wp2_with fail
 refine (cur_plan g _ C1.out).mono ?_
 rintro e w2 ⟨a, now, D, e9, js, depth, rfl, hjl, ⟨r, hfw, xs, oa⟩, oj, -, fr2⟩
 obtain ⟨A, B, U, R, L, n, m1, nu, np, nl, c, d, cu, cp, cl⟩ := a
 dsimp only [RA.v]
 have hs1 := B1.out.size
 have B2 := Lib.hid (B1.out.trans (fr2.bel (B := w.heap.size) (fun k e => by omega) hs1))
 have X2 := Lib.hid (bx_fr X1.out fr2 (by omega))
 have XB := Lib.hid (zAs X2.out (.cells #[.slice A n c, .slice B m1 d, .slice U nu cu, .slice R np cp, .slice L nl cl] 33))
 have RB : Hid ((w2.alloc (.cells #[.slice A n c, .slice B m1 d, .slice U nu cu, .slice R np cp, .slice L nl cl] 33)).heap[w2.heap.size]? = some (.cells #[.slice A n c, .slice B m1 d, .slice U nu cu, .slice R np cp, .slice L nl cl] 33 (0, 0))) := Lib.hid (zAj _ rfl)
 have OA := Lib.hid ((oa.bel (zAa w2 (.cells #[.slice A n c, .slice B m1 d, .slice U nu cu, .slice R np cp, .slice L nl cl] 33))).mono hs1)
 have OJ := Lib.hid (zAm (zAe oj (zAa w2 (.cells #[.slice A n c, .slice B m1 d, .slice U nu cu, .slice R np cp, .slice L nl cl] 33))) hs1)
 have BB := Lib.hid (zAc B2.out (zAa w2 (.cells #[.slice A n c, .slice B m1 d, .slice U nu cu, .slice R np cp, .slice L nl cl] 33)))
 clear oa oj fr2 X1 X2 B1 B2 C1
 go_upto_region 3 with fail
 generalize w2.alloc (.cells #[.slice A n c, .slice B m1 d, .slice U nu cu, .slice R np cp, .slice L nl cl] 33) = w3 at *
 generalize w2.heap.size = br at *
 have k0 := zAb RB.out 0 rfl
 have k1 := zAb RB.out 1 rfl
 have k2 := zAb RB.out 2 rfl
 have k3 := zAb RB.out 3 rfl
 have k4 := zAb RB.out 4 rfl
 have kf := zAh RB.out
 have kl := zAg RB.out
 simp only [zgc, zga, zgb] at k0 k1 k2 k3 k4
 have z0 := zAb XB.out 0 rfl
 have z1 := zAb XB.out 1 rfl
 have z2 := zAb XB.out 2 rfl
 have z3 := zAb XB.out 3 rfl
 have z4 := zAb XB.out 4 rfl
 have zf := zAh XB.out
 have zl := zAg XB.out
 simp only [zgc, zga, zgb] at z0 z1 z2 z3 z4
 go_wp2
 (try go_light)
 refine bodyPost_ret (v := .tuple #[.agg #[.slice A n c, .slice B m1 d, .slice U nu cu, .slice R np cp, .slice L nl cl], .int .i64 now, .slice D js.length e9, .int .i64 depth]) (by simp [results, Tryz.results11, go_sem, k0, k1, k2, k3, k4, kf, z0, z1, z2, z3, z4, zf]) rfl ?_
 exact ⟨⟨A, B, U, R, L, n, m1, nu, np, nl, c, d, cu, cp, cl⟩, now, D, e9, js, depth, rfl, hjl, ⟨r, hfw, xs, OA.out.box5 XB.out _ _ _ _ _⟩, own_set5 OJ.out XB.out (by decide) _ _ _ _ _, bel_set5 BB.out (Nat.le_refl _) _ _ _ _ _⟩
end Go.Proofs.YtnphjhbfpoekpaaGreat
