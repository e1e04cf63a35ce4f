import Derived.Test.YtnphjhbfpoekpaaGreatGcPh
import Derived.Test.YtnphjhbfpoekpaaGreatDqPh
import Derived.Test.YtnphjhbfpoekpaaGreatDvPh
namespace Go.Proofs.YtnphjhbfpoekpaaGreat
set_option linter.unusedSimpArgs false
set_option linter.unusedVariables false
set_option linter.unnecessarySimpa false
open Go Go.RowKit
def gP (g lo : Nat) : Value → World → Prop := fun u w => ∃ (A : Option Addr) (c : Nat) (ps : List Q), u = .agg #[.slice A ps.length c] ∧ ps.length ≤ 12 ∧ w.ownsRow lo 177 4 (.slice A ps.length c) ps.length (flat ps) ∧ g < lo
theorem gP_fr {g lo : Nat} {u : Value} {w w' : World} (h : gP g lo u w) (hf : Fr (· = g) w w') : gP g lo u w' := by
 obtain ⟨A, c, ps, h1, h2, h3, h4⟩ := h
 exact ⟨A, c, ps, h1, h2, own_fr h3 hf (fun k hk e => by have := zAu h3 k hk; omega), h4⟩
theorem few_set {r : Rm} {m k : Nat} {ps : List Q} (h : r.few m) (hl : ps.length ≤ m) : ({ r with profs := r.profs.set k ps } : Rm).few m :=
 ⟨fun p hp => by rcases List.mem_or_eq_of_mem_set hp with h1 | h1; exact h.1 p h1; subst h1; exact hl, h.2⟩
set_option maxHeartbeats 16000000 in
set_option maxRecDepth 20000 in
theorem cur_anyRoom (g : Nat) (w : World) (h : Cur w g) :
  Calls Tryz.prog 131 #[.pointer (some ⟨g, 0, none⟩)] w fun e w' => ∃ a : RA, e = .returned (RA.v a) ∧ ∃ r : Rm, r.few 12 ∧ (∃ xs, RoomOwn w' w.heap.size a r xs) ∧ Cur w' g ∧ Fr (· = g) w w' := by
 have hgw := h.lt
 have C0 := Lib.hid (h.alloc (.cells #[.slice none 0 0, .slice none 0 0, .slice none 0 0, .slice none 0 0, .slice none 0 0] 33))
 have F0 := Lib.hid ((Fr.refl (· = g) w).alloc (.cells #[.slice none 0 0, .slice none 0 0, .slice none 0 0, .slice none 0 0, .slice none 0 0] 33))
 have XR0 : Hid ((w.alloc (.cells #[.slice none 0 0, .slice none 0 0, .slice none 0 0, .slice none 0 0, .slice none 0 0] 33)).heap[w.heap.size]? = some (.cells #[.slice none 0 0, .slice none 0 0, .slice none 0 0, .slice none 0 0, .slice none 0 0] 33 (0, 0))) := Lib.hid (zAj _ rfl)
 obtain ⟨iB, hiB, hzaB, hzbB, hzcB⟩ := info_parts infoB
 clear h
 go_enter Tryz.func131, Tryz.ntmps131
 go_wp2_with fail
 refine (cur_room g _ C0.out).mono ?_
 rintro e w1 ⟨a, rfl, r, ⟨hfw, hul⟩, ⟨xs, oa⟩, cu1, fr1⟩
 have C1 := Lib.hid cu1
 have F1 := Lib.hid ((F0.out).trans fr1)
 have XR1 := Lib.hid (bx_fr (XR0.out) fr1 (by omega))
 clear cu1 fr1 C0 F0 XR0
 obtain ⟨A, B, U, R, L, n, m1, nu, np, nl, c, d, cu, cp, cl⟩ := a
 dsimp only [RA.v]
 have hle1 : w.heap.size < w1.heap.size := zAg XR1.out
 have FW := Lib.hid hfw
 have FWU : Hid (nu ≤ 10) := Lib.hid (by have := oa.rd.lens.2.2.1; dsimp only at this; omega)
 have M1 : Hid (RG w (w1.alloc (.cells #[.slice A n c, .slice B m1 d, .slice U nu cu, .slice R np cp, .slice L nl cl] 33)) g w1.heap.size ⟨A, B, U, R, L, n, m1, nu, np, nl, c, d, cu, cp, cl⟩ r xs) := Lib.hid ⟨zAj _ rfl, (oa.mono (by simp)).bel (zAa _ _), C1.out.alloc _, F1.out.alloc _, ⟨hgw, hle1⟩, zAs XR1.out _⟩
 clear oa XR1 C1 F1 hfw hul
 go_wp2_with fail
 refine (zAt g 16 _ M1.out.cur (by omega) (by omega)).mono ?_
 rintro e w2 ⟨x2, rfl, p2, q2, cu2, fr2⟩
 have T2 : Hid (RG w w2 g w1.heap.size ⟨A, B, U, R, L, n, m1, nu, np, nl, c, d, cu, cp, cl⟩ r xs) := Lib.hid (M1.out.cs fr2 cu2)
 clear M1 cu2 fr2
 obtain ⟨b, hb⟩ : ∃ b, b = w1.heap.size := ⟨_, rfl⟩
 rw [← hb] at T2 ⊢
 have hwb : w.heap.size < b := by omega
 clear hb hle1
 have hnp9 : np ≤ 1048576 := T2.out.own.np
 have hnu9 : nu ≤ 1048576 := T2.out.own.nu
 by_cases h0 : x2 = 0
 ·subst h0
  go_wp2_with fail
  refine (cur_topoAny g _ T2.out.cur).mono ?_
  rintro e w3 ⟨A', B', c', d', ps', ns', rfl, hp', hn', oa', ob', cu3, fr3⟩
  have T3 : Hid (RG w w3 g b ⟨A, B, U, R, L, n, m1, nu, np, nl, c, d, cu, cp, cl⟩ r xs) := Lib.hid (T2.out.cs fr3 cu3)
  have T4 := Lib.hid (T3.out.topo oa' ob' T2.out.fr.size (by omega) (by omega))
  clear oa' ob' cu3 fr3 T2
  have k0 := zAb T3.out.bx 0 rfl
  have k1 := zAb T3.out.bx 1 rfl
  have k2 := zAb T3.out.bx 2 rfl
  have k3 := zAb T3.out.bx 3 rfl
  have k4 := zAb T3.out.bx 4 rfl
  have kf := zAh T3.out.bx
  have kl := zAg T3.out.bx
  simp only [zgc, zga, zgb] at k0 k1 k2 k3 k4
  go_upto_region 5 with fail
  clear k0 k1 k2 k3 k4 kf kl T3
  generalize (w3.setCell ⟨b, 0, none⟩ (.slice A' ps'.length c')).setCell ⟨b, 1, none⟩ (.slice B' ns'.length d') = w4 at *
  have k0 := zAb T4.out.bx 0 rfl
  have k1 := zAb T4.out.bx 1 rfl
  have k2 := zAb T4.out.bx 2 rfl
  have k3 := zAb T4.out.bx 3 rfl
  have k4 := zAb T4.out.bx 4 rfl
  have kf := zAh T4.out.bx
  have kl := zAg T4.out.bx
  simp only [zgc, zga, zgb] at k0 k1 k2 k3 k4
  have z0 := zAb T4.out.z0 0 rfl
  have z1 := zAb T4.out.z0 1 rfl
  have z2 := zAb T4.out.z0 2 rfl
  have z3 := zAb T4.out.z0 3 rfl
  have z4 := zAb T4.out.z0 4 rfl
  have zf := zAh T4.out.z0
  have zl := zAg T4.out.z0
  simp only [zgc, zga, zgb] at z0 z1 z2 z3 z4
  go_wp2
  (try go_light)
  refine bodyPost_ret (v := .agg #[.slice A' ps'.length c', .slice B' ns'.length d', .slice U nu cu, .slice R np cp, .slice L nl cl]) (by simp [results, Tryz.results131, go_sem, *]) rfl ?_
  exact ⟨⟨A', B', U, R, L, ps'.length, ns'.length, nu, np, nl, c', d', cu, cp, cl⟩, rfl, ({ r with par := ps', nodes := ns' } : Rm), few_mono (m := 9) ⟨FW.out.1, FW.out.2⟩ (by omega), ⟨xs, T4.out.own.box5 T4.out.z0 _ _ _ _ _⟩, RG.ret5c T4.out _ _ _ _ _, RG.ret5f T4.out _ _ _ _ _⟩
 by_cases h1 : x2 = 1
 ·subst h1
  go_wp2_with fail
  refine (cur_profAny g _ T2.out.cur).mono ?_
  rintro e w3 ⟨A', c', ps', rfl, hp', oa', cu3, fr3⟩
  have T3 : Hid (RG w w3 g b ⟨A, B, U, R, L, n, m1, nu, np, nl, c, d, cu, cp, cl⟩ r xs) := Lib.hid (T2.out.cs fr3 cu3)
  have T4 := Lib.hid (T3.out.lic oa' T2.out.fr.size (by omega) (fun i y hi b hb => T2.out.own.profs.ltx hi hb))
  clear oa' cu3 fr3 T2
  have k0 := zAb T3.out.bx 0 rfl
  have k1 := zAb T3.out.bx 1 rfl
  have k2 := zAb T3.out.bx 2 rfl
  have k3 := zAb T3.out.bx 3 rfl
  have k4 := zAb T3.out.bx 4 rfl
  have kf := zAh T3.out.bx
  have kl := zAg T3.out.bx
  simp only [zgc, zga, zgb] at k0 k1 k2 k3 k4
  go_upto_region 7 with fail
  clear k0 k1 k2 k3 k4 kf kl T3
  generalize w3.setCell ⟨b, 4, none⟩ (.slice A' ps'.length c') = w4 at *
  have k0 := zAb T4.out.bx 0 rfl
  have k1 := zAb T4.out.bx 1 rfl
  have k2 := zAb T4.out.bx 2 rfl
  have k3 := zAb T4.out.bx 3 rfl
  have k4 := zAb T4.out.bx 4 rfl
  have kf := zAh T4.out.bx
  have kl := zAg T4.out.bx
  simp only [zgc, zga, zgb] at k0 k1 k2 k3 k4
  have z0 := zAb T4.out.z0 0 rfl
  have z1 := zAb T4.out.z0 1 rfl
  have z2 := zAb T4.out.z0 2 rfl
  have z3 := zAb T4.out.z0 3 rfl
  have z4 := zAb T4.out.z0 4 rfl
  have zf := zAh T4.out.z0
  have zl := zAg T4.out.z0
  simp only [zgc, zga, zgb] at z0 z1 z2 z3 z4
  go_wp2
  (try go_light)
  refine bodyPost_ret (v := .agg #[.slice A n c, .slice B m1 d, .slice U nu cu, .slice R np cp, .slice A' ps'.length c']) (by simp [results, Tryz.results131, go_sem, *]) rfl ?_
  exact ⟨⟨A, B, U, R, A', n, m1, nu, np, ps'.length, c, d, cu, cp, c'⟩, rfl, ({ r with lics := ps' } : Rm), ⟨(few_mono FW.out (show 9 ≤ 12 by omega)).1, hp'⟩, ⟨xs, T4.out.own.box5 T4.out.z0 _ _ _ _ _⟩, RG.ret5c T4.out _ _ _ _ _, RG.ret5f T4.out _ _ _ _ _⟩
 by_cases h2 : x2 = 2
 ·subst h2
  by_cases hnp : 0 < np
  ·have hnp' : (0 : Int) < np := by omega
   obtain ⟨gR, u0, rfl, hu0, cz0⟩ := (zAn T2.out.own.profs.own).at_ hnp
   have hgb : gR ≠ b := zAk T2.out.own.profs.own T2.out.bx (by decide) gR rfl
   have hgg := zAu T2.out.own.profs.own gR rfl
   have hgl := own_lt T2.out.own.profs.own gR rfl
   have hgc : g < w2.heap.size := T2.out.cur.lt
   have HXL : Hid (∀ (i : Nat) y, xs[i]? = some y → ∀ b, y.ownBlock = some b → b < w2.heap.size) := Lib.hid (fun i y hi b hb => T2.out.own.profs.ltx hi hb)
   have HLL : Hid (∀ b, atB L b → b < w2.heap.size) := Lib.hid (fun b hb => own_lt T2.out.own.lics b (atB_own' hb))
   have k3 := zAb T2.out.bx 3 rfl
   have kf := zAh T2.out.bx
   have kl := zAg T2.out.bx
   simp only [zgc, zga, zgb] at k3
   clear hu0 cz0
   go_upto_region 8 with fail
   clear k3 kf kl
   refine wp_region_tail 4 (fun w9 => RG w w9 g b ⟨A, B, U, some ⟨gR, 0, none⟩, L, n, m1, nu, np, nl, c, d, cu, cp, cl⟩ r xs ∧ w2.heap.size ≤ w9.heap.size) (fun a b => Fr (· = g) a b) (by kernel_rfl) (by kernel_rfl) ⟨T2.out.bel ((Below.refl _ w2).drew), Nat.le_refl _⟩ ?_
   show Det _ _ _ _ _ _ (_ :: _ :: _ :: _ :: []) _ _
   refine Det.val ?_ rfl ?_ (fun _ => Fr.refl _ _) ?_
   rotate_left
   ·intro f w9 hJ
    skip
    go_simp
    with_reducible rfl
   (try simp only [putA, zgd, zgf, zge, zgg])
   refine Det.val ?_ rfl ?_ (fun _ => Fr.refl _ _) ?_
   rotate_left
   ·intro f w9 hJ
    have e9 := hJ.1.bx; have x3 := zAb e9 3 rfl; have xf := zAh e9; simp only [zgc, zga, zgb] at x3; clear e9
    go_simp
    with_reducible rfl
   (try simp only [putA, zgd, zgf, zge, zgg])
   refine Det.val ?_ rfl ?_ (fun _ => Fr.refl _ _) ?_
   rotate_left
   ·intro f w9 hJ
    skip
    go_simp
    with_reducible rfl
   (try simp only [putA, zgd, zgf, zge, zgg])
   refine Det.flo (gP g w2.heap.size) rfl rfl (fun _ _ _ h hb => gP_fr h hb) ?_ ?_
   ·intro f w9 K hJ hR hK
    have HK := Lib.hid hK
    clear hK hR
    go_simp
    go_at_call 190
    refine (cur_profAny g _ hJ.1.cur).mono ?_
    rintro e w10 ⟨A', c', ps', rfl, hp', oa', cu9, fr9⟩
    exact HK.out _ _ ⟨hJ.1.cs fr9 cu9, Nat.le_trans hJ.2 fr9.size⟩ fr9 ⟨A', c', ps', rfl, hp', zAm oa' hJ.2, hgc⟩
   (try simp only [putA, zgd, zgf, zge, zgg])
   refine Det.nil ?_
   intro f w9 hJ hR
   obtain ⟨A', c', ps', h30, hp', oa', -⟩ := hR (30, gP g w2.heap.size) (by simp [addF, dropF])
   clear hR
   simp only [h30]
   clear h30
   have T7 := Lib.hid hJ.1
   clear hJ T2
   have T8 := Lib.hid (T7.out.put (z := 0) (u := .slice A' ps'.length c') (ps := ps') (lo' := w2.heap.size) hnp oa' (by omega) (by omega) HXL.out HLL.out)
   obtain ⟨g8, u8, hg8, hu8, cz8⟩ := (zAn T7.out.own.profs.own).at_ hnp
   cases hg8
   have fz8 := own_frz T7.out.own.profs.own
   clear hu8 oa'
   show wpList _ _ _ (_ :: _ :: []) _ _
   go_upto_region 9 with fail
   clear cz8 fz8 T7
   generalize w9.setCell ⟨gR, 0, none⟩ (.slice A' ps'.length c') = w10 at *
   have k0 := zAb T8.out.bx 0 rfl
   have k1 := zAb T8.out.bx 1 rfl
   have k2 := zAb T8.out.bx 2 rfl
   have k3 := zAb T8.out.bx 3 rfl
   have k4 := zAb T8.out.bx 4 rfl
   have kf := zAh T8.out.bx
   have kl := zAg T8.out.bx
   simp only [zgc, zga, zgb] at k0 k1 k2 k3 k4
   have z0 := zAb T8.out.z0 0 rfl
   have z1 := zAb T8.out.z0 1 rfl
   have z2 := zAb T8.out.z0 2 rfl
   have z3 := zAb T8.out.z0 3 rfl
   have z4 := zAb T8.out.z0 4 rfl
   have zf := zAh T8.out.z0
   have zl := zAg T8.out.z0
   simp only [zgc, zga, zgb] at z0 z1 z2 z3 z4
   go_wp2
   (try go_light)
   refine bodyPost_ret (v := .agg #[.slice A n c, .slice B m1 d, .slice U nu cu, .slice (some ⟨gR, 0, none⟩) np cp, .slice L nl cl]) (by simp [results, Tryz.results131, go_sem, *]) rfl ?_
   exact ⟨⟨A, B, U, some ⟨gR, 0, none⟩, L, n, m1, nu, np, nl, c, d, cu, cp, cl⟩, rfl, ({ r with profs := r.profs.set 0 ps' } : Rm), few_set (few_mono FW.out (show 9 ≤ 12 by omega)) hp', ⟨_, T8.out.own.box5 T8.out.z0 _ _ _ _ _⟩, RG.ret5c T8.out _ _ _ _ _, RG.ret5f T8.out _ _ _ _ _⟩
  ·have hnp' : ¬ (0 : Int) < np := by omega
   have k0 := zAb T2.out.bx 0 rfl
   have k1 := zAb T2.out.bx 1 rfl
   have k2 := zAb T2.out.bx 2 rfl
   have k3 := zAb T2.out.bx 3 rfl
   have k4 := zAb T2.out.bx 4 rfl
   have kf := zAh T2.out.bx
   have kl := zAg T2.out.bx
   simp only [zgc, zga, zgb] at k0 k1 k2 k3 k4
   have z0 := zAb T2.out.z0 0 rfl
   have z1 := zAb T2.out.z0 1 rfl
   have z2 := zAb T2.out.z0 2 rfl
   have z3 := zAb T2.out.z0 3 rfl
   have z4 := zAb T2.out.z0 4 rfl
   have zf := zAh T2.out.z0
   have zl := zAg T2.out.z0
   simp only [zgc, zga, zgb] at z0 z1 z2 z3 z4
   go_wp2
   (try go_light)
   refine bodyPost_ret (v := .agg #[.slice A n c, .slice B m1 d, .slice U nu cu, .slice R np cp, .slice L nl cl]) (by simp [results, Tryz.results131, go_sem, *]) rfl ?_
   exact ⟨⟨A, B, U, R, L, n, m1, nu, np, nl, c, d, cu, cp, cl⟩, rfl, r, few_mono FW.out (by omega), ⟨xs, T2.out.own.box5 T2.out.z0 _ _ _ _ _⟩, RG.ret5c T2.out _ _ _ _ _, RG.ret5f T2.out _ _ _ _ _⟩
 by_cases h3 : x2 = 3
 ·subst h3
  have k0 := zAb T2.out.bx 0 rfl
  have k1 := zAb T2.out.bx 1 rfl
  have k2 := zAb T2.out.bx 2 rfl
  have k3 := zAb T2.out.bx 3 rfl
  have k4 := zAb T2.out.bx 4 rfl
  have kf := zAh T2.out.bx
  have kl := zAg T2.out.bx
  simp only [zgc, zga, zgb] at k0 k1 k2 k3 k4
  go_wp2_with (at_builtin; refine zAw rfl _ _ 27 rfl w.heap.size 4 iB (.bool false) 1 1 Tryz.underlying27 hiB hzaB hzbB hzcB rfl (by decide) (.slice U nu cu) nu (bools r.up) rfl ?ca (some ⟨w2.heap.size, 0, none⟩) 1 1 [.bool true] rfl (Or.inr ⟨_, rfl⟩) ?cb ?cc ?cd ?ce ?cf ?_)
  case ca => exact zAe T2.out.own.up (zAa _ _)
  case cb => exact zAn (own_lit (lo := 0) (cs := [.bool true]) (n := 1) (size := 1) (e := 4) (zAj _ rfl) rfl (by decide) (Nat.zero_le _))
  case cc => intro u hu; simp at hu; subst hu; rfl
  case cd => unfold maxLen; omega
  case ce => omega
  case cf => have := T2.out.fr.size; first | omega | (simp <;> omega)
  intro v5 w5 own5 hg5 hne5 hat5
  obtain ⟨X5, c5, rfl, -⟩ := zAq own5
  by_cases hnu : nu + 1 ≤ 1048576
  ·have T5 : Hid (RG w (w2.alloc (.cells #[.bool true] 4)) g b ⟨A, B, U, R, L, n, m1, nu, np, nl, c, d, cu, cp, cl⟩ r xs) := Lib.hid (T2.out.bel (zAa _ _))
   have T6 := Lib.hid (T5.out.up (x := true) hnu own5 hg5)
   have hx5 := zAp T5.out.bx hg5 (zAk T5.out.own.up T5.out.bx (by decide))
   have e5 := zAb hx5 2 rfl
   have f5 := zAh hx5
   have l5 := zAg hx5
   simp only [zgc, zga, zgb] at e5
   clear hx5 own5 hg5 hne5 hat5 T2 T5 k0 k1 k2 k3 k4 kf kl
   go_upto_region 11 with fail
   clear e5 f5 l5
   generalize w5.setCell ⟨b, 2, none⟩ (.slice X5 (nu + 1) c5) = w6 at *
   have k0 := zAb T6.out.bx 0 rfl
   have k1 := zAb T6.out.bx 1 rfl
   have k2 := zAb T6.out.bx 2 rfl
   have k3 := zAb T6.out.bx 3 rfl
   have k4 := zAb T6.out.bx 4 rfl
   have kf := zAh T6.out.bx
   have kl := zAg T6.out.bx
   simp only [zgc, zga, zgb] at k0 k1 k2 k3 k4
   have z0 := zAb T6.out.z0 0 rfl
   have z1 := zAb T6.out.z0 1 rfl
   have z2 := zAb T6.out.z0 2 rfl
   have z3 := zAb T6.out.z0 3 rfl
   have z4 := zAb T6.out.z0 4 rfl
   have zf := zAh T6.out.z0
   have zl := zAg T6.out.z0
   simp only [zgc, zga, zgb] at z0 z1 z2 z3 z4
   go_wp2
   (try go_light)
   refine bodyPost_ret (v := .agg #[.slice A n c, .slice B m1 d, .slice X5 (nu + 1) c5, .slice R np cp, .slice L nl cl]) (by simp [results, Tryz.results131, go_sem, *]) rfl ?_
   exact ⟨⟨A, B, X5, R, L, n, m1, nu + 1, np, nl, c, d, c5, cp, cl⟩, rfl, ({ r with up := r.up ++ [true] } : Rm), few_mono (m := 9) ⟨FW.out.1, FW.out.2⟩ (by omega), ⟨xs, T6.out.own.box5 T6.out.z0 _ _ _ _ _⟩, RG.ret5c T6.out _ _ _ _ _, RG.ret5f T6.out _ _ _ _ _⟩
  ·exfalso
   exact hnu (by have := FWU.out; omega)
 have k0 := zAb T2.out.bx 0 rfl
 have k1 := zAb T2.out.bx 1 rfl
 have k2 := zAb T2.out.bx 2 rfl
 have k3 := zAb T2.out.bx 3 rfl
 have k4 := zAb T2.out.bx 4 rfl
 have kf := zAh T2.out.bx
 have kl := zAg T2.out.bx
 simp only [zgc, zga, zgb] at k0 k1 k2 k3 k4
 have z0 := zAb T2.out.z0 0 rfl
 have z1 := zAb T2.out.z0 1 rfl
 have z2 := zAb T2.out.z0 2 rfl
 have z3 := zAb T2.out.z0 3 rfl
 have z4 := zAb T2.out.z0 4 rfl
 have zf := zAh T2.out.z0
 have zl := zAg T2.out.z0
 simp only [zgc, zga, zgb] at z0 z1 z2 z3 z4
 go_wp2
 (try go_light)
 refine bodyPost_ret (v := .agg #[.slice A n c, .slice B m1 d, .slice U nu cu, .slice R np cp, .slice L nl cl]) (by simp [results, Tryz.results131, go_sem, *]) rfl ?_
 exact ⟨⟨A, B, U, R, L, n, m1, nu, np, nl, c, d, cu, cp, cl⟩, rfl, r, few_mono FW.out (by omega), ⟨xs, T2.out.own.box5 T2.out.z0 _ _ _ _ _⟩, RG.ret5c T2.out _ _ _ _ _, RG.ret5f T2.out _ _ _ _ _⟩
end Go.Proofs.YtnphjhbfpoekpaaGreat
