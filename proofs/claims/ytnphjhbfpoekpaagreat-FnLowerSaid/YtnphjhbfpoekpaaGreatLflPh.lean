import Derived.Test.YtnphjhbfpoekpaaGreatLr0Ph
import Derived.Test.YtnphjhbfpoekpaaGreatHcPh
import Derived.Test.YtnphjhbfpoekpaaGreatApPh
import Derived.Deep.DeepCutAuto
namespace Go.Proofs.YtnphjhbfpoekpaaGreat
set_option linter.unusedSimpArgs false
set_option linter.unusedVariables false
set_option linter.unnecessarySimpa false
open Go.RowKit
theorem plS_no' {r : Rm} {now depth : Int} {js : List J} (h : planB r now js depth = false) : plS r now js depth = ⟨r, [], []⟩ := by unfold plS; rw [h]; rfl
theorem plS_yes' {r : Rm} {now depth : Int} {js : List J} (h : planB r now js depth = true) : plS r now js depth = planV r now js depth := by unfold plS; rw [if_pos h]
theorem own_addrL {w : World} {lo : Nat} {e : TypeId} {size : Nat} {A : Option Addr} {n c : Nat} {xs : List Value} (h : w.ownsRow lo e size (.slice A n c) n xs) : (A = none ∧ n = 0 ∧ c = 0) ∨ ∃ g, A = some ⟨g, 0, none⟩ := by
 rcases h.2 with ⟨h0, h1⟩ | ⟨g, cap, cur, hv, _⟩
 ·cases h0; exact Or.inl ⟨rfl, rfl, rfl⟩
 ·cases hv; exact Or.inr ⟨g, rfl⟩
theorem HH.mono9 {w : World} {lo lo' : Nat} {X Y : Option Addr} {c d : Nat} {ss tt : List Value} {s : PS} (h : HH w lo X c Y d ss tt s) (hl : lo' ≤ lo) : HH w lo' X c Y d ss tt s := ⟨h.st.mono hl, h.la.mono hl, h.row, h.far⟩
theorem jflat_oneL {js : List J} : ∀ u ∈ jflat js, u.oneCell' = true := by
 intro u hu
 simp only [jflat, List.mem_flatMap] at hu
 obtain ⟨j, -, hu⟩ := hu
 exact jcells_one j u hu
set_option maxHeartbeats 4000000 in
theorem sameInts_any (A A' : Option Addr) (n c c' : Nat) (zs : List Int) (w : World) (hn : n ≤ 1048577) (ha : Rd w A n 1 (ints zs)) (hb : Rd w A' n 1 (ints zs)) (hl : ∀ g, A = some ⟨g, 0, none⟩ → g < w.heap.size) (hl2 : ∀ g, A' = some ⟨g, 0, none⟩ → g < w.heap.size) :
  Calls Tryz.prog 46 #[.slice A n c, .slice A' n c'] w fun e w' => e = .returned (.bool true) ∧ Below w.heap.size w w' := by
 have hm : n ≤ 9223372036854775807 := by omega
 have HA := Lib.hid ha
 have HB := Lib.hid hb
 have HL := Lib.hid hl
 have HL2 := Lib.hid hl2
 clear hn ha hb hl hl2
 go_enter Tryz.func46, Tryz.ntmps46
 go_wp2
 go_loopw [13] (fun i wr => ∃ k : Nat, k ≤ n ∧ i = .int .i64 k ∧ Below w.heap.size w wr) (fun i _ => n - (intOf i).toNat)
 case atStart => exact ⟨0, Nat.zero_le _, rfl, Below.refl _ _⟩
 case round =>
  obtain ⟨k, hk, rfl, hbw⟩ := hrel
  obtain ⟨wo, rfl⟩ : ∃ x, x = wr := ⟨wr, rfl⟩
  have HBW := Lib.hid hbw
  by_cases hlt : k < n
  ·have hlt' : (k : Int) < n := by omega
   have hk0 : (0 : Int) ≤ (k : Int) := by omega
   obtain ⟨z, hz⟩ : ∃ z, zs[k]? = some z := ⟨_, zgh (by have := HA.out.ilen; omega)⟩
   obtain ⟨g, rfl, hc⟩ := (HA.out.below HL.out hbw).2 (by omega)
   obtain ⟨g', rfl, hc'⟩ := (HB.out.below HL2.out hbw).2 (by omega)
   have c0 : wo.cell? ⟨g, k, none⟩ = some (.int .i64 z) := hc k _ (by simp [ints, hz])
   have c1 : wo.cell? ⟨g', k, none⟩ = some (.int .i64 z) := hc' k _ (by simp [ints, hz])
   clear hc hc' hz hbw
   go_wp2
   go_quiet (fail)
   go_wp2
   exact ⟨⟨k + 1, by omega, by go_num, by have := HBW.out; repeat (first | exact Below.refl _ _ | assumption | (refine zAc ?_ (zAd _ _)) | exact zAc (by assumption) (by assumption) | (refine zAc ?_ (zAa _ _)) | (refine zAc ?_ (by assumption)) | (refine Below.setCell ?_ (by simp <;> omega) _) | refine Below.drew ?_)⟩, by simp [intOf]; omega⟩
  ·have hlt' : ¬ (k : Int) < n := by omega
   go_wp2
   go_ret
   exact ⟨rfl, hbw⟩
set_option maxHeartbeats 16000000 in
set_option maxRecDepth 20000 in
theorem law_flower_go (A0 : Option Addr) (n0 c0 : Nat) (w : World) (hn : n0 ≤ 1048576) (h : ByIn w A0 n0) :
  Calls Tryz.prog 9 #[.slice A0 n0 c0] w fun e w' => e = .returned (.bool true) ∧ Below w.heap.size w w' := by
 obtain ⟨iJ, hiJ, hzaJ, hzbJ, hzcJ⟩ := info_parts infoJ
 have HB := Lib.hid h
 have HN := Lib.hid hn
 have hn' : ¬ (1048576 : Int) < n0 := by omega
 clear h hn
 go_enter Tryz.func9, Tryz.ntmps9
 go_wp2_with fail
 refine (drawPlan_any A0 n0 c0 _ HN.out HB.out).mono ?_
 rintro e w1 ⟨a, now, D, e9, js, dp, rfl, hjl, ⟨r, hfw, xs, oa⟩, oj, hb1⟩
 obtain ⟨A, B, U, R, L, n, m, nu, np, nl, c, d, cu, cp, cl⟩ := a
 dsimp only [RA.v]
 have FW := Lib.hid hfw
 have RB0 : Hid ((w1.alloc (.cells #[.slice A n c, .slice B m d, .slice U nu cu, .slice R np cp, .slice L nl cl] 33)).heap[w1.heap.size]? = some (.cells #[.slice A n c, .slice B m d, .slice U nu cu, .slice R np cp, .slice L nl cl] 33 (0, 0))) := Lib.hid (zAj _ rfl)
 have O10 := Lib.hid (oa.bel (zAa w1 (.cells #[.slice A n c, .slice B m d, .slice U nu cu, .slice R np cp, .slice L nl cl] 33)))
 have OJ0 := Lib.hid (zAe oj (zAa w1 (.cells #[.slice A n c, .slice B m d, .slice U nu cu, .slice R np cp, .slice L nl cl] 33)))
 have BE0 := Lib.hid (zAc hb1 (zAa w1 (.cells #[.slice A n c, .slice B m d, .slice U nu cu, .slice R np cp, .slice L nl cl] 33)))
 obtain ⟨EB, hEB⟩ : ∃ y, planB r now js dp = y := ⟨_, rfl⟩
 obtain ⟨PV, hPV⟩ : ∃ y, plS r now js dp = y := ⟨_, rfl⟩
 have HEB := Lib.hid hEB
 have HPV := Lib.hid hPV
 have hp60 : PV.a.length ≤ 60 ∧ PV.b.length ≤ 60 := by rw [← hPV]; exact plS_len r now dp js
 clear oa oj hEB hPV hfw hb1
 go_upto_region 4 with fail
 obtain ⟨x3, hx3⟩ : ∃ y, y = w1.heap.size := ⟨_, rfl⟩
 rw [← hx3] at RB0 ⊢
 clear hx3
 generalize w1.alloc (.cells #[.slice A n c, .slice B m d, .slice U nu cu, .slice R np cp, .slice L nl cl] 33) = w1' at *
 have k0 := zAb RB0.out 0 rfl
 have k1 := zAb RB0.out 1 rfl
 have k2 := zAb RB0.out 2 rfl
 have k3 := zAb RB0.out 3 rfl
 have k4 := zAb RB0.out 4 rfl
 have kf := zAh RB0.out
 have kl := zAg RB0.out
 simp only [zgc, zga, zgb] at k0 k1 k2 k3 k4
 go_wp2_with fail
 refine (PlanH_any ⟨A, B, U, R, L, n, m, nu, np, nl, c, d, cu, cp, cl⟩ r xs _ now D js.length e9 _ js dp _ O10.out (by omega) OJ0.out).mono ?_
 rintro e w2 ⟨X, c2, Y, d2, ss, tt, rfl, hh2, hb2⟩
 rw [HPV.out] at hh2
 rw [HPV.out, HEB.out]
 have HH2 := Lib.hid hh2
 have RB2 := Lib.hid (zAf RB0.out hb2)
 have O12 := Lib.hid (O10.out.bel hb2)
 have OJ2 := Lib.hid (zAe OJ0.out hb2)
 have BE2 := Lib.hid (zAc BE0.out hb2)
 clear hh2 hb2 k0 k1 k2 k3 k4 kf kl
 have k0 := zAb RB2.out 0 rfl
 have k1 := zAb RB2.out 1 rfl
 have k2 := zAb RB2.out 2 rfl
 have k3 := zAb RB2.out 3 rfl
 have k4 := zAb RB2.out 4 rfl
 have kf := zAh RB2.out
 have kl := zAg RB2.out
 simp only [zgc, zga, zgb] at k0 k1 k2 k3 k4
 go_wp2_with fail
 refine (sPlanH_any ⟨A, B, U, R, L, n, m, nu, np, nl, c, d, cu, cp, cl⟩ r xs _ now D js.length e9 _ js dp _ O12.out (by omega) OJ2.out).mono ?_
 rintro e w3 ⟨X3, c3, Y3, d3, ss3, tt3, rfl, hh3, hb3⟩
 rw [HPV.out, HEB.out]
 have HH3 := Lib.hid (HH2.out.bel hb3)
 have RB3 := Lib.hid (zAf RB2.out hb3)
 have O13 := Lib.hid (O12.out.bel hb3)
 have OJ3 := Lib.hid (zAe OJ2.out hb3)
 have BE3 := Lib.hid (zAc BE2.out hb3)
 clear hh3 hb3 HH2 RB0 RB2 O10 O12 OJ0 OJ2 BE0 BE2 k0 k1 k2 k3 k4 kf kl
 cases EB with
 | false =>
  have hP := HPV.out
  rw [plS_no' HEB.out] at hP
  subst hP
  go_wp2
  go_ret
  exact ⟨rfl, BE3.out⟩
 | true =>
  obtain ⟨hro, hjo⟩ : r.okB = true ∧ queueB js = true := by
   have h9 := HEB.out
   simp only [planB, Bool.and_eq_true] at h9
   exact ⟨h9.1.1.1, h9.1.1.2⟩
  have HJO := Lib.hid hjo
  have hP : PV = planV r now js dp := by rw [← HPV.out, plS_yes' HEB.out]
  have HP := Lib.hid hP
  have hj60 : ¬ (js.length : Int) = 60 := by omega
  have hpa := hp60.1
  have hpb := hp60.2
  have LB4 : Hid ((w3.alloc (.cells #[.int .i64 999, .int .i64 0, .int .i64 1, .int .i64 0, .int .i64 0, .int .i64 0, .int .i64 0, .int .i64 0, .int .i64 0, .int .i64 1, .int .i64 24] 95)).heap[w3.heap.size]? = some (.cells #[.int .i64 999, .int .i64 0, .int .i64 1, .int .i64 0, .int .i64 0, .int .i64 0, .int .i64 0, .int .i64 0, .int .i64 0, .int .i64 1, .int .i64 24] 95 (0, 0))) := Lib.hid (zAj _ rfl)
  have HH4 := Lib.hid (HH3.out.bel (zAa w3 (.cells #[.int .i64 999, .int .i64 0, .int .i64 1, .int .i64 0, .int .i64 0, .int .i64 0, .int .i64 0, .int .i64 0, .int .i64 0, .int .i64 1, .int .i64 24] 95)))
  have RB4 := Lib.hid (zAs RB3.out (.cells #[.int .i64 999, .int .i64 0, .int .i64 1, .int .i64 0, .int .i64 0, .int .i64 0, .int .i64 0, .int .i64 0, .int .i64 0, .int .i64 1, .int .i64 24] 95))
  have O14 := Lib.hid (O13.out.bel (zAa w3 (.cells #[.int .i64 999, .int .i64 0, .int .i64 1, .int .i64 0, .int .i64 0, .int .i64 0, .int .i64 0, .int .i64 0, .int .i64 0, .int .i64 1, .int .i64 24] 95)))
  have OJ4 := Lib.hid (zAe OJ3.out (zAa w3 (.cells #[.int .i64 999, .int .i64 0, .int .i64 1, .int .i64 0, .int .i64 0, .int .i64 0, .int .i64 0, .int .i64 0, .int .i64 0, .int .i64 1, .int .i64 24] 95)))
  have BE4 := Lib.hid (zAc BE3.out (zAa w3 (.cells #[.int .i64 999, .int .i64 0, .int .i64 1, .int .i64 0, .int .i64 0, .int .i64 0, .int .i64 0, .int .i64 0, .int .i64 0, .int .i64 1, .int .i64 24] 95)))
  clear hP hjo HH3 RB3 O13 OJ3 BE3
  go_upto_region 11 with fail
  obtain ⟨bl, hbl9⟩ : ∃ y, y = w3.heap.size := ⟨_, rfl⟩
  rw [← hbl9] at LB4 ⊢
  clear hbl9
  generalize w3.alloc (.cells #[.int .i64 999, .int .i64 0, .int .i64 1, .int .i64 0, .int .i64 0, .int .i64 0, .int .i64 0, .int .i64 0, .int .i64 0, .int .i64 1, .int .i64 24] 95) = w4 at *
  go_wp2
  go_loopw [68] (fun i wr => ∃ q : Nat, q ≤ js.length ∧ i = .int .i64 q ∧ Below w4.heap.size w4 wr ∧ Hid (∀ (i : Nat) x, i < q → js[i]? = some x → x.id ≠ 999)) (fun i _ => js.length - (intOf i).toNat)
  case atStart => exact ⟨0, Nat.zero_le _, rfl, Below.refl _ _, Lib.hid (fun i x h => absurd h (by omega))⟩
  case round =>
  obtain ⟨q, hq, rfl, hbw, hid⟩ := hrel
  obtain ⟨wq, rfl⟩ : ∃ x, x = wr := ⟨wr, rfl⟩
  have HBW := Lib.hid hbw
  clear hbw
  by_cases hlt : q < js.length
  ·have hlt' : (q : Int) < js.length := by omega
   obtain ⟨g, j, rfl, hj, y0, y1, y2, y3, y4, y5, y6, y7, y8, y9, y10⟩ := (zAn (zAe OJ4.out HBW.out)).j hlt
   have HJ := Lib.hid hj
   clear hj
   by_cases h999 : j.id = 999
   ·rw [h999] at y0
    go_wp2_with fail
    refine (queueOk_any (some ⟨g, 0, none⟩) js.length e9 js _ (by omega) (zAn (zAe (zAe OJ4.out HBW.out) (zAa _ _))) (zAz (zAe (zAe OJ4.out HBW.out) (zAa _ _))) (own_cap9 OJ4.out).1 (own_cap9 OJ4.out).2).mono ?_
    rintro e w5 ⟨rfl, hb5⟩
    rw [HJO.out]
    have B5 := Lib.hid (zAc (zAc (zAc BE4.out HBW.out) (zAa _ _)) hb5)
    clear hb5
    go_wp2
    go_ret
    exact ⟨rfl, B5.out⟩
   ·go_wp2
    refine ⟨⟨q + 1, by omega, by go_num, zAc HBW.out (zAa _ _), Lib.hid (fun i x hi hx => ?_)⟩, by simp [intOf]; omega⟩
    by_cases hiq : i < q
    ·exact hid.out i x hiq hx
    ·obtain rfl : i = q := by omega
     rw [HJ.out] at hx
     obtain rfl := Option.some.inj hx
     exact h999
  ·obtain rfl : q = js.length := by omega
   have hlt' : ¬ ((js.length : Nat) : Int) < js.length := by omega
   obtain ⟨pl1, x, y, pl2, pl3, pl4⟩ := plan_low HEB.out (by omega) (fun j hj => by
    obtain ⟨i, hi, rfl⟩ := List.getElem_of_mem hj
    exact hid.out i _ hi (zgh hi))
   obtain ⟨PW, hPW⟩ : ∃ y, plS r now (js ++ [lowJ]) dp = y := ⟨_, rfl⟩
   have HPW := Lib.hid hPW
   have PL1 := Lib.hid pl1
   have PLA : Hid (PW.a = PV.a ++ x) := Lib.hid (by rw [← hPW, plS_yes' pl1, pl2, HP.out])
   have PLB : Hid (PW.b = PV.b ++ y) := Lib.hid (by rw [← hPW, plS_yes' pl1, pl3, HP.out])
   have hla : PW.a.length = PV.a.length + x.length := by rw [PLA.out, List.length_append]
   have hlb : PW.b.length = PV.b.length + y.length := by rw [PLB.out, List.length_append]
   have q1 : ¬ ((PW.a.length : Nat) : Int) < PV.a.length := by omega
   have q2 : ¬ ((PW.b.length : Nat) : Int) < PV.b.length := by omega
   have q3 : ¬ ((PV.a.length : Int) + PV.b.length + 1 < (PW.a.length : Int) + PW.b.length) := by omega
   have hwa : PW.a.length ≤ 61 := by omega
   have hwb : PW.b.length ≤ 61 := by omega
   have HLA := Lib.hid hla
   have HLB := Lib.hid hlb
   have HH5 := Lib.hid (HH4.out.bel HBW.out)
   have RB5 := Lib.hid (zAf RB4.out HBW.out)
   have LB5 := Lib.hid (zAf LB4.out HBW.out)
   have O15 := Lib.hid (O14.out.bel HBW.out)
   have OJ5 := Lib.hid (zAe OJ4.out HBW.out)
   have BE5 := Lib.hid (zAc BE4.out HBW.out)
   have hx3 := zAg RB5.out
   have hbl := zAg LB5.out
   clear HH4 RB4 LB4 O14 OJ4 BE4 HBW pl1 pl2 pl3 hPW hla hlb hid
   have k0 := zAb RB5.out 0 rfl
   have k1 := zAb RB5.out 1 rfl
   have k2 := zAb RB5.out 2 rfl
   have k3 := zAb RB5.out 3 rfl
   have k4 := zAb RB5.out 4 rfl
   have kf := zAh RB5.out
   have kl := zAg RB5.out
   simp only [zgc, zga, zgb] at k0 k1 k2 k3 k4
   have v0 := zAb LB5.out 0 rfl
   have v1 := zAb LB5.out 1 rfl
   have v2 := zAb LB5.out 2 rfl
   have v3 := zAb LB5.out 3 rfl
   have v4 := zAb LB5.out 4 rfl
   have v5 := zAb LB5.out 5 rfl
   have v6 := zAb LB5.out 6 rfl
   have v7 := zAb LB5.out 7 rfl
   have v8 := zAb LB5.out 8 rfl
   have v9 := zAb LB5.out 9 rfl
   have v10 := zAb LB5.out 10 rfl
   have vf := zAh LB5.out
   have vl := zAg LB5.out
   simp only [zgc, zga, zgb] at v0 v1 v2 v3 v4 v5 v6 v7 v8 v9 v10
   go_upto_region 17 with fail
   go_cut [16, 17, 18] (fun p9 q9 r9 wr => ∃ (X8 : Option Addr) (c8 : Nat) (Y8 : Option Addr) (d8 : Nat) (ss8 tt8 : List Value), p9 = .slice X8 PW.a.length c8 ∧ q9 = .slice Y8 PW.b.length d8 ∧ r9 = .bool true ∧ HH wr wq.heap.size X8 c8 Y8 d8 ss8 tt8 PW ∧ Below wq.heap.size wq wr)
   case first =>
    go_region_held3 (fun w' => w'.cell? ⟨x3, 0, none⟩ = some (.slice A n c) ∧ w'.cell? ⟨x3, 1, none⟩ = some (.slice B m d) ∧ w'.cell? ⟨x3, 2, none⟩ = some (.slice U nu cu) ∧ w'.cell? ⟨x3, 3, none⟩ = some (.slice R np cp) ∧ w'.cell? ⟨x3, 4, none⟩ = some (.slice L nl cl) ∧ w'.cell? ⟨bl, 0, none⟩ = some (.int .i64 999) ∧ w'.cell? ⟨bl, 1, none⟩ = some (.int .i64 0) ∧ w'.cell? ⟨bl, 2, none⟩ = some (.int .i64 1) ∧ w'.cell? ⟨bl, 3, none⟩ = some (.int .i64 0) ∧ w'.cell? ⟨bl, 4, none⟩ = some (.int .i64 0) ∧ w'.cell? ⟨bl, 5, none⟩ = some (.int .i64 0) ∧ w'.cell? ⟨bl, 6, none⟩ = some (.int .i64 0) ∧ w'.cell? ⟨bl, 7, none⟩ = some (.int .i64 0) ∧ w'.cell? ⟨bl, 8, none⟩ = some (.int .i64 0) ∧ w'.cell? ⟨bl, 9, none⟩ = some (.int .i64 1) ∧ w'.cell? ⟨bl, 10, none⟩ = some (.int .i64 24)) (simp [go_sem, *, World.cell?_alloc_some, World.cell?_setCell_far, Nat.lt_add_right, Nat.ne_of_gt]) (first | (go_at_call 12; refine (PlanH_any ⟨A, B, U, R, L, n, m, nu, np, nl, c, d, cu, cp, cl⟩ r xs _ now X7 (js.length + 1) c7 _ (js ++ [lowJ]) dp _ (O15.out.bel B7.out) (by omega) O7.out).mono ?_; rintro e w8 ⟨X8, c8, Y8, d8, ss8, tt8, rfl, hh8, hb8⟩; rw [HPW.out] at hh8; rw [HPW.out, PL1.out]; have HH8 := Lib.hid (hh8.mono9 (lo' := wq.heap.size) (by have := B7.out.size; omega)); have B8 := Lib.hid (show Below wq.heap.size wq w8 from zAc B7.out hb8); have hk8 := fun o => B8.out.cell (p := ⟨x3, o, none⟩) hx3; have hf8 := fun o => B8.out.frozen (p := ⟨x3, o, none⟩) hx3; have hj8 := fun o => B8.out.cell (p := ⟨bl, o, none⟩) hbl; have hi8 := fun o => B8.out.frozen (p := ⟨bl, o, none⟩) hbl; have hs8 := B8.out.size; clear hb8 hh8) | (rw [if_pos (by rfl)]; refine wp_append_lit _ _ 34 rfl wq.heap.size 95 iJ (.agg #[.int .i64 0, .int .i64 0, .int .i64 0, .int .i64 0, .int .i64 0, .int .i64 0, .int .i64 0, .int .i64 0, .int .i64 0, .int .i64 0, .int .i64 0]) 11 88 Tryz.underlying34 hiJ hzaJ hzbJ hzcJ rfl (by decide) _ rfl (by first | with_reducible exact bx_drew (zAj _ rfl) | exact bx_drew (zAj _ (by simp)) | exact bx_drew (zAs (zAj _ rfl) _) | exact zAj _ rfl) zOm D js.length e9 (jflat js) rfl (own_addrL OJ5.out) (zAn (zAe OJ5.out zBe)) jflat_oneL (by unfold maxLen; omega) (by omega) zOm ?_; intro v6 w6 own6 hb6; have B6 := Lib.hid (show Below wq.heap.size wq w6 from zAc zBe hb6); (try (have JL6 : Hid (w6.heap[wq.heap.size + 1]? = some (.cells #[.int .i64 999, .int .i64 0, .int .i64 1, .int .i64 0, .int .i64 0, .int .i64 0, .int .i64 0, .int .i64 0, .int .i64 0, .int .i64 1, .int .i64 24] 95 (0, 0))) := Lib.hid (zAf (bx_drew (zAj _ (by simp))) hb6))); (try (have JL6 : Hid (w6.heap[wq.heap.size]? = some (.cells #[.int .i64 999, .int .i64 0, .int .i64 1, .int .i64 0, .int .i64 0, .int .i64 0, .int .i64 0, .int .i64 0, .int .i64 0, .int .i64 1, .int .i64 24] 95 (0, 0))) := Lib.hid (zAf (bx_drew (zAs (zAj _ rfl) _)) hb6))); obtain ⟨X6, c6, rfl, _⟩ := zAq own6; have O6 := Lib.hid own6; have hk6 := fun o => B6.out.cell (p := ⟨x3, o, none⟩) hx3; have hf6 := fun o => B6.out.frozen (p := ⟨x3, o, none⟩) hx3; have hj6 := fun o => B6.out.cell (p := ⟨bl, o, none⟩) hbl; have hi6 := fun o => B6.out.frozen (p := ⟨bl, o, none⟩) hbl; have hs6 := B6.out.size; clear own6 hb6) | (rw [if_pos (by rfl)]; refine wp_append_row _ _ 34 rfl wq.heap.size 95 iJ (.agg #[.int .i64 0, .int .i64 0, .int .i64 0, .int .i64 0, .int .i64 0, .int .i64 0, .int .i64 0, .int .i64 0, .int .i64 0, .int .i64 0, .int .i64 0]) 11 88 Tryz.underlying34 hiJ hzaJ hzbJ hzcJ rfl (by decide) (.slice X6 js.length c6) js.length (jflat js) rfl (by first | exact O6.out | exact zAe O6.out (zAa _ _)) _ 1 1 lowJ.cells rfl (Or.inr ⟨_, rfl⟩) (by first | exact jown_rd (j := lowJ) (zAj _ rfl) | exact jown_rd (j := lowJ) JL6.out) (jcells_one lowJ) (by unfold maxLen; omega) (by omega) (by first | exact B6.out.size | exact (zAc B6.out (zAa _ _)).size) ?_; intro v7 w7 own7 hg7 _ _; have B7 := Lib.hid (show Below wq.heap.size wq w7 from Below.grown (by first | exact B6.out | exact zAc B6.out (zAa _ _)) hg7 (by first | exact B6.out.size | exact (zAc B6.out (zAa _ _)).size) (zAu O6.out)); obtain ⟨X7, c7, rfl, _⟩ := zAq own7; have O7 : Hid (w7.ownsRow wq.heap.size 95 11 (.slice X7 (js.length + 1) c7) (js.length + 1) (jflat (js ++ [lowJ]))) := Lib.hid (by rw [jflat_snocQ]; exact own7); have hk7 := fun o => B7.out.cell (p := ⟨x3, o, none⟩) hx3; have hf7 := fun o => B7.out.frozen (p := ⟨x3, o, none⟩) hx3; have hj7 := fun o => B7.out.cell (p := ⟨bl, o, none⟩) hbl; have hi7 := fun o => B7.out.frozen (p := ⟨bl, o, none⟩) hbl; have hs7 := B7.out.size; clear own7 hg7))
    all_goals (go_wp2; go_meet)
    all_goals exact ⟨_, _, _, _, _, _, rfl, rfl, rfl, HH8.out, B8.out⟩
   case rest =>
    obtain ⟨w8, rfl⟩ : ∃ x, x = wc := ⟨wc, rfl⟩
    obtain ⟨X8, c8, Y8, d8, ss8, tt8, rfl, rfl, rfl, hh8, hb8⟩ := hcut
    have HH8 := Lib.hid hh8
    have HH9 := Lib.hid (HH5.out.bel hb8)
    have BE8 := Lib.hid (zAc BE5.out hb8)
    clear hh8 hb8 RB5 LB5 O15 OJ5 HH5 BE5 k0 k1 k2 k3 k4 kf kl v0 v1 v2 v3 v4 v5 v6 v7 v8 v9 v10 vf vl
    go_wp2
    go_loopw [124] (fun i wr => ∃ q : Nat, q ≤ PV.a.length ∧ i = .int .i64 q ∧ Below w8.heap.size w8 wr) (fun i _ => PV.a.length - (intOf i).toNat)
    case atStart => exact ⟨0, Nat.zero_le _, rfl, Below.refl _ _⟩
    case round =>
    obtain ⟨q, hq, rfl, hbw⟩ := hrel
    obtain ⟨wo, rfl⟩ : ∃ x, x = wr := ⟨wr, rfl⟩
    have HBW := Lib.hid hbw
    clear hbw
    by_cases hlt : q < PV.a.length
    ·have hlt2 : (q : Int) < PV.a.length := by omega
     have hlt3 : (q : Int) < PW.a.length := by omega
     have hq0 : (0 : Int) ≤ (q : Int) := by omega
     obtain ⟨g, p, X9, d9, rfl, hp, hx, l9, o9, hg, e0, e1, e2⟩ := (HH9.out.bel HBW.out).st.row hlt
     obtain ⟨g', p', X9', d9', rfl, hp', hx', l9', o9', hg', e0', e1', e2'⟩ := (HH8.out.bel HBW.out).st.row (show q < PW.a.length by omega)
     obtain rfl : p = p' := by
      rw [PLA.out, List.getElem?_append_left hlt, hp] at hp'
      exact Option.some.inj hp'
     have O1 := Lib.hid o9
     have O2 := Lib.hid o9'
     clear hp hp' hx hx' o9 o9' l9'
     go_wp2_with fail
     go_region_held3 (fun w' => w'.cell? ⟨g, q * 3, none⟩ = some (.int .i64 p.id) ∧ w'.cell? ⟨g, q * 3 + 2, none⟩ = some (.slice X9 p.nd.length d9) ∧ w'.cell? ⟨g', q * 3, none⟩ = some (.int .i64 p.id) ∧ w'.cell? ⟨g', q * 3 + 2, none⟩ = some (.slice X9' p.nd.length d9')) (simp [go_sem, *, World.cell?_alloc_some, World.cell?_setCell_far, Nat.lt_add_right, Nat.ne_of_gt]) (first | (go_at_call 46; refine (sameInts_any X9' X9 p.nd.length d9' d9 p.nd _ (by omega) (zAn (zAe O2.out ((Below.refl _ wo).drew))) (zAn (zAe O1.out ((Below.refl _ wo).drew))) (zAz (zAe O2.out ((Below.refl _ wo).drew))) (zAz (zAe O1.out ((Below.refl _ wo).drew)))).mono ?_; rintro e w9 ⟨rfl, hb9⟩; have hs9 := hb9.size; (try simp at hs9); have z0 := fun o => hb9.cell (p := ⟨g, o, none⟩) zOm; have z1 := fun o => hb9.cell (p := ⟨g', o, none⟩) zOm))
     all_goals have B9 := Lib.hid (zAc HBW.out (show Below wo.heap.size wo w9 from zAc ((Below.refl wo.heap.size wo).drew) hb9))
     all_goals clear hb9 z0 z1 hs9
     all_goals go_wp2
     all_goals exact ⟨⟨q + 1, by omega, by go_num, B9.out⟩, by simp [intOf]; omega⟩
    ·obtain rfl : q = PV.a.length := by omega
     have hlt2 : ¬ ((PV.a.length : Nat) : Int) < PV.a.length := by omega
     have HHa := Lib.hid (HH9.out.bel HBW.out)
     have HHb := Lib.hid (HH8.out.bel HBW.out)
     have BE9 := Lib.hid (zAc BE8.out HBW.out)
     clear HH8 HH9 BE8 HBW
     go_wp2
     go_loopw [155] (fun i wr => ∃ q : Nat, q ≤ PV.b.length ∧ i = .int .i64 q ∧ Below wo.heap.size wo wr) (fun i _ => PV.b.length - (intOf i).toNat)
     case atStart => exact ⟨0, Nat.zero_le _, rfl, Below.refl _ _⟩
     case round =>
     obtain ⟨q, hq, rfl, hbw⟩ := hrel
     obtain ⟨wp, rfl⟩ : ∃ x, x = wr := ⟨wr, rfl⟩
     have HBW := Lib.hid hbw
     clear hbw
     by_cases hlt : q < PV.b.length
     ·have hlt4 : (q : Int) < PV.b.length := by omega
      have hlt5 : (q : Int) < PW.b.length := by omega
      have hq0 : (0 : Int) ≤ (q : Int) := by omega
      obtain ⟨g, p, X9, d9, rfl, hp, hx, l9, o9, hg, e0, e1, e2⟩ := (HHa.out.bel HBW.out).la.row hlt
      obtain ⟨g', p', X9', d9', rfl, hp', hx', l9', o9', hg', e0', e1', e2'⟩ := (HHb.out.bel HBW.out).la.row (show q < PW.b.length by omega)
      obtain rfl : p = p' := by
       rw [PLB.out, List.getElem?_append_left hlt, hp] at hp'
       exact Option.some.inj hp'
      clear hp hp' hx hx' o9 o9' l9 l9' e2 e2'
      go_wp2
      go_quiet (fail)
      go_wp2
      exact ⟨⟨q + 1, by omega, by go_num, by have := HBW.out; repeat (first | exact Below.refl _ _ | assumption | (refine zAc ?_ (zAd _ _)) | exact zAc (by assumption) (by assumption) | (refine zAc ?_ (zAa _ _)) | (refine zAc ?_ (by assumption)) | (refine Below.setCell ?_ (by simp <;> omega) _) | refine Below.drew ?_)⟩, by simp [intOf]; omega⟩
     ·obtain rfl : q = PV.b.length := by omega
      have hlt4 : ¬ ((PV.b.length : Nat) : Int) < PV.b.length := by omega
      go_wp2
      go_ret
      exact ⟨rfl, zAc BE9.out HBW.out⟩
set_option maxRecDepth 20000 in
theorem law_flower (A : Option Addr) (n c : Nat) (w : World) (hn : n ≤ maxLen) (h : ByIn w A n) :
  Calls Tryz.prog 9 #[.slice A n c] w fun e w' => e = .returned (.bool true) ∧ Below w.heap.size w w' := by
 by_cases hs : n ≤ 1048576
 ·exact law_flower_go A n c w hs h
 ·have hs' : (1048576 : Int) < n := by omega
  unfold maxLen at hn
  go_enter Tryz.func9, Tryz.ntmps9
  go_wp2
  go_ret
  exact ⟨rfl, Below.refl _ _⟩
end Go.Proofs.YtnphjhbfpoekpaaGreat
