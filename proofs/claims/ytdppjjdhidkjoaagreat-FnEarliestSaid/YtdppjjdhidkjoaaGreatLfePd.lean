import Derived.Test.YtdppjjdhidkjoaaGreatGePd
import Derived.Test.YtdppjjdhidkjoaaGreatLr0Pd
import Derived.Test.YtdppjjdhidkjoaaGreatCkPd
namespace Go.Proofs.YtdppjjdhidkjoaaGreat
set_option linter.unusedSimpArgs false
set_option linter.unusedVariables false
set_option linter.unnecessarySimpa false
open Go.RowKit
theorem earl_span {r : Rm} {j : J} {f t : Int} {nd : List Int} (h : earlV r j f = some (t, nd)) : 0 ≤ f ∧ f ≤ t ∧ t + j.wl ≤ 1000000000 ∧ 1 ≤ j.wl ∧ j.wl ≤ 1000000 := by
  obtain ⟨hr, hj, hf, hft, ht, _⟩ := earl_some h
  obtain ⟨w1, w2, _⟩ := job_wl hj
  simp only [timeB, inB, Bool.and_eq_true, decide_eq_true_eq] at hf
  exact ⟨hf.1, hft, (try_some hr (by omega) hj ht).1, w1, w2⟩
theorem earl_no {r : Rm} {j : J} {f t u : Int} {nd : List Int} (h : earlV r j f = some (t, nd)) (h1 : f ≤ u) (h2 : u < t) (hc : chB_ r.par r.nodes (EligV r j.need u (u + j.wl)) j.nn j.lv = true) :
    fitV j.lic (minVv r.lics u (u + j.wl)) = false := by
  obtain ⟨f0, ft, tw, l0, l1⟩ := earl_span h
  obtain ⟨hr, hj, hf, _, _, _⟩ := earl_some h
  obtain ⟨_, _, n1, n2, nok, lok⟩ := job_wl hj
  have hs : spanB u (u + j.wl) = true := by simp [spanB, timeB, inB]; omega
  have hl := (room_parts hr).2.2.2.2
  have hno := earl_least h h1 h2
  have he : EligV r j.need u (u + j.wl) = eligV r j.need u (u + j.wl) := by unfold EligV; rw [hr, nok, hs]; rfl
  have hm : minVv r.lics u (u + j.wl) = leastV u (u + j.wl) r.lics := by unfold minVv minB; rw [hl, hs]; rfl
  rw [he] at hc
  rw [hm]
  obtain ⟨e1, e2, e3, e4, e5⟩ := elig_in (r := r) (j := j) (t := u) (u := u + j.wl) hr
  have hch : (chooseV r.par r.nodes (eligV r j.need u (u + j.wl)) j.nn.toNat j.lv).isSome = true := by
    have h9 : ChooseV r.par r.nodes (eligV r j.need u (u + j.wl)) j.nn j.lv = chooseV r.par r.nodes (eligV r j.need u (u + j.wl)) j.nn.toNat j.lv := by
      unfold ChooseV; rw [e1, e3, decide_eq_true n1]; rfl
    have h8 : (ChooseV r.par r.nodes (eligV r j.need u (u + j.wl)) j.nn j.lv).isSome = true := hc
    rw [h9] at h8; exact h8
  cases hf9 : fitV j.lic (leastV u (u + j.wl) r.lics)
  · rfl
  · exfalso
    unfold tryV at hno
    rw [if_pos ⟨by omega, hf9⟩] at hno
    rw [hno] at hch
    cases hch
theorem earl_level {r : Rm} {j : J} {f t : Int} {nd : List Int} (h : earlV r j f = some (t, nd)) :
    levelV r.par r.nodes (lowestV r.par r.nodes nd) ≤ j.lv ∧ (nd.length : Int) = j.nn := by
  obtain ⟨f0, ft, tw, l0, l1⟩ := earl_span h
  obtain ⟨hr, hj, hf, _, ht, _⟩ := earl_some h
  obtain ⟨_, _, n1, n2, nok, lok⟩ := job_wl hj
  obtain ⟨_, _, _, _, _, hch⟩ := try_some hr (by omega) hj ht
  obtain ⟨e1, e2, e3, e4, e5⟩ := elig_in (r := r) (j := j) (t := t) (u := t + j.wl) hr
  obtain ⟨a1, b, b1, b2, b3, b4⟩ := choose_low e1 e2 (by omega) hch
  obtain ⟨b', _, _, _, hlen, _⟩ := choose_some e2 hch
  have htop := (room_parts hr).1
  have hB : hasB r.par r.nodes (b : Int) = true := by unfold hasB; rw [htop]; simp; omega
  have hlev : levelV r.par r.nodes (b : Int) = lev r.par b := by unfold levelV; rw [hB]; simp
  rw [b1, hlev]
  exact ⟨b3, by omega⟩

set_option maxHeartbeats 16000000 in
set_option maxRecDepth 20000 in
theorem law_fearl_go (A0 : Option Addr) (n0 c0 : Nat) (w : World) (hn : n0 ≤ 1048576) (h : ByIn w A0 n0) :
    Calls Tryz.prog 3 #[.slice A0 n0 c0] w fun e w' => e = .returned (.bool true) ∧ Below w.heap.size w w' := by
  have HB := Lib.hid h
  have HN := Lib.hid hn
  have hn' : ¬ (1048576 : Int) < n0 := by omega
  clear h hn
  go_enter Tryz.func3, Tryz.ntmps3
  go_wp2_with fail
  refine (drawEarliest_any A0 n0 c0 _ HN.out HB.out).mono ?_
  rintro e w1 ⟨a, j, f, rfl, ⟨r, hfw, xs, oa⟩, hb1⟩
  obtain ⟨A, B, U, R, L, n, m, nu, np, nl, c, d, cu, cp, cl⟩ := a
  dsimp only [RA.v]
  have FW := Lib.hid hfw
  have RB0 : Hid (((w1.alloc (.cells #[.slice A n c, .slice B m d, .slice U nu cu, .slice R np cp, .slice L nl cl] 33)).alloc (.cells #[.int .i64 j.id, .int .i64 j.pr, .int .i64 j.nn, .int .i64 j.na, .int .i64 j.nb, .int .i64 j.nc, .int .i64 j.la, .int .i64 j.lb, .int .i64 j.lc, .int .i64 j.wl, .int .i64 j.lv] 37)).heap[w1.heap.size]? = some (.cells #[.slice A n c, .slice B m d, .slice U nu cu, .slice R np cp, .slice L nl cl] 33 (0, 0))) := Lib.hid (zAr (zAl _ rfl) _)
  have JB0 : Hid (((w1.alloc (.cells #[.slice A n c, .slice B m d, .slice U nu cu, .slice R np cp, .slice L nl cl] 33)).alloc (.cells #[.int .i64 j.id, .int .i64 j.pr, .int .i64 j.nn, .int .i64 j.na, .int .i64 j.nb, .int .i64 j.nc, .int .i64 j.la, .int .i64 j.lb, .int .i64 j.lc, .int .i64 j.wl, .int .i64 j.lv] 37)).heap[w1.heap.size + 1]? = some (.cells #[.int .i64 j.id, .int .i64 j.pr, .int .i64 j.nn, .int .i64 j.na, .int .i64 j.nb, .int .i64 j.nc, .int .i64 j.la, .int .i64 j.lb, .int .i64 j.lc, .int .i64 j.wl, .int .i64 j.lv] 37 (0, 0))) := Lib.hid (zAl _ (by simp))
  have O10 := Lib.hid ((oa.bel (zAa w1 (.cells #[.slice A n c, .slice B m d, .slice U nu cu, .slice R np cp, .slice L nl cl] 33))).bel (zAa _ (.cells #[.int .i64 j.id, .int .i64 j.pr, .int .i64 j.nn, .int .i64 j.na, .int .i64 j.nb, .int .i64 j.nc, .int .i64 j.la, .int .i64 j.lb, .int .i64 j.lc, .int .i64 j.wl, .int .i64 j.lv] 37)))
  have BE0 := Lib.hid (zAd (zAd hb1 (zAa w1 (.cells #[.slice A n c, .slice B m d, .slice U nu cu, .slice R np cp, .slice L nl cl] 33))) (zAa _ (.cells #[.int .i64 j.id, .int .i64 j.pr, .int .i64 j.nn, .int .i64 j.na, .int .i64 j.nb, .int .i64 j.nc, .int .i64 j.la, .int .i64 j.lb, .int .i64 j.lc, .int .i64 j.wl, .int .i64 j.lv] 37)))
  obtain ⟨EV, hEV⟩ : ∃ y, earlV r j f = y := ⟨_, rfl⟩
  obtain ⟨EB, hEB⟩ : ∃ y, y = EV.isSome := ⟨_, rfl⟩
  have HEV := Lib.hid hEV
  have HEB := Lib.hid hEB
  clear oa hEV hEB hfw hb1
  go_upto_region 4 with fail
  obtain ⟨x3, hx3⟩ : ∃ y, y = w1.heap.size := ⟨_, rfl⟩
  rw [← hx3] at RB0 JB0 ⊢
  clear hx3
  generalize (w1.alloc (.cells #[.slice A n c, .slice B m d, .slice U nu cu, .slice R np cp, .slice L nl cl] 33)).alloc (.cells #[.int .i64 j.id, .int .i64 j.pr, .int .i64 j.nn, .int .i64 j.na, .int .i64 j.nb, .int .i64 j.nc, .int .i64 j.la, .int .i64 j.lb, .int .i64 j.lc, .int .i64 j.wl, .int .i64 j.lv] 37) = w1' at *
  have k0 := zAc RB0.out 0 rfl
  have k1 := zAc RB0.out 1 rfl
  have k2 := zAc RB0.out 2 rfl
  have k3 := zAc RB0.out 3 rfl
  have k4 := zAc RB0.out 4 rfl
  have kf := zAh RB0.out
  have kl := zAi RB0.out
  simp only [List.getElem_toArray, List.getElem_cons_zero, List.getElem_cons_succ] at k0 k1 k2 k3 k4
  have v0 := zAc JB0.out 0 rfl
  have v1 := zAc JB0.out 1 rfl
  have v2 := zAc JB0.out 2 rfl
  have v3 := zAc JB0.out 3 rfl
  have v4 := zAc JB0.out 4 rfl
  have v5 := zAc JB0.out 5 rfl
  have v6 := zAc JB0.out 6 rfl
  have v7 := zAc JB0.out 7 rfl
  have v8 := zAc JB0.out 8 rfl
  have v9 := zAc JB0.out 9 rfl
  have v10 := zAc JB0.out 10 rfl
  have vf := zAh JB0.out
  have vl := zAi JB0.out
  simp only [List.getElem_toArray, List.getElem_cons_zero, List.getElem_cons_succ] at v0 v1 v2 v3 v4 v5 v6 v7 v8 v9 v10
  go_wp2_with fail
  refine (Earliest_any ⟨A, B, U, R, L, n, m, nu, np, nl, c, d, cu, cp, cl⟩ r xs _ j f _ O10.out).mono ?_
  rintro e w2 ⟨u2, rfl, own2, hb2⟩
  have RB2 := Lib.hid (zAe (by first | exact RB0.out | exact zAr RB0.out _) hb2)
  have JB2 := Lib.hid (zAe (by first | exact JB0.out | exact zAr JB0.out _) hb2)
  have O12 := Lib.hid (O10.out.bel (by first | exact hb2 | exact zAd (zAa _ _) hb2))
  have BE2 := Lib.hid (zAd (by first | exact BE0.out | exact zAd BE0.out (zAa _ _)) hb2)
  rw [HEV.out] at own2
  rw [HEV.out, ← HEB.out]
  obtain ⟨D, e9, rfl, _⟩ := zAp own2
  have OD2 := Lib.hid own2
  clear own2
  clear k0 k1 k2 k3 k4 kf kl v0 v1 v2 v3 v4 v5 v6 v7 v8 v9 v10 vf vl
  have k0 := zAc RB2.out 0 rfl
  have k1 := zAc RB2.out 1 rfl
  have k2 := zAc RB2.out 2 rfl
  have k3 := zAc RB2.out 3 rfl
  have k4 := zAc RB2.out 4 rfl
  have kf := zAh RB2.out
  have kl := zAi RB2.out
  simp only [List.getElem_toArray, List.getElem_cons_zero, List.getElem_cons_succ] at k0 k1 k2 k3 k4
  have v0 := zAc JB2.out 0 rfl
  have v1 := zAc JB2.out 1 rfl
  have v2 := zAc JB2.out 2 rfl
  have v3 := zAc JB2.out 3 rfl
  have v4 := zAc JB2.out 4 rfl
  have v5 := zAc JB2.out 5 rfl
  have v6 := zAc JB2.out 6 rfl
  have v7 := zAc JB2.out 7 rfl
  have v8 := zAc JB2.out 8 rfl
  have v9 := zAc JB2.out 9 rfl
  have v10 := zAc JB2.out 10 rfl
  have vf := zAh JB2.out
  have vl := zAi JB2.out
  simp only [List.getElem_toArray, List.getElem_cons_zero, List.getElem_cons_succ] at v0 v1 v2 v3 v4 v5 v6 v7 v8 v9 v10
  go_wp2_with fail
  refine (sEarliest_any ⟨A, B, U, R, L, n, m, nu, np, nl, c, d, cu, cp, cl⟩ r xs _ j f _ O12.out).mono ?_
  rintro e w3 ⟨u3, rfl, own3, hb3⟩
  have RB3 := Lib.hid (zAe (by first | exact RB2.out | exact zAr RB2.out _) hb3)
  have JB3 := Lib.hid (zAe (by first | exact JB2.out | exact zAr JB2.out _) hb3)
  have O13 := Lib.hid (O12.out.bel (by first | exact hb3 | exact zAd (zAa _ _) hb3))
  have BE3 := Lib.hid (zAd (by first | exact BE2.out | exact zAd BE2.out (zAa _ _)) hb3)
  rw [HEV.out] at own3
  rw [HEV.out, ← HEB.out]
  obtain ⟨D3, e3, rfl, _⟩ := zAp own3
  have OD3 := Lib.hid (zAf OD2.out hb3)
  clear own3
  clear k0 k1 k2 k3 k4 kf kl v0 v1 v2 v3 v4 v5 v6 v7 v8 v9 v10 vf vl
  have k0 := zAc RB3.out 0 rfl
  have k1 := zAc RB3.out 1 rfl
  have k2 := zAc RB3.out 2 rfl
  have k3 := zAc RB3.out 3 rfl
  have k4 := zAc RB3.out 4 rfl
  have kf := zAh RB3.out
  have kl := zAi RB3.out
  simp only [List.getElem_toArray, List.getElem_cons_zero, List.getElem_cons_succ] at k0 k1 k2 k3 k4
  have v0 := zAc JB3.out 0 rfl
  have v1 := zAc JB3.out 1 rfl
  have v2 := zAc JB3.out 2 rfl
  have v3 := zAc JB3.out 3 rfl
  have v4 := zAc JB3.out 4 rfl
  have v5 := zAc JB3.out 5 rfl
  have v6 := zAc JB3.out 6 rfl
  have v7 := zAc JB3.out 7 rfl
  have v8 := zAc JB3.out 8 rfl
  have v9 := zAc JB3.out 9 rfl
  have v10 := zAc JB3.out 10 rfl
  have vf := zAh JB3.out
  have vl := zAi JB3.out
  simp only [List.getElem_toArray, List.getElem_cons_zero, List.getElem_cons_succ] at v0 v1 v2 v3 v4 v5 v6 v7 v8 v9 v10
  clear RB0 JB0 O10 BE0 RB2 JB2 O12 BE2 OD2 hb2 hb3
  cases EV with
  | none =>
    have hE : EB = false := HEB.out
    subst hE
    simp only [eT, eL, Option.map_none, Option.getD_none, List.length_nil]
    go_wp2
    go_ret
    exact ⟨rfl, BE3.out⟩
  | some q9 =>
    obtain ⟨t, nd⟩ := q9
    have hE : EB = true := HEB.out
    subst hE
    obtain ⟨f0, ft, tw, l0, l1⟩ := earl_span HEV.out
    obtain ⟨rok, jok, _, _, htry, _⟩ := earl_some HEV.out
    obtain ⟨s9, hs9⟩ := res_try rok (by omega) jok (few_mono FW.out (by omega)) htry
    have HS9 := Lib.hid hs9
    have hndl : nd.length ≤ 1048576 := by obtain ⟨_, hl⟩ := earl_level HEV.out; have := job_wl jok; omega
    have OD : Hid (w3.ownsRow w1'.heap.size 3 1 (.slice D nd.length e9) nd.length (ints nd)) := OD3
    clear OD3 htry hs9
    simp only [eT, eL, Option.map_some, Option.getD_some]
    go_wp2_with fail
    refine (Reserve_any ⟨A, B, U, R, L, n, m, nu, np, nl, c, d, cu, cp, cl⟩ r xs _ j D nd.length e9 nd _ O13.out hndl (own_cap9 OD.out).1 (own_cap9 OD.out).2 (zAq OD.out) (own_blk OD.out) t).mono ?_
    rintro e w4 ⟨a4, rfl, ⟨xs4, ro4⟩, hb4⟩
    have RB4 := Lib.hid (zAe (by first | exact RB3.out | exact zAr RB3.out _) hb4)
    have JB4 := Lib.hid (zAe (by first | exact JB3.out | exact zAr JB3.out _) hb4)
    have O14 := Lib.hid (O13.out.bel (by first | exact hb4 | exact zAd (zAa _ _) hb4))
    have BE4 := Lib.hid (zAd (by first | exact BE3.out | exact zAd BE3.out (zAa _ _)) hb4)
    rw [HS9.out] at ro4
    rw [HS9.out]
    obtain ⟨A4, B4, U4, R4, L4, n4, m4, nu4, np4, nl4, c4, d4, cu4, cp4, cl4⟩ := a4
    dsimp only [RA.v]
    have OR4 := Lib.hid ro4
    have OD4 := Lib.hid (zAf OD.out hb4)
    clear ro4
    clear k0 k1 k2 k3 k4 kf kl v0 v1 v2 v3 v4 v5 v6 v7 v8 v9 v10 vf vl
    go_wp2_with fail
    refine (roomOk_any ⟨A4, B4, U4, R4, L4, n4, m4, nu4, np4, nl4, c4, d4, cu4, cp4, cl4⟩ s9 _ (OR4.out.bel (zAa _ _)).rd).mono ?_
    rintro e w5 ⟨rfl, hb5⟩
    have RB5 := Lib.hid (zAe (by first | exact RB4.out | exact zAr RB4.out _) hb5)
    have JB5 := Lib.hid (zAe (by first | exact JB4.out | exact zAr JB4.out _) hb5)
    have O15 := Lib.hid (O14.out.bel (by first | exact hb5 | exact zAd (zAa _ _) hb5))
    have BE5 := Lib.hid (zAd (by first | exact BE4.out | exact zAd BE4.out (zAa _ _)) hb5)
    rw [res_ok HS9.out]
    have OD5 := Lib.hid (zAf (zAf OD4.out (zAa _ _)) hb5)
    clear OR4 OD4 OD hb4 hb5 RB3 JB3 O13 BE3 RB4 JB4 O14 BE4
    have hj3 : x3 < w5.heap.size := zAi RB5.out
    have hn9 : n ≤ 1048576 := O15.out.n
    have hm9 : m ≤ 1048576 := O15.out.m
    have hnl : nl ≤ 1048576 := O15.out.nl
    go_upto_region 13 with fail
    go_wp2
    go_loopw [14] (fun i wr => ∃ u : Int, i = .int .i64 u ∧ f ≤ u ∧ u ≤ t ∧ Below w5.heap.size w5 wr) (fun i _ => (t - intOf i).toNat)
    case atStart => exact ⟨f, rfl, by omega, ft, Below.refl _ _⟩
    case round =>
      obtain ⟨u, rfl, hfu, hut, hbw⟩ := hrel
      obtain ⟨wo, rfl⟩ : ∃ x, x = wr := ⟨wr, rfl⟩
      have RBo := Lib.hid (zAe RB5.out hbw)
      have JBo := Lib.hid (zAe JB5.out hbw)
      have O1o := Lib.hid (O15.out.bel hbw)
      have ODo := Lib.hid (zAf OD5.out hbw)
      have BEo := Lib.hid hbw
      have BE5' := Lib.hid BE5.out
      clear hbw RB5 JB5 O15 OD5 BE5
      by_cases hlt : u < t
      · by_cases h40 : u < f + 40
        · have hfit : chB_ r.par r.nodes (EligV r j.need u (u + j.wl)) j.nn j.lv = true → fitV j.lic (minVv r.lics u (u + j.wl)) = false := fun hc => earl_no HEV.out hfu hlt hc
          have HFIT := Lib.hid hfit
          have hell : (EligV r j.need u (u + j.wl)).length ≤ 1048576 := by
            unfold EligV
            split
            · have := (elig_in (r := r) (j := j) (t := u) (u := u + j.wl) rok).2.2.2.2; omega
            · simp
          clear hfit
          have hwr9 : IntKind.i64.wrap (u + j.wl) = u + j.wl := IntWalk.i64_in _ (by omega)
          have k0 := zAc RBo.out 0 rfl
          have k1 := zAc RBo.out 1 rfl
          have k2 := zAc RBo.out 2 rfl
          have k3 := zAc RBo.out 3 rfl
          have k4 := zAc RBo.out 4 rfl
          have kf := zAh RBo.out
          have kl := zAi RBo.out
          simp only [List.getElem_toArray, List.getElem_cons_zero, List.getElem_cons_succ] at k0 k1 k2 k3 k4
          have v0 := zAc JBo.out 0 rfl
          have v1 := zAc JBo.out 1 rfl
          have v2 := zAc JBo.out 2 rfl
          have v3 := zAc JBo.out 3 rfl
          have v4 := zAc JBo.out 4 rfl
          have v5 := zAc JBo.out 5 rfl
          have v6 := zAc JBo.out 6 rfl
          have v7 := zAc JBo.out 7 rfl
          have v8 := zAc JBo.out 8 rfl
          have v9 := zAc JBo.out 9 rfl
          have v10 := zAc JBo.out 10 rfl
          have vf := zAh JBo.out
          have vl := zAi JBo.out
          simp only [List.getElem_toArray, List.getElem_cons_zero, List.getElem_cons_succ] at v0 v1 v2 v3 v4 v5 v6 v7 v8 v9 v10
          go_wp2_with fail
          refine (profMin_any L nl cl r.lics u (u + j.wl) _ hnl O1o.out.rd.lics O1o.out.rd.ltL).mono ?_
          rintro e w6 ⟨rfl, hb6⟩
          obtain ⟨MV, hMV⟩ : ∃ y, y = minVv r.lics u (u + j.wl) := ⟨_, rfl⟩
          obtain ⟨MB, hMB⟩ : ∃ y, y = minB r.lics u (u + j.wl) := ⟨_, rfl⟩
          rw [← hMV] at HFIT ⊢
          rw [← hMB]
          clear hMV hMB
          obtain ⟨EL, hEL⟩ : ∃ y, y = EligV r j.need u (u + j.wl) := ⟨_, rfl⟩
          rw [← hEL] at HFIT hell
          have HEL := Lib.hid hEL
          clear hEL
          have bal6 := zAa w6 (.cells #[.int .i64 MV.A, .int .i64 MV.B, .int .i64 MV.C] 35)
          have B67 := Lib.hid (zAd hb6 bal6)
          have VB : Hid ((w6.alloc (.cells #[.int .i64 MV.A, .int .i64 MV.B, .int .i64 MV.C] 35)).heap[w6.heap.size]? = some (.cells #[.int .i64 MV.A, .int .i64 MV.B, .int .i64 MV.C] 35 (0, 0))) := Lib.hid (zAl _ rfl)
          clear hb6 bal6
          clear k0 k1 k2 k3 k4 kf kl v0 v1 v2 v3 v4 v5 v6 v7 v8 v9 v10 vf vl
          go_upto_region 17 with fail
          generalize w6.alloc (.cells #[.int .i64 MV.A, .int .i64 MV.B, .int .i64 MV.C] 35) = w7 at *
          generalize w6.heap.size = bv at *
          have RB7 := Lib.hid (zAe RBo.out B67.out)
          have JB7 := Lib.hid (zAe JBo.out B67.out)
          have O17 := Lib.hid (O1o.out.bel B67.out)
          have k0 := zAc RB7.out 0 rfl
          have k1 := zAc RB7.out 1 rfl
          have k2 := zAc RB7.out 2 rfl
          have k3 := zAc RB7.out 3 rfl
          have k4 := zAc RB7.out 4 rfl
          have kf := zAh RB7.out
          have kl := zAi RB7.out
          simp only [List.getElem_toArray, List.getElem_cons_zero, List.getElem_cons_succ] at k0 k1 k2 k3 k4
          have v0 := zAc JB7.out 0 rfl
          have v1 := zAc JB7.out 1 rfl
          have v2 := zAc JB7.out 2 rfl
          have v3 := zAc JB7.out 3 rfl
          have v4 := zAc JB7.out 4 rfl
          have v5 := zAc JB7.out 5 rfl
          have v6 := zAc JB7.out 6 rfl
          have v7 := zAc JB7.out 7 rfl
          have v8 := zAc JB7.out 8 rfl
          have v9 := zAc JB7.out 9 rfl
          have v10 := zAc JB7.out 10 rfl
          have vf := zAh JB7.out
          have vl := zAi JB7.out
          simp only [List.getElem_toArray, List.getElem_cons_zero, List.getElem_cons_succ] at v0 v1 v2 v3 v4 v5 v6 v7 v8 v9 v10
          go_wp2_with fail
          go_region_held3 (fun w' => w'.cell? ⟨x3, 0, none⟩ = some (.slice A n c) ∧ w'.cell? ⟨x3, 1, none⟩ = some (.slice B m d) ∧ w'.cell? ⟨x3, 2, none⟩ = some (.slice U nu cu) ∧ w'.cell? ⟨x3, 3, none⟩ = some (.slice R np cp) ∧ w'.cell? ⟨x3, 4, none⟩ = some (.slice L nl cl) ∧ w'.cell? ⟨x3 + 1, 0, none⟩ = some (.int .i64 j.id) ∧ w'.cell? ⟨x3 + 1, 1, none⟩ = some (.int .i64 j.pr) ∧ w'.cell? ⟨x3 + 1, 2, none⟩ = some (.int .i64 j.nn) ∧ w'.cell? ⟨x3 + 1, 3, none⟩ = some (.int .i64 j.na) ∧ w'.cell? ⟨x3 + 1, 4, none⟩ = some (.int .i64 j.nb) ∧ w'.cell? ⟨x3 + 1, 5, none⟩ = some (.int .i64 j.nc) ∧ w'.cell? ⟨x3 + 1, 6, none⟩ = some (.int .i64 j.la) ∧ w'.cell? ⟨x3 + 1, 7, none⟩ = some (.int .i64 j.lb) ∧ w'.cell? ⟨x3 + 1, 8, none⟩ = some (.int .i64 j.lc) ∧ w'.cell? ⟨x3 + 1, 9, none⟩ = some (.int .i64 j.wl) ∧ w'.cell? ⟨x3 + 1, 10, none⟩ = some (.int .i64 j.lv)) (simp [go_sem, *, World.cell?_alloc_some, World.cell?_setCell_far, Nat.lt_add_right, Nat.ne_of_gt]) (first | (go_at_call 23; refine (Eligible_any ⟨A, B, U, R, L, n, m, nu, np, nl, c, d, cu, cp, cl⟩ r ⟨j.na, j.nb, j.nc⟩ u (u + j.wl) _ (O17.out.bel ((Below.refl _ w7).drew)).rd).mono ?_; rintro e w8 ⟨u8, rfl, own8, hb8⟩; rw [show EligV r ⟨j.na, j.nb, j.nc⟩ u (u + j.wl) = EL from HEL.out.symm] at own8; have O18 := Lib.hid (O17.out.bel (show Below w7.heap.size w7 w8 from zAd ((Below.refl w7.heap.size w7).drew) hb8)); have OE8 := Lib.hid own8; obtain ⟨X8, c8, rfl, _⟩ := zAp own8; have hs8 := hb8.size; (try simp at hs8); have hk8 := fun o => hb8.cell (p := ⟨x3, o, none⟩) zOm; have hj8 := fun o => hb8.cell (p := ⟨x3 + 1, o, none⟩) zOm) | (go_at_call 22; refine (Choose_any A B n c m d r.par r.nodes X8 EL.length c8 EL j.nn j.lv _ hn9 hm9 O18.out.rd.par O18.out.rd.nodes O18.out.rd.ltA O18.out.rd.ltB hell (zAq OE8.out) (own_blk OE8.out)).mono ?_; rintro e w9 ⟨u9, rfl, own9, hb9⟩; have hs9 := hb9.size; (try simp at hs9); have hk9 := fun o => hb9.cell (p := ⟨x3, o, none⟩) zOm; have hj9 := fun o => hb9.cell (p := ⟨x3 + 1, o, none⟩) zOm))
          have B79 := Lib.hid (show Below w7.heap.size w7 w9 from zAd (zAd ((Below.refl w7.heap.size w7).drew) hb8) hb9)
          have JB9 := Lib.hid (zAe JB7.out B79.out)
          have VB9 := Lib.hid (zAe VB.out B79.out)
          have B9 := Lib.hid (zAd (zAd BEo.out B67.out) B79.out)
          obtain ⟨CB, hCB⟩ : ∃ y, y = chB_ r.par r.nodes EL j.nn j.lv := ⟨_, rfl⟩
          rw [← hCB] at HFIT ⊢
          clear hCB own8 own9 hb8 hb9 hk8 hj8 hk9 hj9 hs8 hs9
          clear k0 k1 k2 k3 k4 kf kl v0 v1 v2 v3 v4 v5 v6 v7 v8 v9 v10 vf vl
          have v0 := zAc JB9.out 0 rfl
          have v1 := zAc JB9.out 1 rfl
          have v2 := zAc JB9.out 2 rfl
          have v3 := zAc JB9.out 3 rfl
          have v4 := zAc JB9.out 4 rfl
          have v5 := zAc JB9.out 5 rfl
          have v6 := zAc JB9.out 6 rfl
          have v7 := zAc JB9.out 7 rfl
          have v8 := zAc JB9.out 8 rfl
          have v9 := zAc JB9.out 9 rfl
          have v10 := zAc JB9.out 10 rfl
          have vf := zAh JB9.out
          have vl := zAi JB9.out
          simp only [List.getElem_toArray, List.getElem_cons_zero, List.getElem_cons_succ] at v0 v1 v2 v3 v4 v5 v6 v7 v8 v9 v10
          have q0 := zAc VB9.out 0 rfl
          have q1 := zAc VB9.out 1 rfl
          have q2 := zAc VB9.out 2 rfl
          have qf := zAh VB9.out
          have ql := zAi VB9.out
          simp only [List.getElem_toArray, List.getElem_cons_zero, List.getElem_cons_succ] at q0 q1 q2
          cases CB
          · go_wp2
            exact ⟨⟨u + 1, by go_num, by omega, by omega, B9.out⟩, by simp [intOf]; omega⟩
          · go_wp2_with fail
            refine (vecFits_raw j.la j.lb j.lc MV.A MV.B MV.C _).mono ?_
            rintro e w10 ⟨rfl, hb10⟩
            rw [show fitsB j.la j.lb j.lc MV.A MV.B MV.C = false from by first | exact HFIT.out rfl | exact HFIT.out trivial]
            have B10 := Lib.hid (zAd B9.out hb10)
            clear hb10
            go_wp2
            exact ⟨⟨u + 1, by go_num, by omega, by omega, B10.out⟩, by simp [intOf]; omega⟩
        · have h40' : f + 40 ≤ u := by omega
          have k0 := zAc RBo.out 0 rfl
          have k1 := zAc RBo.out 1 rfl
          have k2 := zAc RBo.out 2 rfl
          have k3 := zAc RBo.out 3 rfl
          have k4 := zAc RBo.out 4 rfl
          have kf := zAh RBo.out
          have kl := zAi RBo.out
          simp only [List.getElem_toArray, List.getElem_cons_zero, List.getElem_cons_succ] at k0 k1 k2 k3 k4
          have v0 := zAc JBo.out 0 rfl
          have v1 := zAc JBo.out 1 rfl
          have v2 := zAc JBo.out 2 rfl
          have v3 := zAc JBo.out 3 rfl
          have v4 := zAc JBo.out 4 rfl
          have v5 := zAc JBo.out 5 rfl
          have v6 := zAc JBo.out 6 rfl
          have v7 := zAc JBo.out 7 rfl
          have v8 := zAc JBo.out 8 rfl
          have v9 := zAc JBo.out 9 rfl
          have v10 := zAc JBo.out 10 rfl
          have vf := zAh JBo.out
          have vl := zAi JBo.out
          simp only [List.getElem_toArray, List.getElem_cons_zero, List.getElem_cons_succ] at v0 v1 v2 v3 v4 v5 v6 v7 v8 v9 v10
          obtain ⟨hlv, hnn⟩ := earl_level HEV.out
          have HLV := Lib.hid hlv
          go_wp2_with fail
          go_region_held3 (fun w' => w'.cell? ⟨x3, 0, none⟩ = some (.slice A n c) ∧ w'.cell? ⟨x3, 1, none⟩ = some (.slice B m d) ∧ w'.cell? ⟨x3, 2, none⟩ = some (.slice U nu cu) ∧ w'.cell? ⟨x3, 3, none⟩ = some (.slice R np cp) ∧ w'.cell? ⟨x3, 4, none⟩ = some (.slice L nl cl) ∧ w'.cell? ⟨x3 + 1, 0, none⟩ = some (.int .i64 j.id) ∧ w'.cell? ⟨x3 + 1, 1, none⟩ = some (.int .i64 j.pr) ∧ w'.cell? ⟨x3 + 1, 2, none⟩ = some (.int .i64 j.nn) ∧ w'.cell? ⟨x3 + 1, 3, none⟩ = some (.int .i64 j.na) ∧ w'.cell? ⟨x3 + 1, 4, none⟩ = some (.int .i64 j.nb) ∧ w'.cell? ⟨x3 + 1, 5, none⟩ = some (.int .i64 j.nc) ∧ w'.cell? ⟨x3 + 1, 6, none⟩ = some (.int .i64 j.la) ∧ w'.cell? ⟨x3 + 1, 7, none⟩ = some (.int .i64 j.lb) ∧ w'.cell? ⟨x3 + 1, 8, none⟩ = some (.int .i64 j.lc) ∧ w'.cell? ⟨x3 + 1, 9, none⟩ = some (.int .i64 j.wl) ∧ w'.cell? ⟨x3 + 1, 10, none⟩ = some (.int .i64 j.lv)) (simp [go_sem, *, World.cell?_alloc_some, World.cell?_setCell_far, Nat.lt_add_right, Nat.ne_of_gt]) (first | (go_at_call 26; refine (lowest_any A B n c m d r.par r.nodes D nd.length e9 nd _ hn9 hm9 (O1o.out.bel ((Below.refl _ wo).drew)).rd.par (O1o.out.bel ((Below.refl _ wo).drew)).rd.nodes (O1o.out.bel ((Below.refl _ wo).drew)).rd.ltA (O1o.out.bel ((Below.refl _ wo).drew)).rd.ltB hndl (zAq (zAf ODo.out ((Below.refl _ wo).drew))) (own_blk (zAf ODo.out ((Below.refl _ wo).drew)))).mono ?_; rintro e w6 ⟨rfl, hb6⟩; have O16 := Lib.hid (O1o.out.bel (show Below wo.heap.size wo w6 from zAd ((Below.refl wo.heap.size wo).drew) hb6)); have hs6 := hb6.size; (try simp at hs6); have hk6 := fun o => hb6.cell (p := ⟨x3, o, none⟩) zOm; have hj6 := fun o => hb6.cell (p := ⟨x3 + 1, o, none⟩) zOm) | (go_at_call 25; refine (Level_any A B n c m d r.par r.nodes (lowestV r.par r.nodes nd) _ hn9 hm9 O16.out.rd.par O16.out.rd.nodes O16.out.rd.ltA O16.out.rd.ltB).mono ?_; rintro e w7 ⟨rfl, hb7⟩; have hs7 := hb7.size; (try simp at hs7); have hk7 := fun o => hb7.cell (p := ⟨x3, o, none⟩) zOm; have hj7 := fun o => hb7.cell (p := ⟨x3 + 1, o, none⟩) zOm))
          have BF := Lib.hid (zAd (zAd (zAd BE5'.out BEo.out) (show Below wo.heap.size wo w6 from zAd ((Below.refl wo.heap.size wo).drew) hb6)) hb7)
          have hlv9 := HLV.out
          go_wp2
          go_ret
          exact ⟨by simp [*], BF.out⟩
      · have htu : t ≤ u := by omega
        have k0 := zAc RBo.out 0 rfl
        have k1 := zAc RBo.out 1 rfl
        have k2 := zAc RBo.out 2 rfl
        have k3 := zAc RBo.out 3 rfl
        have k4 := zAc RBo.out 4 rfl
        have kf := zAh RBo.out
        have kl := zAi RBo.out
        simp only [List.getElem_toArray, List.getElem_cons_zero, List.getElem_cons_succ] at k0 k1 k2 k3 k4
        have v0 := zAc JBo.out 0 rfl
        have v1 := zAc JBo.out 1 rfl
        have v2 := zAc JBo.out 2 rfl
        have v3 := zAc JBo.out 3 rfl
        have v4 := zAc JBo.out 4 rfl
        have v5 := zAc JBo.out 5 rfl
        have v6 := zAc JBo.out 6 rfl
        have v7 := zAc JBo.out 7 rfl
        have v8 := zAc JBo.out 8 rfl
        have v9 := zAc JBo.out 9 rfl
        have v10 := zAc JBo.out 10 rfl
        have vf := zAh JBo.out
        have vl := zAi JBo.out
        simp only [List.getElem_toArray, List.getElem_cons_zero, List.getElem_cons_succ] at v0 v1 v2 v3 v4 v5 v6 v7 v8 v9 v10
        obtain ⟨hlv, hnn⟩ := earl_level HEV.out
        have HLV := Lib.hid hlv
        go_wp2_with fail
        go_region_held3 (fun w' => w'.cell? ⟨x3, 0, none⟩ = some (.slice A n c) ∧ w'.cell? ⟨x3, 1, none⟩ = some (.slice B m d) ∧ w'.cell? ⟨x3, 2, none⟩ = some (.slice U nu cu) ∧ w'.cell? ⟨x3, 3, none⟩ = some (.slice R np cp) ∧ w'.cell? ⟨x3, 4, none⟩ = some (.slice L nl cl) ∧ w'.cell? ⟨x3 + 1, 0, none⟩ = some (.int .i64 j.id) ∧ w'.cell? ⟨x3 + 1, 1, none⟩ = some (.int .i64 j.pr) ∧ w'.cell? ⟨x3 + 1, 2, none⟩ = some (.int .i64 j.nn) ∧ w'.cell? ⟨x3 + 1, 3, none⟩ = some (.int .i64 j.na) ∧ w'.cell? ⟨x3 + 1, 4, none⟩ = some (.int .i64 j.nb) ∧ w'.cell? ⟨x3 + 1, 5, none⟩ = some (.int .i64 j.nc) ∧ w'.cell? ⟨x3 + 1, 6, none⟩ = some (.int .i64 j.la) ∧ w'.cell? ⟨x3 + 1, 7, none⟩ = some (.int .i64 j.lb) ∧ w'.cell? ⟨x3 + 1, 8, none⟩ = some (.int .i64 j.lc) ∧ w'.cell? ⟨x3 + 1, 9, none⟩ = some (.int .i64 j.wl) ∧ w'.cell? ⟨x3 + 1, 10, none⟩ = some (.int .i64 j.lv)) (simp [go_sem, *, World.cell?_alloc_some, World.cell?_setCell_far, Nat.lt_add_right, Nat.ne_of_gt]) (first | (go_at_call 26; refine (lowest_any A B n c m d r.par r.nodes D nd.length e9 nd _ hn9 hm9 (O1o.out.bel ((Below.refl _ wo).drew)).rd.par (O1o.out.bel ((Below.refl _ wo).drew)).rd.nodes (O1o.out.bel ((Below.refl _ wo).drew)).rd.ltA (O1o.out.bel ((Below.refl _ wo).drew)).rd.ltB hndl (zAq (zAf ODo.out ((Below.refl _ wo).drew))) (own_blk (zAf ODo.out ((Below.refl _ wo).drew)))).mono ?_; rintro e w6 ⟨rfl, hb6⟩; have O16 := Lib.hid (O1o.out.bel (show Below wo.heap.size wo w6 from zAd ((Below.refl wo.heap.size wo).drew) hb6)); have hs6 := hb6.size; (try simp at hs6); have hk6 := fun o => hb6.cell (p := ⟨x3, o, none⟩) zOm; have hj6 := fun o => hb6.cell (p := ⟨x3 + 1, o, none⟩) zOm) | (go_at_call 25; refine (Level_any A B n c m d r.par r.nodes (lowestV r.par r.nodes nd) _ hn9 hm9 O16.out.rd.par O16.out.rd.nodes O16.out.rd.ltA O16.out.rd.ltB).mono ?_; rintro e w7 ⟨rfl, hb7⟩; have hs7 := hb7.size; (try simp at hs7); have hk7 := fun o => hb7.cell (p := ⟨x3, o, none⟩) zOm; have hj7 := fun o => hb7.cell (p := ⟨x3 + 1, o, none⟩) zOm))
        have BF := Lib.hid (zAd (zAd (zAd BE5'.out BEo.out) (show Below wo.heap.size wo w6 from zAd ((Below.refl wo.heap.size wo).drew) hb6)) hb7)
        have hlv9 := HLV.out
        go_wp2
        go_ret
        exact ⟨by simp [*], BF.out⟩
theorem law_fearl (A : Option Addr) (n c : Nat) (w : World) (hn : n ≤ maxLen) (h : ByIn w A n) :
    Calls Tryz.prog 3 #[.slice A n c] w fun e w' => e = .returned (.bool true) ∧ Below w.heap.size w w' := by
  by_cases hs : n ≤ 1048576
  · exact law_fearl_go A n c w hs h
  · have hs' : (1048576 : Int) < n := by omega
    unfold maxLen at hn
    go_enter Tryz.func3, Tryz.ntmps3
    go_wp2
    go_ret
    exact ⟨rfl, Below.refl _ _⟩
end Go.Proofs.YtdppjjdhidkjoaaGreat
