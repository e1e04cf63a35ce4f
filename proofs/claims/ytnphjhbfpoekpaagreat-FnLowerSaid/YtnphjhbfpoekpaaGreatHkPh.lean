import Derived.Test.YtnphjhbfpoekpaaGreatHjPh
namespace Go.Proofs.YtnphjhbfpoekpaaGreat
set_option linter.unusedSimpArgs false
set_option linter.unusedVariables false
set_option linter.unnecessarySimpa false
open Go.RowKit
set_option maxHeartbeats 16000000 in
set_option maxRecDepth 20000 in
theorem sPlan_any (a : RA) (r : Rm) (xs : List Value) (lo0 : Nat) (now : Int) (D : Option Addr) (k e : Nat) (js : List J) (depth : Int) (w : World) (h : RoomOwn w lo0 a r xs) (hk : k ≤ 1048576) (hke : k ≤ e) (he : e ≤ 9223372036854775807) (hd : Rd w D k 11 (jflat js)) (hA : (D = none ∧ k = 0 ∧ e = 0) ∨ ∃ g, D = some ⟨g, 0, none⟩ ∧ g < w.heap.size) :
  Calls Tryz.prog 13 #[a.v, .int .i64 now, .slice D k e, .int .i64 depth] w fun e' w' => ∃ (X Y : Value) (ss tt : List Value), e' = .returned (.tuple #[X, Y, .bool (planB r now js depth)]) ∧ OwnH w' w.heap.size X (plS r now js depth).a.length ss (plS r now js depth).a ∧ OwnH w' w.heap.size Y (plS r now js depth).b.length tt (plS r now js depth).b ∧ (∀ k, X.ownBlock = some k → Y.ownBlock ≠ some k) ∧ farV ss tt ∧ Below w.heap.size w w' := by
 have H := Lib.hid h
 obtain ⟨A, B, U, R, L, n, m, nu, np, nl, c, d, cu, cp, cl⟩ := a
 dsimp only [RA.v]
 have HD := Lib.hid hd
 have HA := Lib.hid hA
 have HL3 : Hid (∀ g, D = some ⟨g, 0, none⟩ → g < w.heap.size) := Lib.hid (fun g hg => by
  rcases hA with ⟨h1, _⟩ | ⟨g', h1, h2⟩
  ·rw [h1] at hg; cases hg
  ·rw [h1] at hg; cases hg; exact h2)
 obtain ⟨iH, hiH, hzaH, hzbH, hzcH⟩ := info_parts infoH
 clear h hd hA
 go_enter Tryz.func13, Tryz.ntmps13
 have B0 := Lib.hid (zAa w (.cells #[.slice A n c, .slice B m d, .slice U nu cu, .slice R np cp, .slice L nl cl] 33))
 have XB0 : Hid ((w.alloc (.cells #[.slice A n c, .slice B m d, .slice U nu cu, .slice R np cp, .slice L nl cl] 33)).heap[w.heap.size]? = some (.cells #[.slice A n c, .slice B m d, .slice U nu cu, .slice R np cp, .slice L nl cl] 33 (0, 0))) := Lib.hid (zAj _ rfl)
 go_upto_region 1 with fail
 generalize w.alloc (.cells #[.slice A n c, .slice B m d, .slice U nu cu, .slice R np cp, .slice L nl cl] 33) = w0 at *
 have k0 := zAb XB0.out 0 rfl
 have k1 := zAb XB0.out 1 rfl
 have k2 := zAb XB0.out 2 rfl
 have k3 := zAb XB0.out 3 rfl
 have k4 := zAb XB0.out 4 rfl
 have kf := zAh XB0.out
 have kl := zAg XB0.out
 simp only [zgc, zga, zgb] at k0 k1 k2 k3 k4
 go_wp2_with fail
 refine (sroomOk_any ⟨A, B, U, R, L, n, m, nu, np, nl, c, d, cu, cp, cl⟩ r _ (H.out.bel B0.out).rd).mono ?_
 rintro e1 w1 ⟨rfl, hb1⟩
 have B1 := Lib.hid (zAc B0.out hb1)
 have XB1 := Lib.hid (zAf XB0.out hb1)
 clear hb1 k0 k1 k2 k3 k4 kf kl
 cases hro : r.okB
 ·skip
  go_wp2
  (try go_light)
  refine bodyPost_ret (v := .tuple #[.slice none 0 0, .slice none 0 0, .bool false]) (by simp [results, Tryz.results13, go_sem, *]) rfl ?_
  rw [show planB r now js depth = false from by unfold planB; simp [*]]
  rw [show plS r now js depth = ⟨r, [], []⟩ from by unfold plS planB; simp [*]]
  exact ⟨.slice none 0 0, .slice none 0 0, [], [], rfl, OwnH.nil _ _, OwnH.nil _ _, fun k hk => by simp [Value.ownBlock] at hk, fun i j x y hi => by simp at hi, B1.out⟩
 go_wp2_with fail
 refine (squeueOk_any D k e js _ hk (HD.out.below HL3.out B1.out) (zAi HL3.out B1.out)).mono ?_
 rintro e2 w2 ⟨rfl, hb2⟩
 have B2 := Lib.hid (zAc B1.out hb2)
 have XB2 := Lib.hid (zAf XB1.out hb2)
 clear hb2
 cases hqo : queueB js
 ·skip
  go_wp2
  (try go_light)
  refine bodyPost_ret (v := .tuple #[.slice none 0 0, .slice none 0 0, .bool false]) (by simp [results, Tryz.results13, go_sem, *]) rfl ?_
  rw [show planB r now js depth = false from by unfold planB; simp [*]]
  rw [show plS r now js depth = ⟨r, [], []⟩ from by unfold plS planB; simp [*]]
  exact ⟨.slice none 0 0, .slice none 0 0, [], [], rfl, OwnH.nil _ _, OwnH.nil _ _, fun k hk => by simp [Value.ownBlock] at hk, fun i j x y hi => by simp at hi, B2.out⟩
 go_wp2_with fail
 refine (sTime_any now _).mono ?_
 rintro e3 w3 ⟨rfl, rfl⟩
 cases hto : timeB now
 ·skip
  go_wp2
  (try go_light)
  refine bodyPost_ret (v := .tuple #[.slice none 0 0, .slice none 0 0, .bool false]) (by simp [results, Tryz.results13, go_sem, *]) rfl ?_
  rw [show planB r now js depth = false from by unfold planB; simp [*]]
  rw [show plS r now js depth = ⟨r, [], []⟩ from by unfold plS planB; simp [*]]
  exact ⟨.slice none 0 0, .slice none 0 0, [], [], rfl, OwnH.nil _ _, OwnH.nil _ _, fun k hk => by simp [Value.ownBlock] at hk, fun i j x y hi => by simp at hi, B2.out⟩
 by_cases hi1 : depth < 0
 ·have hio : inB depth 0 60 = false := by simp [inB]; omega
  go_wp2
  (try go_light)
  refine bodyPost_ret (v := .tuple #[.slice none 0 0, .slice none 0 0, .bool false]) (by simp [results, Tryz.results13, go_sem, *]) rfl ?_
  rw [show planB r now js depth = false from by unfold planB; simp [*]]
  rw [show plS r now js depth = ⟨r, [], []⟩ from by unfold plS planB; simp [*]]
  exact ⟨.slice none 0 0, .slice none 0 0, [], [], rfl, OwnH.nil _ _, OwnH.nil _ _, fun k hk => by simp [Value.ownBlock] at hk, fun i j x y hi => by simp at hi, B2.out⟩
 by_cases hi2 : 60 < depth
 ·have hio : inB depth 0 60 = false := by simp [inB]; omega
  go_wp2
  (try go_light)
  refine bodyPost_ret (v := .tuple #[.slice none 0 0, .slice none 0 0, .bool false]) (by simp [results, Tryz.results13, go_sem, *]) rfl ?_
  rw [show planB r now js depth = false from by unfold planB; simp [*]]
  rw [show plS r now js depth = ⟨r, [], []⟩ from by unfold plS planB; simp [*]]
  exact ⟨.slice none 0 0, .slice none 0 0, [], [], rfl, OwnH.nil _ _, OwnH.nil _ _, fun k hk => by simp [Value.ownBlock] at hk, fun i j x y hi => by simp at hi, B2.out⟩
 have hio : inB depth 0 60 = true := by simp [inB]; omega
 have HPB : Hid (planB r now js depth = true) := Lib.hid (by unfold planB; simp [*])
 have hdep : 0 ≤ depth ∧ depth ≤ 60 := by simpa [inB] using hio
 obtain ⟨qa, qb, qc⟩ := queue_parts hqo
 have hol : (orderV js).length ≤ 60 := by rw [orderV_len]; exact qa
 have HOV : Hid (OrderV js = orderV js) := Lib.hid (by unfold OrderV; rw [if_pos hqo])
 have HQB := Lib.hid qb
 have HQC := Lib.hid qc
 have hk60 : k ≤ 60 := by have := HD.out.jlen; omega
 clear hro hqo hto hio qb qc
 have bE : Below w2.heap.size w2 ((w2.alloc (.cells #[] 41)).alloc (.cells #[] 41)) := zAc (zAa _ _) (zAa _ _)
 have hsw := B2.out.size
 have P0 : Hid (PN w ((w2.alloc (.cells #[] 41)).alloc (.cells #[] 41)) w.heap.size ⟨A, B, U, R, L, n, m, nu, np, nl, c, d, cu, cp, cl⟩ r (.slice (some ⟨w2.heap.size, 0, none⟩) 0 0) (.slice (some ⟨w2.heap.size + 1, 0, none⟩) 0 0) [] [] ⟨r, [], []⟩) := Lib.hid
  ⟨zAf XB2.out bE, ⟨_, xs, (H.out.bel B2.out).bel bE⟩, rfl, ⟨own_lit (cs := []) (n := 0) (zAs (zAj _ rfl) _) rfl (by decide) hsw, rfl, rfl, fun k x p h => by simp at h, fun i j x y _ h => by simp at h⟩, ⟨own_lit (cs := []) (n := 0) (zAj _ (by simp)) rfl (by decide) (by omega), rfl, rfl, fun k x p h => by simp at h, fun i j x y _ h => by simp at h⟩, fun k hk e => by simp [Value.ownBlock] at hk e; omega, fun i j x y h => by simp at h, zAc B2.out bE, Nat.le_refl _⟩
 have HD2 := Lib.hid (HD.out.below HL3.out (zAc B2.out bE))
 have HL4 := Lib.hid (zAi HL3.out (zAc B2.out bE))
 have HA2 : Hid ((D = none ∧ k = 0 ∧ e = 0) ∨ ∃ g, D = some ⟨g, 0, none⟩ ∧ g < ((w2.alloc (.cells #[] 41)).alloc (.cells #[] 41)).heap.size) := Lib.hid (HA.out.imp id (fun ⟨g, h1, h2⟩ => ⟨g, h1, Nat.lt_of_lt_of_le h2 (Nat.le_trans hsw bE.size)⟩))
 go_upto_region 5 with fail
 clear bE XB0 XB1 XB2 B0 B1
 generalize hb9 : w2.heap.size = b9 at *
 clear hb9
 generalize (w2.alloc (.cells #[] 41)).alloc (.cells #[] 41) = w4 at *
 go_wp2_with fail
 refine (sorder_any D k e js _ hk HD2.out HL4.out).mono ?_
 rintro e5 w5 ⟨v5, rfl, own5, hb5⟩
 rw [HOV.out] at own5
 obtain ⟨O, co, rfl, -⟩ := zAq own5
 obtain ⟨OL, hOL⟩ : ∃ y, y = orderV js := ⟨_, rfl⟩
 rw [← hOL] at own5 hol ⊢
 have HOL := Lib.hid hOL
 have P5 := Lib.hid (P0.out.step hb5)
 have OJ5 := Lib.hid own5
 have hol9 : OL.length ≤ 9223372036854775807 := by omega
 clear hOL own5 hb5 P0 HD2 HA2
 go_wp2
 go_loopw [11, 12, 46] (fun X Y i wr => ∃ (q : Nat) (a : RA) (ss tt : List Value), q ≤ OL.length ∧ i = .int .i64 q ∧ PN w wr w.heap.size a (planL now depth ⟨r, [], []⟩ (OL.take q)).r X Y ss tt (planL now depth ⟨r, [], []⟩ (OL.take q)) ∧ ∃ lo, wr.ownsRow lo 95 11 (.slice O OL.length co) OL.length (jflat OL)) (fun _ _ i _ => OL.length - (intOf i).toNat)
 case atStart => exact ⟨0, ⟨A, B, U, R, L, n, m, nu, np, nl, c, d, cu, cp, cl⟩, [], [], Nat.zero_le _, rfl, P5.out, _, OJ5.out⟩
 case round =>
  clear P5 OJ5
  obtain ⟨q, a, ss, tt, hq, rfl, P', lo9, OJ'⟩ := hrel
  obtain ⟨wo, rfl⟩ : ∃ x, x = wr := ⟨wr, rfl⟩
  obtain ⟨s, hs⟩ : ∃ y, y = planL now depth ⟨r, [], []⟩ (OL.take q) := ⟨_, rfl⟩
  rw [← hs] at P'
  obtain ⟨XA, xc, rfl, -⟩ := zAq P'.st.own
  obtain ⟨YA, yc, rfl, -⟩ := zAq P'.la.own
  have P1 := Lib.hid P'
  have OJ := Lib.hid OJ'
  have HS := Lib.hid hs
  clear P' OJ' hs
  obtain ⟨A, B, U, R, L, n, m, nu, np, nl, c, d, cu, cp, cl⟩ := a
  have hsl : s.a.length + s.b.length ≤ 60 := by
   have h1 := plan_len r now depth (OL.take q)
   rw [← HS.out, List.length_take] at h1
   omega
  have hwbl := zAg P1.out.bx
  by_cases hlt : q < OL.length
  ·have hlt' : (q : Int) < OL.length := by omega
   obtain ⟨g, j, rfl, hj, d0, d1, d2, d3, d4, d5, d6, d7, d8, d9, d10⟩ := (zAn OJ.out).j hlt
   have HN : Hid (planL now depth ⟨r, [], []⟩ (OL.take (q + 1)) = planF now depth s j) := Lib.hid (by rw [zAy hj, planL_snoc, ← HS.out])
   clear hj
   have P6 := Lib.hid (P1.out.step (zAa wo (.cells #[.int .i64 j.id, .int .i64 j.pr, .int .i64 j.nn, .int .i64 j.na, .int .i64 j.nb, .int .i64 j.nc, .int .i64 j.la, .int .i64 j.lb, .int .i64 j.lc, .int .i64 j.wl, .int .i64 j.lv] 95)))
   have OJ6 := Lib.hid (zAe OJ.out (zAa wo (.cells #[.int .i64 j.id, .int .i64 j.pr, .int .i64 j.nn, .int .i64 j.na, .int .i64 j.nb, .int .i64 j.nc, .int .i64 j.la, .int .i64 j.lb, .int .i64 j.lc, .int .i64 j.wl, .int .i64 j.lv] 95)))
   have JB6 : Hid ((wo.alloc (.cells #[.int .i64 j.id, .int .i64 j.pr, .int .i64 j.nn, .int .i64 j.na, .int .i64 j.nb, .int .i64 j.nc, .int .i64 j.la, .int .i64 j.lb, .int .i64 j.lc, .int .i64 j.wl, .int .i64 j.lv] 95)).heap[wo.heap.size]? = some (.cells #[.int .i64 j.id, .int .i64 j.pr, .int .i64 j.nn, .int .i64 j.na, .int .i64 j.nb, .int .i64 j.nc, .int .i64 j.la, .int .i64 j.lb, .int .i64 j.lc, .int .i64 j.wl, .int .i64 j.lv] 95 (0, 0))) := Lib.hid (zAj _ rfl)
   go_upto_region 8 with fail
   clear d0 d1 d2 d3 d4 d5 d6 d7 d8 d9 d10 P1 OJ
   generalize wo.alloc (.cells #[.int .i64 j.id, .int .i64 j.pr, .int .i64 j.nn, .int .i64 j.na, .int .i64 j.nb, .int .i64 j.nc, .int .i64 j.la, .int .i64 j.lb, .int .i64 j.lc, .int .i64 j.wl, .int .i64 j.lv] 95) = w6 at *
   generalize wo.heap.size = bj at *
   have k0 := zAb P6.out.bx 0 rfl
   have k1 := zAb P6.out.bx 1 rfl
   have k2 := zAb P6.out.bx 2 rfl
   have k3 := zAb P6.out.bx 3 rfl
   have k4 := zAb P6.out.bx 4 rfl
   have kf := zAh P6.out.bx
   have kl := zAg P6.out.bx
   simp only [zgc, zga, zgb] at k0 k1 k2 k3 k4
   have v0 := zAb JB6.out 0 rfl
   have v1 := zAb JB6.out 1 rfl
   have v2 := zAb JB6.out 2 rfl
   have v3 := zAb JB6.out 3 rfl
   have v4 := zAb JB6.out 4 rfl
   have v5 := zAb JB6.out 5 rfl
   have v6 := zAb JB6.out 6 rfl
   have v7 := zAb JB6.out 7 rfl
   have v8 := zAb JB6.out 8 rfl
   have v9 := zAb JB6.out 9 rfl
   have v10 := zAb JB6.out 10 rfl
   have vf := zAh JB6.out
   have vl := zAg JB6.out
   simp only [zgc, zga, zgb] at v0 v1 v2 v3 v4 v5 v6 v7 v8 v9 v10
   obtain ⟨lo6, xs6, ro6⟩ := P6.out.own
   have RO6 := Lib.hid ro6
   clear ro6
   go_wp2_with fail
   refine (sEarliest_any ⟨A, B, U, R, L, n, m, nu, np, nl, c, d, cu, cp, cl⟩ s.r xs6 lo6 j now _ RO6.out).mono ?_
   rintro e7 w7 ⟨u7, rfl, own7, hb7⟩
   have P7 := Lib.hid (P6.out.step hb7)
   have OJ7 := Lib.hid (zAe OJ6.out hb7)
   have JB7 := Lib.hid (zAf JB6.out hb7)
   have RO7 := Lib.hid (RO6.out.bel hb7)
   obtain ⟨V, cv, rfl, -⟩ := zAq own7
   obtain ⟨EV, hEV⟩ : ∃ y, earlV s.r j now = y := ⟨_, rfl⟩
   rw [hEV] at own7 ⊢
   have HEV := Lib.hid hEV
   have hw6 : w.heap.size ≤ w6.heap.size := P6.out.bel.size
   have HFS : Hid (∀ (i : Nat) y, ss[i]? = some y → ∀ b, y.ownBlock = some b → b < w6.heap.size) := Lib.hid (fun i y hi b hb => P6.out.st.ltx hi hb)
   have HFT : Hid (∀ (i : Nat) y, tt[i]? = some y → ∀ b, y.ownBlock = some b → b < w6.heap.size) := Lib.hid (fun i y hi b hb => P6.out.la.ltx hi hb)
   clear hEV hb7 P6 OJ6 JB6 RO6 k0 k1 k2 k3 k4 kf kl v0 v1 v2 v3 v4 v5 v6 v7 v8 v9 v10 vf vl
   cases EV with
   | none =>
    simp only [eT, eL, Option.map_none, Option.getD_none, List.length_nil, Option.isSome_none]
    go_wp2
    exact ⟨⟨q + 1, ⟨A, B, U, R, L, n, m, nu, np, nl, c, d, cu, cp, cl⟩, ss, tt, by omega, by go_num, by rw [HN.out, planF_none HEV.out]; exact P7.out, _, OJ7.out⟩, by simp [intOf]; omega⟩
   | some p9 =>
    obtain ⟨t, nd⟩ := p9
    have O7 : Hid (w7.ownsRow w6.heap.size 3 1 (.slice V nd.length cv) nd.length (ints nd)) := Lib.hid own7
    clear own7
    simp only [eT, eL, Option.map_some, zgg, Option.isSome_some]
    by_cases h1 : now < t
    ·by_cases h2 : depth ≤ (s.b.length : Int)
     ·go_wp2
      exact ⟨⟨q + 1, ⟨A, B, U, R, L, n, m, nu, np, nl, c, d, cu, cp, cl⟩, ss, tt, by omega, by go_num, by rw [HN.out, planF_late HEV.out ⟨h1, h2⟩]; exact P7.out, _, OJ7.out⟩, by simp [intOf]; omega⟩
     ·skip
      have hndl : nd.length ≤ 1048576 := by have h9 := earl_len9 s.r j now; rw [HEV.out] at h9; simp only [eL, Option.map_some, zgg] at h9; omega
      have k0 := zAb P7.out.bx 0 rfl
      have k1 := zAb P7.out.bx 1 rfl
      have k2 := zAb P7.out.bx 2 rfl
      have k3 := zAb P7.out.bx 3 rfl
      have k4 := zAb P7.out.bx 4 rfl
      have kf := zAh P7.out.bx
      have kl := zAg P7.out.bx
      simp only [zgc, zga, zgb] at k0 k1 k2 k3 k4
      have v0 := zAb JB7.out 0 rfl
      have v1 := zAb JB7.out 1 rfl
      have v2 := zAb JB7.out 2 rfl
      have v3 := zAb JB7.out 3 rfl
      have v4 := zAb JB7.out 4 rfl
      have v5 := zAb JB7.out 5 rfl
      have v6 := zAb JB7.out 6 rfl
      have v7 := zAb JB7.out 7 rfl
      have v8 := zAb JB7.out 8 rfl
      have v9 := zAb JB7.out 9 rfl
      have v10 := zAb JB7.out 10 rfl
      have vf := zAh JB7.out
      have vl := zAg JB7.out
      simp only [zgc, zga, zgb] at v0 v1 v2 v3 v4 v5 v6 v7 v8 v9 v10
      go_wp2_with fail
      refine (sReserve_any ⟨A, B, U, R, L, n, m, nu, np, nl, c, d, cu, cp, cl⟩ s.r xs6 lo6 j V nd.length cv nd _ RO7.out hndl (own_cap9g O7.out).1 (own_cap9g O7.out).2 (zAn O7.out) (zAz O7.out) t).mono ?_
      rintro e8 w8 ⟨a8, rfl, ⟨xs8, ro8⟩, hb8⟩
      obtain ⟨A8, B8, U8, R8, L8, n8, m8, nu8, np8, nl8, c8, d8, cu8, cp8, cl8⟩ := a8
      dsimp only [RA.v]
      have P8 := Lib.hid ((P7.out.step hb8).step (zAa w8 (.cells #[.slice A8 n8 c8, .slice B8 m8 d8, .slice U8 nu8 cu8, .slice R8 np8 cp8, .slice L8 nl8 cl8] 33)))
      have OJ8 := Lib.hid (zAe (zAe OJ7.out hb8) (zAa w8 (.cells #[.slice A8 n8 c8, .slice B8 m8 d8, .slice U8 nu8 cu8, .slice R8 np8 cp8, .slice L8 nl8 cl8] 33)))
      have JB8 := Lib.hid (zAs (zAf JB7.out hb8) (.cells #[.slice A8 n8 c8, .slice B8 m8 d8, .slice U8 nu8 cu8, .slice R8 np8 cp8, .slice L8 nl8 cl8] 33))
      have O8 := Lib.hid (zAe (zAe O7.out hb8) (zAa w8 (.cells #[.slice A8 n8 c8, .slice B8 m8 d8, .slice U8 nu8 cu8, .slice R8 np8 cp8, .slice L8 nl8 cl8] 33)))
      obtain ⟨RV, hRV⟩ : ∃ y, resV s.r j t nd = y := ⟨_, rfl⟩
      rw [hRV] at ro8 ⊢
      have HRV := Lib.hid hRV
      have RO8 := Lib.hid (ro8.bel (zAa w8 (.cells #[.slice A8 n8 c8, .slice B8 m8 d8, .slice U8 nu8 cu8, .slice R8 np8 cp8, .slice L8 nl8 cl8] 33)))
      have NB8 : Hid ((w8.alloc (.cells #[.slice A8 n8 c8, .slice B8 m8 d8, .slice U8 nu8 cu8, .slice R8 np8 cp8, .slice L8 nl8 cl8] 33)).heap[w8.heap.size]? = some (.cells #[.slice A8 n8 c8, .slice B8 m8 d8, .slice U8 nu8 cu8, .slice R8 np8 cp8, .slice L8 nl8 cl8] 33 (0, 0))) := Lib.hid (zAj _ rfl)
      clear hRV ro8 hb8 P7 OJ7 JB7 O7 RO7 k0 k1 k2 k3 k4 kf kl v0 v1 v2 v3 v4 v5 v6 v7 v8 v9 v10 vf vl
      go_upto_region 11 with fail
      generalize w8.alloc (.cells #[.slice A8 n8 c8, .slice B8 m8 d8, .slice U8 nu8 cu8, .slice R8 np8 cp8, .slice L8 nl8 cl8] 33) = w9 at *
      generalize w8.heap.size = b8 at *
      cases RV with
      | none =>
       simp only [Option.isSome_none]
       go_wp2
       exact ⟨⟨q + 1, ⟨A, B, U, R, L, n, m, nu, np, nl, c, d, cu, cp, cl⟩, ss, tt, by omega, by go_num, by rw [HN.out, planF_no HEV.out HRV.out]; exact P8.out, _, OJ8.out⟩, by simp [intOf]; omega⟩
      | some q9 =>
       simp only [Option.isSome_some, zgg] at RO8 ⊢
       have k0 := zAb P8.out.bx 0 rfl
       have k1 := zAb P8.out.bx 1 rfl
       have k2 := zAb P8.out.bx 2 rfl
       have k3 := zAb P8.out.bx 3 rfl
       have k4 := zAb P8.out.bx 4 rfl
       have kf := zAh P8.out.bx
       have kl := zAg P8.out.bx
       simp only [zgc, zga, zgb] at k0 k1 k2 k3 k4
       have y0 := zAb NB8.out 0 rfl
       have y1 := zAb NB8.out 1 rfl
       have y2 := zAb NB8.out 2 rfl
       have y3 := zAb NB8.out 3 rfl
       have y4 := zAb NB8.out 4 rfl
       have yf := zAh NB8.out
       have yl := zAg NB8.out
       simp only [zgc, zga, zgb] at y0 y1 y2 y3 y4
       have OJ9 := Lib.hid (own_set5 OJ8.out P8.out.bx (by decide) (.slice A8 n8 c8) (.slice B8 m8 d8) (.slice U8 nu8 cu8) (.slice R8 np8 cp8) (.slice L8 nl8 cl8))
       have O9 := Lib.hid (own_set5 O8.out P8.out.bx (by decide) (.slice A8 n8 c8) (.slice B8 m8 d8) (.slice U8 nu8 cu8) (.slice R8 np8 cp8) (.slice L8 nl8 cl8))
       have JB9 := Lib.hid (bx_set5 JB8.out (b := w.heap.size) (by omega) (.slice A8 n8 c8) (.slice B8 m8 d8) (.slice U8 nu8 cu8) (.slice R8 np8 cp8) (.slice L8 nl8 cl8))
       have P9 := Lib.hid (P8.out.room RO8.out)
       clear P8 OJ8 JB8 O8 RO8 NB8
       go_upto_region 13 with fail
       clear k0 k1 k2 k3 k4 kf kl y0 y1 y2 y3 y4 yf yl
       generalize (((((w9.setCell ⟨w.heap.size, 0, none⟩ (.slice A8 n8 c8)).setCell ⟨w.heap.size, 1, none⟩ (.slice B8 m8 d8)).setCell ⟨w.heap.size, 2, none⟩ (.slice U8 nu8 cu8)).setCell ⟨w.heap.size, 3, none⟩ (.slice R8 np8 cp8)).setCell ⟨w.heap.size, 4, none⟩ (.slice L8 nl8 cl8)) = wA at *
       have v0 := zAb JB9.out 0 rfl
       have v1 := zAb JB9.out 1 rfl
       have v2 := zAb JB9.out 2 rfl
       have v3 := zAb JB9.out 3 rfl
       have v4 := zAb JB9.out 4 rfl
       have v5 := zAb JB9.out 5 rfl
       have v6 := zAb JB9.out 6 rfl
       have v7 := zAb JB9.out 7 rfl
       have v8 := zAb JB9.out 8 rfl
       have v9 := zAb JB9.out 9 rfl
       have v10 := zAb JB9.out 10 rfl
       have vf := zAh JB9.out
       have vl := zAg JB9.out
       simp only [zgc, zga, zgb] at v0 v1 v2 v3 v4 v5 v6 v7 v8 v9 v10
       by_cases ht : t = now
       ·omega
       ·skip
        go_wp2_with (at_builtin; refine zAw rfl _ _ 37 rfl w.heap.size 41 iH (.agg #[.int .i64 0, .int .i64 0, .slice none 0 0]) 3 40 Tryz.underlying37 hiH hzaH hzbH hzcH rfl (by decide) (.slice YA s.b.length yc) s.b.length (hcells s.b tt) rfl ?ca (some ⟨wA.heap.size, 0, none⟩) 1 1 [.int .i64 j.id, .int .i64 t, .slice V nd.length cv] rfl (Or.inr ⟨_, rfl⟩) ?cb ?cc ?cd ?ce ?cf ?_)
        case ca => exact zAe P9.out.la.own (zAa _ _)
        case cb => exact zAn (own_lit (lo := 0) (cs := [.int .i64 j.id, .int .i64 t, .slice V nd.length cv]) (n := 1) (size := 3) (e := 41) (zAj _ rfl) rfl (by decide) (Nat.zero_le _))
        case cc => intro u hu; simp only [List.mem_cons, List.not_mem_nil, or_false] at hu; rcases hu with rfl | rfl | rfl <;> rfl
        case cd => unfold maxLen; omega
        case ce => omega
        case cf => have := P9.out.bel.size; first | omega | (simp <;> omega)
        intro vZ wZ ownZ hgZ hneZ hatZ
        have OJZ : ∃ lo, wZ.ownsRow lo 95 11 (.slice (some ⟨g, 0, none⟩) OL.length co) OL.length (jflat OL) := ⟨_, zAx (zAe OJ9.out (zAa wA (.cells #[.int .i64 j.id, .int .i64 t, .slice V nd.length cv] 41))) hgZ (fun k hk => own_ap (zAe OJ9.out (zAa wA (.cells #[.int .i64 j.id, .int .i64 t, .slice V nd.length cv] 41))) (zAe P9.out.la.own (zAa wA (.cells #[.int .i64 j.id, .int .i64 t, .slice V nd.length cv] 41))) (by decide) k hk)⟩
        have OJQ := Lib.hid OJZ
        have PZ := Lib.hid ((P9.out.step (zAa wA (.cells #[.int .i64 j.id, .int .i64 t, .slice V nd.length cv] 41))).later (p := ⟨j.id, t, nd⟩) ownZ hgZ (by simpa using hatZ) (zAe O9.out (zAa wA (.cells #[.int .i64 j.id, .int .i64 t, .slice V nd.length cv] 41))) hw6 hndl HFS.out HFT.out)
        clear OJZ ownZ hgZ hneZ hatZ P9 OJ9 O9 v0 v1 v2 v3 v4 v5 v6 v7 v8 v9 v10 vf vl JB9
        go_wp2
        exact ⟨⟨q + 1, _, ss, tt ++ [.slice V nd.length cv], by omega, by go_num, by rw [HN.out, planF_later HEV.out (by omega) ht HRV.out]; exact PZ.out, OJQ.out⟩, by simp [intOf]; omega⟩
    ·skip
     have hndl : nd.length ≤ 1048576 := by have h9 := earl_len9 s.r j now; rw [HEV.out] at h9; simp only [eL, Option.map_some, zgg] at h9; omega
     have k0 := zAb P7.out.bx 0 rfl
     have k1 := zAb P7.out.bx 1 rfl
     have k2 := zAb P7.out.bx 2 rfl
     have k3 := zAb P7.out.bx 3 rfl
     have k4 := zAb P7.out.bx 4 rfl
     have kf := zAh P7.out.bx
     have kl := zAg P7.out.bx
     simp only [zgc, zga, zgb] at k0 k1 k2 k3 k4
     have v0 := zAb JB7.out 0 rfl
     have v1 := zAb JB7.out 1 rfl
     have v2 := zAb JB7.out 2 rfl
     have v3 := zAb JB7.out 3 rfl
     have v4 := zAb JB7.out 4 rfl
     have v5 := zAb JB7.out 5 rfl
     have v6 := zAb JB7.out 6 rfl
     have v7 := zAb JB7.out 7 rfl
     have v8 := zAb JB7.out 8 rfl
     have v9 := zAb JB7.out 9 rfl
     have v10 := zAb JB7.out 10 rfl
     have vf := zAh JB7.out
     have vl := zAg JB7.out
     simp only [zgc, zga, zgb] at v0 v1 v2 v3 v4 v5 v6 v7 v8 v9 v10
     go_wp2_with fail
     refine (sReserve_any ⟨A, B, U, R, L, n, m, nu, np, nl, c, d, cu, cp, cl⟩ s.r xs6 lo6 j V nd.length cv nd _ RO7.out hndl (own_cap9g O7.out).1 (own_cap9g O7.out).2 (zAn O7.out) (zAz O7.out) t).mono ?_
     rintro e8 w8 ⟨a8, rfl, ⟨xs8, ro8⟩, hb8⟩
     obtain ⟨A8, B8, U8, R8, L8, n8, m8, nu8, np8, nl8, c8, d8, cu8, cp8, cl8⟩ := a8
     dsimp only [RA.v]
     have P8 := Lib.hid ((P7.out.step hb8).step (zAa w8 (.cells #[.slice A8 n8 c8, .slice B8 m8 d8, .slice U8 nu8 cu8, .slice R8 np8 cp8, .slice L8 nl8 cl8] 33)))
     have OJ8 := Lib.hid (zAe (zAe OJ7.out hb8) (zAa w8 (.cells #[.slice A8 n8 c8, .slice B8 m8 d8, .slice U8 nu8 cu8, .slice R8 np8 cp8, .slice L8 nl8 cl8] 33)))
     have JB8 := Lib.hid (zAs (zAf JB7.out hb8) (.cells #[.slice A8 n8 c8, .slice B8 m8 d8, .slice U8 nu8 cu8, .slice R8 np8 cp8, .slice L8 nl8 cl8] 33))
     have O8 := Lib.hid (zAe (zAe O7.out hb8) (zAa w8 (.cells #[.slice A8 n8 c8, .slice B8 m8 d8, .slice U8 nu8 cu8, .slice R8 np8 cp8, .slice L8 nl8 cl8] 33)))
     obtain ⟨RV, hRV⟩ : ∃ y, resV s.r j t nd = y := ⟨_, rfl⟩
     rw [hRV] at ro8 ⊢
     have HRV := Lib.hid hRV
     have RO8 := Lib.hid (ro8.bel (zAa w8 (.cells #[.slice A8 n8 c8, .slice B8 m8 d8, .slice U8 nu8 cu8, .slice R8 np8 cp8, .slice L8 nl8 cl8] 33)))
     have NB8 : Hid ((w8.alloc (.cells #[.slice A8 n8 c8, .slice B8 m8 d8, .slice U8 nu8 cu8, .slice R8 np8 cp8, .slice L8 nl8 cl8] 33)).heap[w8.heap.size]? = some (.cells #[.slice A8 n8 c8, .slice B8 m8 d8, .slice U8 nu8 cu8, .slice R8 np8 cp8, .slice L8 nl8 cl8] 33 (0, 0))) := Lib.hid (zAj _ rfl)
     clear hRV ro8 hb8 P7 OJ7 JB7 O7 RO7 k0 k1 k2 k3 k4 kf kl v0 v1 v2 v3 v4 v5 v6 v7 v8 v9 v10 vf vl
     go_upto_region 11 with fail
     generalize w8.alloc (.cells #[.slice A8 n8 c8, .slice B8 m8 d8, .slice U8 nu8 cu8, .slice R8 np8 cp8, .slice L8 nl8 cl8] 33) = w9 at *
     generalize w8.heap.size = b8 at *
     cases RV with
     | none =>
      simp only [Option.isSome_none]
      go_wp2
      exact ⟨⟨q + 1, ⟨A, B, U, R, L, n, m, nu, np, nl, c, d, cu, cp, cl⟩, ss, tt, by omega, by go_num, by rw [HN.out, planF_no HEV.out HRV.out]; exact P8.out, _, OJ8.out⟩, by simp [intOf]; omega⟩
     | some q9 =>
      simp only [Option.isSome_some, zgg] at RO8 ⊢
      have k0 := zAb P8.out.bx 0 rfl
      have k1 := zAb P8.out.bx 1 rfl
      have k2 := zAb P8.out.bx 2 rfl
      have k3 := zAb P8.out.bx 3 rfl
      have k4 := zAb P8.out.bx 4 rfl
      have kf := zAh P8.out.bx
      have kl := zAg P8.out.bx
      simp only [zgc, zga, zgb] at k0 k1 k2 k3 k4
      have y0 := zAb NB8.out 0 rfl
      have y1 := zAb NB8.out 1 rfl
      have y2 := zAb NB8.out 2 rfl
      have y3 := zAb NB8.out 3 rfl
      have y4 := zAb NB8.out 4 rfl
      have yf := zAh NB8.out
      have yl := zAg NB8.out
      simp only [zgc, zga, zgb] at y0 y1 y2 y3 y4
      have OJ9 := Lib.hid (own_set5 OJ8.out P8.out.bx (by decide) (.slice A8 n8 c8) (.slice B8 m8 d8) (.slice U8 nu8 cu8) (.slice R8 np8 cp8) (.slice L8 nl8 cl8))
      have O9 := Lib.hid (own_set5 O8.out P8.out.bx (by decide) (.slice A8 n8 c8) (.slice B8 m8 d8) (.slice U8 nu8 cu8) (.slice R8 np8 cp8) (.slice L8 nl8 cl8))
      have JB9 := Lib.hid (bx_set5 JB8.out (b := w.heap.size) (by omega) (.slice A8 n8 c8) (.slice B8 m8 d8) (.slice U8 nu8 cu8) (.slice R8 np8 cp8) (.slice L8 nl8 cl8))
      have P9 := Lib.hid (P8.out.room RO8.out)
      clear P8 OJ8 JB8 O8 RO8 NB8
      go_upto_region 13 with fail
      clear k0 k1 k2 k3 k4 kf kl y0 y1 y2 y3 y4 yf yl
      generalize (((((w9.setCell ⟨w.heap.size, 0, none⟩ (.slice A8 n8 c8)).setCell ⟨w.heap.size, 1, none⟩ (.slice B8 m8 d8)).setCell ⟨w.heap.size, 2, none⟩ (.slice U8 nu8 cu8)).setCell ⟨w.heap.size, 3, none⟩ (.slice R8 np8 cp8)).setCell ⟨w.heap.size, 4, none⟩ (.slice L8 nl8 cl8)) = wA at *
      have v0 := zAb JB9.out 0 rfl
      have v1 := zAb JB9.out 1 rfl
      have v2 := zAb JB9.out 2 rfl
      have v3 := zAb JB9.out 3 rfl
      have v4 := zAb JB9.out 4 rfl
      have v5 := zAb JB9.out 5 rfl
      have v6 := zAb JB9.out 6 rfl
      have v7 := zAb JB9.out 7 rfl
      have v8 := zAb JB9.out 8 rfl
      have v9 := zAb JB9.out 9 rfl
      have v10 := zAb JB9.out 10 rfl
      have vf := zAh JB9.out
      have vl := zAg JB9.out
      simp only [zgc, zga, zgb] at v0 v1 v2 v3 v4 v5 v6 v7 v8 v9 v10
      by_cases ht : t = now
      ·subst ht
       go_wp2_with (at_builtin; refine zAw rfl _ _ 37 rfl w.heap.size 41 iH (.agg #[.int .i64 0, .int .i64 0, .slice none 0 0]) 3 40 Tryz.underlying37 hiH hzaH hzbH hzcH rfl (by decide) (.slice XA s.a.length xc) s.a.length (hcells s.a ss) rfl ?ca (some ⟨wA.heap.size, 0, none⟩) 1 1 [.int .i64 j.id, .int .i64 t, .slice V nd.length cv] rfl (Or.inr ⟨_, rfl⟩) ?cb ?cc ?cd ?ce ?cf ?_)
       case ca => exact zAe P9.out.st.own (zAa _ _)
       case cb => exact zAn (own_lit (lo := 0) (cs := [.int .i64 j.id, .int .i64 t, .slice V nd.length cv]) (n := 1) (size := 3) (e := 41) (zAj _ rfl) rfl (by decide) (Nat.zero_le _))
       case cc => intro u hu; simp only [List.mem_cons, List.not_mem_nil, or_false] at hu; rcases hu with rfl | rfl | rfl <;> rfl
       case cd => unfold maxLen; omega
       case ce => omega
       case cf => have := P9.out.bel.size; first | omega | (simp <;> omega)
       intro vZ wZ ownZ hgZ hneZ hatZ
       have OJZ : ∃ lo, wZ.ownsRow lo 95 11 (.slice (some ⟨g, 0, none⟩) OL.length co) OL.length (jflat OL) := ⟨_, zAx (zAe OJ9.out (zAa wA (.cells #[.int .i64 j.id, .int .i64 t, .slice V nd.length cv] 41))) hgZ (fun k hk => own_ap (zAe OJ9.out (zAa wA (.cells #[.int .i64 j.id, .int .i64 t, .slice V nd.length cv] 41))) (zAe P9.out.st.own (zAa wA (.cells #[.int .i64 j.id, .int .i64 t, .slice V nd.length cv] 41))) (by decide) k hk)⟩
       have OJQ := Lib.hid OJZ
       have PZ := Lib.hid ((P9.out.step (zAa wA (.cells #[.int .i64 j.id, .int .i64 t, .slice V nd.length cv] 41))).start (p := ⟨j.id, t, nd⟩) ownZ hgZ (by simpa using hatZ) (zAe O9.out (zAa wA (.cells #[.int .i64 j.id, .int .i64 t, .slice V nd.length cv] 41))) hw6 hndl HFS.out HFT.out)
       clear OJZ ownZ hgZ hneZ hatZ P9 OJ9 O9 v0 v1 v2 v3 v4 v5 v6 v7 v8 v9 v10 vf vl JB9
       go_wp2
       exact ⟨⟨q + 1, _, ss ++ [.slice V nd.length cv], tt, by omega, by go_num, by rw [HN.out, planF_now HEV.out HRV.out]; exact PZ.out, OJQ.out⟩, by simp [intOf]; omega⟩
      ·skip
       go_wp2_with (at_builtin; refine zAw rfl _ _ 37 rfl w.heap.size 41 iH (.agg #[.int .i64 0, .int .i64 0, .slice none 0 0]) 3 40 Tryz.underlying37 hiH hzaH hzbH hzcH rfl (by decide) (.slice YA s.b.length yc) s.b.length (hcells s.b tt) rfl ?ca (some ⟨wA.heap.size, 0, none⟩) 1 1 [.int .i64 j.id, .int .i64 t, .slice V nd.length cv] rfl (Or.inr ⟨_, rfl⟩) ?cb ?cc ?cd ?ce ?cf ?_)
       case ca => exact zAe P9.out.la.own (zAa _ _)
       case cb => exact zAn (own_lit (lo := 0) (cs := [.int .i64 j.id, .int .i64 t, .slice V nd.length cv]) (n := 1) (size := 3) (e := 41) (zAj _ rfl) rfl (by decide) (Nat.zero_le _))
       case cc => intro u hu; simp only [List.mem_cons, List.not_mem_nil, or_false] at hu; rcases hu with rfl | rfl | rfl <;> rfl
       case cd => unfold maxLen; omega
       case ce => omega
       case cf => have := P9.out.bel.size; first | omega | (simp <;> omega)
       intro vZ wZ ownZ hgZ hneZ hatZ
       have OJZ : ∃ lo, wZ.ownsRow lo 95 11 (.slice (some ⟨g, 0, none⟩) OL.length co) OL.length (jflat OL) := ⟨_, zAx (zAe OJ9.out (zAa wA (.cells #[.int .i64 j.id, .int .i64 t, .slice V nd.length cv] 41))) hgZ (fun k hk => own_ap (zAe OJ9.out (zAa wA (.cells #[.int .i64 j.id, .int .i64 t, .slice V nd.length cv] 41))) (zAe P9.out.la.own (zAa wA (.cells #[.int .i64 j.id, .int .i64 t, .slice V nd.length cv] 41))) (by decide) k hk)⟩
       have OJQ := Lib.hid OJZ
       have PZ := Lib.hid ((P9.out.step (zAa wA (.cells #[.int .i64 j.id, .int .i64 t, .slice V nd.length cv] 41))).later (p := ⟨j.id, t, nd⟩) ownZ hgZ (by simpa using hatZ) (zAe O9.out (zAa wA (.cells #[.int .i64 j.id, .int .i64 t, .slice V nd.length cv] 41))) hw6 hndl HFS.out HFT.out)
       clear OJZ ownZ hgZ hneZ hatZ P9 OJ9 O9 v0 v1 v2 v3 v4 v5 v6 v7 v8 v9 v10 vf vl JB9
       go_wp2
       exact ⟨⟨q + 1, _, ss, tt ++ [.slice V nd.length cv], by omega, by go_num, by rw [HN.out, planF_later HEV.out (by omega) ht HRV.out]; exact PZ.out, OJQ.out⟩, by simp [intOf]; omega⟩
  ·obtain rfl : q = OL.length := by omega
   have hlt' : ¬ ((OL.length : Nat) : Int) < OL.length := by omega
   have hs9 : plS r now js depth = s := by
    have h1 := HS.out
    rw [List.take_of_length_le (Nat.le_refl _), HOL.out] at h1
    unfold plS
    rw [if_pos HPB.out, h1]
    rfl
   go_wp2
   (try go_light)
   refine bodyPost_ret (v := .tuple #[.slice XA s.a.length xc, .slice YA s.b.length yc, .bool true]) (by simp [results, Tryz.results13, go_sem]) rfl ?_
   rw [HPB.out]
   exact ⟨_, _, rfl, ss, P1.out.st, tt, P1.out.la, P1.out.row, P1.out.far, P1.out.bel⟩
end Go.Proofs.YtnphjhbfpoekpaaGreat
