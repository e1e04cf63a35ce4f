/-
  Kept (the reference).
-/
import Derived.Test.YtnphjhbfpoekpaaGreatIcPe
import Derived.Deep.QuietTactic
namespace Go.Proofs.YtnphjhbfpoekpaaGreat
set_option linter.unusedSimpArgs false
set_option linter.unusedVariables false
set_option linter.unnecessarySimpa false
open Go.RowKit
theorem any_noH {hs : List Hd} {q : Nat} {v : Int} (h : ∀ (i : Nat) x, i < q → hs[i]? = some x → x.id ≠ v) : ((hs.take q).any fun y => y.id == v) = false := by
  rw [List.any_eq_false]
  intro x hx
  obtain ⟨i, hi⟩ := List.mem_iff_getElem?.1 hx
  rw [List.getElem?_take] at hi
  split at hi
  · have := h i x (by assumption) hi
    simpa using this
  · cases hi
theorem any_yesH {hs : List Hd} {q i : Nat} {v : Int} {x : Hd} (h : i < q) (hx : hs[i]? = some x) (he : x.id = v) : ((hs.take q).any fun y => y.id == v) = true := by
  rw [List.any_eq_true]
  exact ⟨x, List.mem_iff_getElem?.2 ⟨i, by rw [List.getElem?_take, if_pos h]; exact hx⟩, by simp [he]⟩
set_option maxHeartbeats 16000000 in
set_option maxRecDepth 20000 in
theorem sKept_any (a : RA) (r : Rm) (xs : List Value) (lo0 : Nat) (D : Option Addr) (k e : Nat) (js : List J) (Z : Option Addr) (z cz : Nat) (ss : List Value) (hs : List Hd) (w : World) (h : RoomOwn w lo0 a r xs) (hk : k ≤ 1048576) (hke : k ≤ e) (he : e ≤ 9223372036854775807) (hd : Rd w D k 11 (jflat js)) (hl3 : ∀ g, D = some ⟨g, 0, none⟩ → g < w.heap.size) (hn : z ≤ 1048576) (hnc : z ≤ cz) (hc9 : cz ≤ 9223372036854775807) (hh : RdH w Z z ss hs) :
    Calls Tryz.prog 18 #[a.v, .slice D k e, .slice Z z cz] w fun e' w' => e' = .returned (.bool (keptB r js hs)) ∧ Below w.heap.size w w' := by
  have H := Lib.hid h
  obtain ⟨A, B, U, R, L, n, m, nu, np, nl, c, d, cu, cp, cl⟩ := a
  dsimp only [RA.v]
  have HD := Lib.hid hd
  have HL3 := Lib.hid hl3
  have HZ := Lib.hid hh
  clear h hd hl3 hh
  go_enter Tryz.func18, Tryz.ntmps18
  have B0 := Lib.hid (below_alloc w (.cells #[.slice A n c, .slice B m d, .slice U nu cu, .slice R np cp, .slice L nl cl] 33))
  have XB0 : Hid ((w.alloc (.cells #[.slice A n c, .slice B m d, .slice U nu cu, .slice R np cp, .slice L nl cl] 33)).heap[w.heap.size]? = some (.cells #[.slice A n c, .slice B m d, .slice U nu cu, .slice R np cp, .slice L nl cl] 33 (0, 0))) := Lib.hid (heap_at _ rfl)
  go_upto_region 1 with fail
  generalize w.alloc (.cells #[.slice A n c, .slice B m d, .slice U nu cu, .slice R np cp, .slice L nl cl] 33) = w0 at *
  have k0 := bx_cell XB0.out 0 rfl
  have k1 := bx_cell XB0.out 1 rfl
  have k2 := bx_cell XB0.out 2 rfl
  have k3 := bx_cell XB0.out 3 rfl
  have k4 := bx_cell XB0.out 4 rfl
  have kf := bx_frz XB0.out
  have kl := heap_lt XB0.out
  simp only [List.getElem_toArray, List.getElem_cons_zero, List.getElem_cons_succ] at k0 k1 k2 k3 k4
  go_wp2_with fail
  refine (sroomOk_any ⟨A, B, U, R, L, n, m, nu, np, nl, c, d, cu, cp, cl⟩ r _ (H.out.bel B0.out).rd).mono ?_
  rintro e1 w1 ⟨rfl, hb1⟩
  have B1 := Lib.hid (bstep B0.out hb1)
  have XB1 := Lib.hid (bx_below XB0.out hb1)
  clear hb1 k0 k1 k2 k3 k4 kf kl
  cases hro : r.okB
  · skip
    go_wp2
    (try go_light)
    refine bodyPost_ret (v := .bool false) (by simp [results, Tryz.results18, go_sem, *]) rfl ?_
    exact ⟨ret_bool (show false = keptB r js hs from by unfold keptB; simp [hro]), B1.out⟩
  go_wp2_with fail
  refine (squeueOk_any D k e js _ hk (HD.out.below HL3.out B1.out) (lt_below HL3.out B1.out)).mono ?_
  rintro e2 w2 ⟨rfl, hb2⟩
  have B2 := Lib.hid (bstep B1.out hb2)
  have XB2 := Lib.hid (bx_below XB1.out hb2)
  clear hb2
  cases hqo : queueB js
  · skip
    go_wp2
    (try go_light)
    refine bodyPost_ret (v := .bool false) (by simp [results, Tryz.results18, go_sem, *]) rfl ?_
    exact ⟨ret_bool (show false = keptB r js hs from by unfold keptB; simp [hqo]), B2.out⟩
  have HKB : Hid (keptB r js hs = keptL js r [] hs) := Lib.hid (by unfold keptB; rw [hro, hqo]; rfl)
  have P2 : Hid (KN w w2 w.heap.size ⟨A, B, U, R, L, n, m, nu, np, nl, c, d, cu, cp, cl⟩ r) := Lib.hid ⟨XB2.out, ⟨_, xs, H.out.bel B2.out⟩, B2.out, Nat.le_refl _⟩
  clear hro hqo XB0 XB1 XB2 B0 B1 B2 H
  go_wp2
  go_loopw [24] (fun i wr => ∃ (q : Nat) (a : RA) (r' : Rm), q ≤ z ∧ i = .int .i64 q ∧ KN w wr w.heap.size a r' ∧ Hid (keptL js r [] hs = keptL js r' (seenV hs q) (hs.drop q))) (fun i _ => z - (intOf i).toNat)
  case atStart => exact ⟨0, ⟨A, B, U, R, L, n, m, nu, np, nl, c, d, cu, cp, cl⟩, r, Nat.zero_le _, rfl, P2.out, Lib.hid (by simp [seenV])⟩
  case round =>
    clear P2
    obtain ⟨q, a, s, hq, rfl, P', hkl⟩ := hrel
    obtain ⟨wo, rfl⟩ : ∃ x, x = wr := ⟨wr, rfl⟩
    have P1 := Lib.hid P'
    clear P'
    obtain ⟨A, B, U, R, L, n, m, nu, np, nl, c, d, cu, cp, cl⟩ := a
    by_cases hlt : q < z
    · have hlt' : (q : Int) < z := by omega
      obtain ⟨g, p, X, dX, rfl, hp, hx, l1, l2, l3, rX, lX, hg, c0, c1, c2⟩ := (HZ.out.bel P1.out.bel).row hlt
      have hgw : g < w.heap.size := HZ.out.rl g rfl
      have HPQ := Lib.hid hp
      have RX := Lib.hid rX
      have LX := Lib.hid lX
      have L1 := Lib.hid l1
      have L2 := Lib.hid l2
      have L3 := Lib.hid l3
      have P6 := Lib.hid (P1.out.step (below_alloc wo (.cells #[.int .i64 p.id, .int .i64 p.at_, .slice X p.nd.length dX] 41)))
      have HB6 : Hid ((wo.alloc (.cells #[.int .i64 p.id, .int .i64 p.at_, .slice X p.nd.length dX] 41)).heap[wo.heap.size]? = some (.cells #[.int .i64 p.id, .int .i64 p.at_, .slice X p.nd.length dX] 41 (0, 0))) := Lib.hid (heap_at _ rfl)
      have BW6 := Lib.hid (below_alloc wo (.cells #[.int .i64 p.id, .int .i64 p.at_, .slice X p.nd.length dX] 41))
      clear hp hx rX lX l1 l2 l3
      go_upto_region 6 with fail
      have hwo : wo.heap.size = wo.heap.size := rfl
      clear c0 c1 c2 hwo P1
      generalize wo.alloc (.cells #[.int .i64 p.id, .int .i64 p.at_, .slice X p.nd.length dX] 41) = w6 at *
      have hbo : wo.heap.size < w6.heap.size := heap_lt HB6.out
      have v0 := bx_cell HB6.out 0 rfl
      have v1 := bx_cell HB6.out 1 rfl
      have v2 := bx_cell HB6.out 2 rfl
      have vf := bx_frz HB6.out
      have vl := heap_lt HB6.out
      simp only [List.getElem_toArray, List.getElem_cons_zero, List.getElem_cons_succ] at v0 v1 v2
      go_wp2_with fail
      refine (sFind_any D k e js p.id _ (by omega) (HD.out.below HL3.out P6.out.bel) (lt_below HL3.out P6.out.bel)).mono ?_
      rintro e7 w7 ⟨jj, rfl, hjj, hb7⟩
      have HJJ := Lib.hid hjj
      obtain ⟨FV, hFV⟩ : ∃ y, findJ js p.id = y := ⟨_, rfl⟩
      have HFV := Lib.hid hFV
      rw [hFV]
      have P8 := Lib.hid ((P6.out.step hb7).step (below_alloc w7 (.cells #[.int .i64 jj.id, .int .i64 jj.pr, .int .i64 jj.nn, .int .i64 jj.na, .int .i64 jj.nb, .int .i64 jj.nc, .int .i64 jj.la, .int .i64 jj.lb, .int .i64 jj.lc, .int .i64 jj.wl, .int .i64 jj.lv] 95)))
      have HB8 := Lib.hid (bx_alloc (bx_below HB6.out hb7) (.cells #[.int .i64 jj.id, .int .i64 jj.pr, .int .i64 jj.nn, .int .i64 jj.na, .int .i64 jj.nb, .int .i64 jj.nc, .int .i64 jj.la, .int .i64 jj.lb, .int .i64 jj.lc, .int .i64 jj.wl, .int .i64 jj.lv] 95))
      have BW8 := Lib.hid (bstep (bstep BW6.out hb7) (below_alloc w7 (.cells #[.int .i64 jj.id, .int .i64 jj.pr, .int .i64 jj.nn, .int .i64 jj.na, .int .i64 jj.nb, .int .i64 jj.nc, .int .i64 jj.la, .int .i64 jj.lb, .int .i64 jj.lc, .int .i64 jj.wl, .int .i64 jj.lv] 95)))
      have JB8 : Hid ((w7.alloc (.cells #[.int .i64 jj.id, .int .i64 jj.pr, .int .i64 jj.nn, .int .i64 jj.na, .int .i64 jj.nb, .int .i64 jj.nc, .int .i64 jj.la, .int .i64 jj.lb, .int .i64 jj.lc, .int .i64 jj.wl, .int .i64 jj.lv] 95)).heap[w7.heap.size]? = some (.cells #[.int .i64 jj.id, .int .i64 jj.pr, .int .i64 jj.nn, .int .i64 jj.na, .int .i64 jj.nb, .int .i64 jj.nc, .int .i64 jj.la, .int .i64 jj.lb, .int .i64 jj.lc, .int .i64 jj.wl, .int .i64 jj.lv] 95 (0, 0))) := Lib.hid (heap_at _ rfl)
      clear v0 v1 v2 vf vl hb7 hjj hFV P6 HB6 BW6
      go_upto_region 7 with fail
      generalize w7.alloc (.cells #[.int .i64 jj.id, .int .i64 jj.pr, .int .i64 jj.nn, .int .i64 jj.na, .int .i64 jj.nb, .int .i64 jj.nc, .int .i64 jj.la, .int .i64 jj.lb, .int .i64 jj.lc, .int .i64 jj.wl, .int .i64 jj.lv] 95) = w8 at *
      generalize w7.heap.size = bj at *
      obtain ⟨lo8, xs8, ro8⟩ := P8.out.own
      have RO8 := Lib.hid ro8
      clear ro8
      have k0 := bx_cell P8.out.bx 0 rfl
      have k1 := bx_cell P8.out.bx 1 rfl
      have k2 := bx_cell P8.out.bx 2 rfl
      have k3 := bx_cell P8.out.bx 3 rfl
      have k4 := bx_cell P8.out.bx 4 rfl
      have kf := bx_frz P8.out.bx
      have kl := heap_lt P8.out.bx
      simp only [List.getElem_toArray, List.getElem_cons_zero, List.getElem_cons_succ] at k0 k1 k2 k3 k4
      have v0 := bx_cell HB8.out 0 rfl
      have v1 := bx_cell HB8.out 1 rfl
      have v2 := bx_cell HB8.out 2 rfl
      have vf := bx_frz HB8.out
      have vl := heap_lt HB8.out
      simp only [List.getElem_toArray, List.getElem_cons_zero, List.getElem_cons_succ] at v0 v1 v2
      have u0 := bx_cell JB8.out 0 rfl
      have u1 := bx_cell JB8.out 1 rfl
      have u2 := bx_cell JB8.out 2 rfl
      have u3 := bx_cell JB8.out 3 rfl
      have u4 := bx_cell JB8.out 4 rfl
      have u5 := bx_cell JB8.out 5 rfl
      have u6 := bx_cell JB8.out 6 rfl
      have u7 := bx_cell JB8.out 7 rfl
      have u8 := bx_cell JB8.out 8 rfl
      have u9 := bx_cell JB8.out 9 rfl
      have u10 := bx_cell JB8.out 10 rfl
      have uf := bx_frz JB8.out
      have ul := heap_lt JB8.out
      simp only [List.getElem_toArray, List.getElem_cons_zero, List.getElem_cons_succ] at u0 u1 u2 u3 u4 u5 u6 u7 u8 u9 u10
      go_wp2_with fail
      refine (sReserve_any ⟨A, B, U, R, L, n, m, nu, np, nl, c, d, cu, cp, cl⟩ s xs8 lo8 jj X p.nd.length dX p.nd _ RO8.out L1.out L2.out L3.out (RX.out.below LX.out BW8.out) (lt_below LX.out BW8.out) p.at_).mono ?_
      rintro e9 w9 ⟨a9, rfl, ⟨xs9, ro9⟩, hb9⟩
      obtain ⟨A9, B9, U9, R9, L9, n9, m9, nu9, np9, nl9, c9, d9, cu9, cp9, cl9⟩ := a9
      dsimp only [RA.v]
      obtain ⟨RV, hRV⟩ : ∃ y, resV s jj p.at_ p.nd = y := ⟨_, rfl⟩
      rw [hRV] at ro9 ⊢
      have HRV := Lib.hid hRV
      have P9 := Lib.hid ((P8.out.step hb9).step (below_alloc w9 (.cells #[.slice A9 n9 c9, .slice B9 m9 d9, .slice U9 nu9 cu9, .slice R9 np9 cp9, .slice L9 nl9 cl9] 33)))
      have HB9 := Lib.hid (bx_alloc (bx_below HB8.out hb9) (.cells #[.slice A9 n9 c9, .slice B9 m9 d9, .slice U9 nu9 cu9, .slice R9 np9 cp9, .slice L9 nl9 cl9] 33))
      have RO9 := Lib.hid (ro9.bel (below_alloc w9 (.cells #[.slice A9 n9 c9, .slice B9 m9 d9, .slice U9 nu9 cu9, .slice R9 np9 cp9, .slice L9 nl9 cl9] 33)))
      have NB9 : Hid ((w9.alloc (.cells #[.slice A9 n9 c9, .slice B9 m9 d9, .slice U9 nu9 cu9, .slice R9 np9 cp9, .slice L9 nl9 cl9] 33)).heap[w9.heap.size]? = some (.cells #[.slice A9 n9 c9, .slice B9 m9 d9, .slice U9 nu9 cu9, .slice R9 np9 cp9, .slice L9 nl9 cl9] 33 (0, 0))) := Lib.hid (heap_at _ rfl)
      clear hRV ro9 hb9 P8 HB8 JB8 BW8 RO8 k0 k1 k2 k3 k4 kf kl v0 v1 v2 vf vl u0 u1 u2 u3 u4 u5 u6 u7 u8 u9 u10 uf ul
      go_upto_region 8 with fail
      generalize w9.alloc (.cells #[.slice A9 n9 c9, .slice B9 m9 d9, .slice U9 nu9 cu9, .slice R9 np9 cp9, .slice L9 nl9 cl9] 33) = wA at *
      generalize w9.heap.size = bq at *
      cases FV with
      | none =>
        simp only [Option.isSome_none]
        go_wp2
        (try go_light)
        refine bodyPost_ret (v := .bool false) (by simp [results, Tryz.results18, go_sem, *]) rfl ?_
        exact ⟨ret_bool (by rw [HKB.out, hkl.out, drop_cons' HPQ.out]; exact (keptL_none HFV.out).symm), P9.out.bel⟩
      | some j =>
        obtain rfl : jj = j := by have h9 := HJJ.out; rw [HFV.out] at h9; exact h9
        simp only [Option.isSome_some]
        cases RV with
        | none =>
          simp only [Option.isSome_none]
          go_wp2
          (try go_light)
          refine bodyPost_ret (v := .bool false) (by simp [results, Tryz.results18, go_sem, *]) rfl ?_
          exact ⟨ret_bool (by rw [HKB.out, hkl.out, drop_cons' HPQ.out]; exact (keptL_no HFV.out HRV.out).symm), P9.out.bel⟩
        | some q9 =>
          simp only [Option.isSome_some, Option.getD_some] at RO9 ⊢
          go_wp2
          go_loopw [13] (fun v wi => ∃ i : Nat, i ≤ q ∧ v = .int .i64 i ∧ Below wA.heap.size wA wi ∧ Hid (∀ (h : Nat) x, h < i → hs[h]? = some x → x.id ≠ p.id)) (fun v _ => q - (intOf v).toNat)
          case atStart => exact ⟨0, Nat.zero_le _, rfl, Below.refl _ _, Lib.hid fun i j hi => absurd hi (by omega)⟩
          case round =>
          obtain ⟨i, hiq, rfl, hbi, hin⟩ := hrel
          by_cases hlti : i < q
          · have hlti' : (i : Int) < q := by omega
            have hltz : (i : Int) < z := by omega
            have hi0 : (0 : Int) ≤ (i : Int) := by omega
            obtain ⟨g2, p2, X2, d2, hg2, hp2, hx2, l1, l2, l3, rX, lX, hg9, c0, c1, c2⟩ := (HZ.out.bel (bstep P9.out.bel hbi)).row (show i < z by omega)
            obtain rfl : g = g2 := by simpa using hg2
            have e0 := bx_cell (bx_below HB9.out hbi) 0 rfl
            have el := heap_lt (bx_below HB9.out hbi)
            simp only [List.getElem_toArray, List.getElem_cons_zero, List.getElem_cons_succ] at e0
            have HP2 := Lib.hid hp2
            have HBI := Lib.hid hbi
            clear hg2 hp2 hx2 l1 l2 l3 rX lX c1 c2 hbi
            go_wp2
            go_quiet (fail)
            by_cases he : p2.id = p.id
            · have HF := Lib.hid (any_yesH hlti HP2.out he)
              have he' : (p2.id == p.id) = true := by simp [he]
              clear he
              go_wp2
              (try go_light)
              refine bodyPost_ret (v := .bool false) (by simp [results, Tryz.results18, go_sem, *]) rfl ?_
              exact ⟨ret_bool (by rw [HKB.out, hkl.out, drop_cons' HPQ.out]; exact (keptL_dup (seenV_any.trans HF.out)).symm), (by have := P9.out.bel; have := HBI.out; repeat (first | exact Below.refl _ _ | assumption | (refine bstep ?_ (below_drewN _ _)) | exact bstep (by assumption) (by assumption) | (refine bstep ?_ (below_alloc _ _)) | (refine bstep ?_ (by assumption)) | (refine Below.setCell ?_ (by simp <;> omega) _) | refine Below.drew ?_))⟩
            · have he' : (p2.id == p.id) = false := by simp [he]
              have HE := Lib.hid he
              clear he
              go_wp2
              go_roundw
              case rel =>
                refine ⟨i + 1, by omega, by go_num, by have := HBI.out; repeat (first | exact Below.refl _ _ | assumption | (refine bstep ?_ (below_drewN _ _)) | exact bstep (by assumption) (by assumption) | (refine bstep ?_ (below_alloc _ _)) | (refine bstep ?_ (by assumption)) | (refine Below.setCell ?_ (by simp <;> omega) _) | refine Below.drew ?_), Lib.hid fun h x hh hx => ?_⟩
                by_cases hhi : h < i
                · exact hin.out h x hhi hx
                · have : h = i := by omega
                  subst this
                  rw [HP2.out] at hx
                  rw [← Option.some.inj hx]; exact HE.out
              case measure => simp [intOf]; omega
          · obtain rfl : i = q := by omega
            have hlti' : ¬ ((i : Nat) : Int) < i := by omega
            have P10 := Lib.hid (P9.out.step hbi)
            have NB10 := Lib.hid (bx_below NB9.out hbi)
            have RO10 := Lib.hid (RO9.out.bel hbi)
            have HA := Lib.hid (any_noH hin.out)
            clear hbi hin
            have k0 := bx_cell P10.out.bx 0 rfl
            have k1 := bx_cell P10.out.bx 1 rfl
            have k2 := bx_cell P10.out.bx 2 rfl
            have k3 := bx_cell P10.out.bx 3 rfl
            have k4 := bx_cell P10.out.bx 4 rfl
            have kf := bx_frz P10.out.bx
            have kl := heap_lt P10.out.bx
            simp only [List.getElem_toArray, List.getElem_cons_zero, List.getElem_cons_succ] at k0 k1 k2 k3 k4
            have y0 := bx_cell NB10.out 0 rfl
            have y1 := bx_cell NB10.out 1 rfl
            have y2 := bx_cell NB10.out 2 rfl
            have y3 := bx_cell NB10.out 3 rfl
            have y4 := bx_cell NB10.out 4 rfl
            have yf := bx_frz NB10.out
            have yl := heap_lt NB10.out
            simp only [List.getElem_toArray, List.getElem_cons_zero, List.getElem_cons_succ] at y0 y1 y2 y3 y4
            have P11 := Lib.hid (P10.out.room RO10.out)
            have HKN : Hid (keptL js r [] hs = keptL js q9 (seenV hs (i + 1)) (hs.drop (i + 1))) := Lib.hid (by rw [hkl.out, drop_cons' HPQ.out, seenV_snoc HPQ.out]; exact keptL_go HFV.out (seenV_any.trans HA.out) HRV.out)
            go_wp2
            exact ⟨⟨i + 1, ⟨A9, B9, U9, R9, L9, n9, m9, nu9, np9, nl9, c9, d9, cu9, cp9, cl9⟩, q9, by omega, by go_num, P11.out, HKN⟩, by simp [intOf]; omega⟩
    · obtain rfl : q = z := by omega
      have hlt' : ¬ ((q : Nat) : Int) < q := by omega
      go_wp2
      (try go_light)
      refine bodyPost_ret (v := .bool true) (by simp [results, Tryz.results18, go_sem, *]) rfl ?_
      exact ⟨ret_bool (by rw [HKB.out, hkl.out, List.drop_of_length_le (by have := HZ.out.len; omega)]; rfl), P1.out.bel⟩
end Go.Proofs.YtnphjhbfpoekpaaGreat
