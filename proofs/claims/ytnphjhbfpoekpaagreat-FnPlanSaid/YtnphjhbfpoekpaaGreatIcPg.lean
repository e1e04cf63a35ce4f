import Derived.Test.YtnphjhbfpoekpaaGreatIaPg
import Derived.Test.YtnphjhbfpoekpaaGreatLr0Pg
import Derived.Deep.DeepCutAuto
namespace Go.Proofs.YtnphjhbfpoekpaaGreat
set_option linter.unusedSimpArgs false
set_option linter.unusedVariables false
set_option linter.unnecessarySimpa false
open Go.RowKit
theorem keptL_none {l : List J} {r : Rm} {seen : List Int} {h : Hd} {hs : List Hd} (hf : findJ l h.id = none) : keptL l r seen (h :: hs) = false := by simp [keptL, hf]
theorem keptL_dup {l : List J} {r : Rm} {seen : List Int} {h : Hd} {hs : List Hd} (hc : seen.contains h.id = true) : keptL l r seen (h :: hs) = false := by
 unfold keptL
 cases hf : findJ l h.id with
 | none => rfl
 | some j => simp only [hc, Bool.not_true, Bool.false_and]
theorem keptL_no {l : List J} {r : Rm} {seen : List Int} {h : Hd} {hs : List Hd} {j : J} (hf : findJ l h.id = some j) (hr : resV r j h.at_ h.nd = none) : keptL l r seen (h :: hs) = false := by
 simp only [keptL, hf, hr, Bool.and_false]
theorem keptL_go {l : List J} {r s : Rm} {seen : List Int} {h : Hd} {hs : List Hd} {j : J} (hf : findJ l h.id = some j) (hc : seen.contains h.id = false) (hr : resV r j h.at_ h.nd = some s) : keptL l r seen (h :: hs) = keptL l s (seen ++ [h.id]) hs := by
 simp only [keptL, hf, hr, hc, Bool.not_false, Bool.true_and]
theorem drop_cons' {α : Type} {l : List α} {q : Nat} {p : α} (h : l[q]? = some p) : l.drop q = p :: l.drop (q + 1) := by
 obtain ⟨h1, h2⟩ := List.getElem?_eq_some_iff.1 h
 rw [List.drop_eq_getElem_cons h1, h2]
def seenV (hs : List Hd) (q : Nat) : List Int := (hs.take q).map Hd.id
theorem seenV_snoc {hs : List Hd} {q : Nat} {p : Hd} (h : hs[q]? = some p) : seenV hs (q + 1) = seenV hs q ++ [p.id] := by unfold seenV; rw [zAx h]; simp
theorem seenV_any {hs : List Hd} {q : Nat} {x : Int} : (seenV hs q).contains x = (hs.take q).any fun y => y.id == x := by
 unfold seenV
 induction hs.take q with
 | nil => rfl
 | cons a l ih => rw [List.map_cons, List.contains_cons, ih, List.any_cons, show (x == a.id) = (a.id == x) from BEq.comm]
structure KN (w wr : World) (b : Nat) (a : RA) (r : Rm) : Prop where
 bx : wr.heap[b]? = some (.cells #[.slice a.A a.n a.c, .slice a.B a.m a.d, .slice a.U a.nu a.cu, .slice a.R a.np a.cp, .slice a.L a.nl a.cl] 33 (0, 0))
 own : ∃ lo xs, RoomOwn wr lo a r xs
 bel : Below w.heap.size w wr
 hb : w.heap.size ≤ b
theorem KN.step {w wr w' : World} {b : Nat} {a : RA} {r : Rm} (h : KN w wr b a r) (hb : Below wr.heap.size wr w') : KN w w' b a r := by
 obtain ⟨lo, xs, ho⟩ := h.own
 exact ⟨zAf h.bx hb, ⟨lo, xs, ho.bel hb⟩, zAc h.bel hb, h.hb⟩
theorem KN.room {w wr : World} {b : Nat} {a a' : RA} {r r' : Rm} {lo : Nat} {xs : List Value} (h : KN w wr b a r) (ho : RoomOwn wr lo a' r' xs) :
  KN w (((((wr.setCell ⟨b, 0, none⟩ (.slice a'.A a'.n a'.c)).setCell ⟨b, 1, none⟩ (.slice a'.B a'.m a'.d)).setCell ⟨b, 2, none⟩ (.slice a'.U a'.nu a'.cu)).setCell ⟨b, 3, none⟩ (.slice a'.R a'.np a'.cp)).setCell ⟨b, 4, none⟩ (.slice a'.L a'.nl a'.cl)) b a' r' :=
 ⟨set5 h.bx, ⟨lo, xs, ho.box5 h.bx _ _ _ _ _⟩, bel_set5 h.bel h.hb _ _ _ _ _, h.hb⟩
set_option maxHeartbeats 16000000 in
set_option maxRecDepth 20000 in
theorem Kept_any (a : RA) (r : Rm) (xs : List Value) (lo0 : Nat) (D : Option Addr) (k e : Nat) (js : List J) (Z : Option Addr) (z cz : Nat) (ss : List Value) (hs : List Hd) (w : World) (h : RoomOwn w lo0 a r xs) (hk : k ≤ 1048576) (hke : k ≤ e) (he : e ≤ 9223372036854775807) (hd : Rd w D k 11 (jflat js)) (hl3 : ∀ g, D = some ⟨g, 0, none⟩ → g < w.heap.size) (hn : z ≤ 1048576) (hnc : z ≤ cz) (hc9 : cz ≤ 9223372036854775807) (hh : RdH w Z z ss hs) :
  Calls Tryz.prog 14 #[a.v, .slice D k e, .slice Z z cz] w fun e' w' => e' = .returned (.bool (keptB r js hs)) ∧ Below w.heap.size w w' := by
 have eg : ∀ args w, (callFunc 66 args).run Tryz.prog w = .ok (.enter 66 args) w := enters_of Tryz.func66 (by kernel_rfl) rfl
 have EG := Lib.hid eg
 clear eg
 have H := Lib.hid h
 obtain ⟨A, B, U, R, L, n, m, nu, np, nl, c, d, cu, cp, cl⟩ := a
 dsimp only [RA.v]
 have HD := Lib.hid hd
 have HL3 := Lib.hid hl3
 have HZ := Lib.hid hh
 clear h hd hl3 hh
 go_enter Tryz.func14, Tryz.ntmps14
 have B0 := Lib.hid (zAa w (.cells #[.slice A n c, .slice B m d, .slice U nu cu, .slice R np cp, .slice L nl cl] 33))
 have XB0 : Hid ((w.alloc (.cells #[.slice A n c, .slice B m d, .slice U nu cu, .slice R np cp, .slice L nl cl] 33)).heap[w.heap.size]? = some (.cells #[.slice A n c, .slice B m d, .slice U nu cu, .slice R np cp, .slice L nl cl] 33 (0, 0))) := Lib.hid (zAj _ rfl)
 go_upto_region 1 with fail
 generalize w.alloc (.cells #[.slice A n c, .slice B m d, .slice U nu cu, .slice R np cp, .slice L nl cl] 33) = w0 at *
 have k0 := zAb XB0.out 0 rfl
 have k1 := zAb XB0.out 1 rfl
 have k2 := zAb XB0.out 2 rfl
 have k3 := zAb XB0.out 3 rfl
 have k4 := zAb XB0.out 4 rfl
 have kf := zAh XB0.out
 have kl := zAg XB0.out
 simp only [zgc, zga, zgb] at k0 k1 k2 k3 k4
 go_wp2_with fail
 refine (roomOk_any ⟨A, B, U, R, L, n, m, nu, np, nl, c, d, cu, cp, cl⟩ r _ (H.out.bel B0.out).rd).mono ?_
 rintro e1 w1 ⟨rfl, hb1⟩
 have B1 := Lib.hid (zAc B0.out hb1)
 have XB1 := Lib.hid (zAf XB0.out hb1)
 clear hb1 k0 k1 k2 k3 k4 kf kl
 cases hro : r.okB
 ·skip
  go_wp2
  (try go_light)
  refine bodyPost_ret (v := .bool false) (by simp [results, Tryz.results14, go_sem, *]) rfl ?_
  exact ⟨zAk (show false = keptB r js hs from by unfold keptB; simp [hro]), B1.out⟩
 go_wp2_with fail
 refine (queueOk_any D k e js _ hk (HD.out.below HL3.out B1.out) (zAi HL3.out B1.out) hke he).mono ?_
 rintro e2 w2 ⟨rfl, hb2⟩
 have B2 := Lib.hid (zAc B1.out hb2)
 have XB2 := Lib.hid (zAf XB1.out hb2)
 clear hb2
 cases hqo : queueB js
 ·skip
  go_wp2
  (try go_light)
  refine bodyPost_ret (v := .bool false) (by simp [results, Tryz.results14, go_sem, *]) rfl ?_
  exact ⟨zAk (show false = keptB r js hs from by unfold keptB; simp [hqo]), B2.out⟩
 have HKB : Hid (keptB r js hs = keptL js r [] hs) := Lib.hid (by unfold keptB; rw [hro, hqo]; rfl)
 have P2 : Hid (KN w w2 w.heap.size ⟨A, B, U, R, L, n, m, nu, np, nl, c, d, cu, cp, cl⟩ r) := Lib.hid ⟨XB2.out, ⟨_, xs, H.out.bel B2.out⟩, B2.out, Nat.le_refl _⟩
 clear hro hqo XB0 XB1 XB2 B0 B1 B2 H
 go_wp2
 go_loopw [22] (fun i wr => ∃ (q : Nat) (a : RA) (r' : Rm), q ≤ z ∧ i = .int .i64 q ∧ KN w wr w.heap.size a r' ∧ Hid (keptL js r [] hs = keptL js r' (seenV hs q) (hs.drop q))) (fun i _ => z - (intOf i).toNat)
 case atStart => exact ⟨0, ⟨A, B, U, R, L, n, m, nu, np, nl, c, d, cu, cp, cl⟩, r, Nat.zero_le _, rfl, P2.out, Lib.hid (by simp [seenV])⟩
 case round =>
  clear P2
  obtain ⟨q, a, s, hq, rfl, P', hkl⟩ := hrel
  obtain ⟨wo, rfl⟩ : ∃ x, x = wr := ⟨wr, rfl⟩
  have P1 := Lib.hid P'
  clear P'
  obtain ⟨A, B, U, R, L, n, m, nu, np, nl, c, d, cu, cp, cl⟩ := a
  by_cases hlt : q < z
  ·have hlt' : (q : Int) < z := by omega
   obtain ⟨g, p, X, dX, rfl, hp, hx, l1, l2, l3, rX, lX, hg, c0, c1, c2⟩ := (HZ.out.bel P1.out.bel).row hlt
   have hgw : g < w.heap.size := HZ.out.rl g rfl
   have HPQ := Lib.hid hp
   have RX := Lib.hid rX
   have LX := Lib.hid lX
   have L1 := Lib.hid l1
   have L2 := Lib.hid l2
   have L3 := Lib.hid l3
   have P6 := Lib.hid (P1.out.step (zAa wo (.cells #[.int .i64 p.id, .int .i64 p.at_, .slice X p.nd.length dX] 41)))
   have HB6 : Hid ((wo.alloc (.cells #[.int .i64 p.id, .int .i64 p.at_, .slice X p.nd.length dX] 41)).heap[wo.heap.size]? = some (.cells #[.int .i64 p.id, .int .i64 p.at_, .slice X p.nd.length dX] 41 (0, 0))) := Lib.hid (zAj _ rfl)
   have BW6 := Lib.hid (zAa wo (.cells #[.int .i64 p.id, .int .i64 p.at_, .slice X p.nd.length dX] 41))
   clear hp hx rX lX l1 l2 l3
   go_upto_region 6 with fail
   have hwo : wo.heap.size = wo.heap.size := rfl
   clear c0 c1 c2 hwo P1
   generalize wo.alloc (.cells #[.int .i64 p.id, .int .i64 p.at_, .slice X p.nd.length dX] 41) = w6 at *
   have hbo : wo.heap.size < w6.heap.size := zAg HB6.out
   have v0 := zAb HB6.out 0 rfl
   have v1 := zAb HB6.out 1 rfl
   have v2 := zAb HB6.out 2 rfl
   have vf := zAh HB6.out
   have vl := zAg HB6.out
   simp only [zgc, zga, zgb] at v0 v1 v2
   go_wp2_with fail
   refine (jobAt_any D k e js p.id _ (by omega) (HD.out.below HL3.out P6.out.bel) (zAi HL3.out P6.out.bel)).mono ?_
   rintro e7 w7 ⟨rfl, hb7⟩
   have P7 := Lib.hid (P6.out.step hb7)
   have HB7 := Lib.hid (zAf HB6.out hb7)
   have BW7 := Lib.hid (zAc BW6.out hb7)
   clear v0 v1 v2 vf vl hb7
   rcases idxJ_find (js := js) (id := p.id) with ⟨i1, i2⟩ | ⟨kj, j, i1, hj, i3⟩
   ·have I2 := Lib.hid i2
    clear i2
    go_wp2
    (try go_light)
    refine bodyPost_ret (v := .bool false) (by simp [results, Tryz.results14, go_sem, *]) rfl ?_
    exact ⟨zAk (by rw [HKB.out, hkl.out, drop_cons' HPQ.out]; exact (keptL_none I2.out).symm), P7.out.bel⟩
   ·rw [i1]
    have I3 := Lib.hid i3
    have HJ := Lib.hid hj
    have hkj : kj < k := by have := (List.getElem?_eq_some_iff.1 hj).1; have := HD.out.jlen; omega
    have hkj0 : ¬ (kj : Int) < 0 := by omega
    have hkj1 : (kj : Int) < k := by omega
    have hkj2 : (0 : Int) ≤ (kj : Int) := by omega
    have hqc : (q : Int) ≤ cz := by omega
    have hqc2 : q ≤ cz := by omega
    have hq0 : (0 : Int) ≤ (q : Int) := by omega
    clear i1 i3 hj
    have hl7 := zAg HB7.out
    go_wp2_with fail
    refine (containsFuncH_any (some ⟨g, 0, none⟩) q cz (ss.take q) (hs.take q) 66 #[.pointer (some ⟨wo.heap.size, 0, none⟩)] (fun x => x.id == p.id) _ (by omega) ((HZ.out.bel P7.out.bel).take (by omega)) EG.out (fun x v W hW => keptClos_any x v wo.heap.size p.id W ((hW.cell (p := ⟨wo.heap.size, 0, none⟩) hl7).trans (zAb HB7.out 0 rfl)) (Nat.lt_of_lt_of_le hl7 hW.size))).mono ?_
    rintro e8 w8 ⟨rfl, hb8⟩
    have P8 := Lib.hid (P7.out.step hb8)
    have HB8 := Lib.hid (zAf HB7.out hb8)
    have BW8 := Lib.hid (zAc BW7.out hb8)
    clear hb8 hl7
    cases hany : (hs.take q).any fun x => x.id == p.id
    rotate_left
    ·have HA := Lib.hid hany
     clear hany
     go_wp2
     (try go_light)
     refine bodyPost_ret (v := .bool false) (by simp [results, Tryz.results14, go_sem, *]) rfl ?_
     exact ⟨zAk (by rw [HKB.out, hkl.out, drop_cons' HPQ.out]; exact (keptL_dup (seenV_any.trans HA.out)).symm), P8.out.bel⟩
    ·have HA := Lib.hid hany
     clear hany P6 P7 HB6 HB7 BW6 BW7
     go_upto_region 9 with fail
     obtain ⟨lo8, xs8, ro8⟩ := P8.out.own
     have RO8 := Lib.hid ro8
     clear ro8
     obtain ⟨gj, j', rfl, hj', d0, d1, d2, d3, d4, d5, d6, d7, d8, d9, d10⟩ := (HD.out.below HL3.out P8.out.bel).j hkj
     obtain rfl : j = j' := Option.some.inj (HJ.out.symm.trans hj')
     have hgj : gj < w8.heap.size := Nat.lt_of_lt_of_le (HL3.out gj rfl) P8.out.bel.size
     clear hj'
     have k0 := zAb P8.out.bx 0 rfl
     have k1 := zAb P8.out.bx 1 rfl
     have k2 := zAb P8.out.bx 2 rfl
     have k3 := zAb P8.out.bx 3 rfl
     have k4 := zAb P8.out.bx 4 rfl
     have kf := zAh P8.out.bx
     have kl := zAg P8.out.bx
     simp only [zgc, zga, zgb] at k0 k1 k2 k3 k4
     have v0 := zAb HB8.out 0 rfl
     have v1 := zAb HB8.out 1 rfl
     have v2 := zAb HB8.out 2 rfl
     have vf := zAh HB8.out
     have vl := zAg HB8.out
     simp only [zgc, zga, zgb] at v0 v1 v2
     obtain ⟨RV, hRV⟩ : ∃ y, y = resV s j p.at_ p.nd := ⟨_, rfl⟩
     have HRV := Lib.hid hRV
     have RSV : Hid (∀ (W : World), Below w8.heap.size w8 W → Calls Tryz.prog 57 #[.agg #[.slice A n c, .slice B m d, .slice U nu cu, .slice R np cp, .slice L nl cl], .agg #[.int .i64 j.id, .int .i64 j.pr, .int .i64 j.nn, .int .i64 j.na, .int .i64 j.nb, .int .i64 j.nc, .int .i64 j.la, .int .i64 j.lb, .int .i64 j.lc, .int .i64 j.wl, .int .i64 j.lv], .int .i64 p.at_, .slice X p.nd.length dX] W fun e W' => ∃ a', e = .returned (.tuple #[RA.v a', .bool RV.isSome]) ∧ (∃ xs', RoomOwn W' W.heap.size a' (RV.getD noRm) xs') ∧ Below W.heap.size W W') := Lib.hid (fun W hW => by
      rw [hRV]
      exact Reserve_any ⟨A, B, U, R, L, n, m, nu, np, nl, c, d, cu, cp, cl⟩ s xs8 lo8 j X p.nd.length dX p.nd W (RO8.out.bel hW) L1.out L2.out L3.out ((RX.out.below LX.out BW8.out).below (zAi LX.out BW8.out) hW) (zAi (zAi LX.out BW8.out) hW) p.at_)
     clear hRV
     go_cut [10, 11] (fun p9 q9 wr => ∃ (bw : Nat) (aR : RA) (xR : List Value), p9 = .pointer (some ⟨bw, 0, none⟩) ∧ q9 = .bool RV.isSome ∧ wr.heap[bw]? = some (.cells #[.slice aR.A aR.n aR.c, .slice aR.B aR.m aR.d, .slice aR.U aR.nu aR.cu, .slice aR.R aR.np aR.cp, .slice aR.L aR.nl aR.cl] 33 (0, 0)) ∧ RoomOwn wr w8.heap.size aR (RV.getD noRm) xR ∧ w8.heap.size ≤ bw ∧ Below w8.heap.size w8 wr)
     case first =>
      go_region_held3 (fun w' => w'.cell? ⟨w.heap.size, 0, none⟩ = some (.slice A n c) ∧ w'.cell? ⟨w.heap.size, 1, none⟩ = some (.slice B m d) ∧ w'.cell? ⟨w.heap.size, 2, none⟩ = some (.slice U nu cu) ∧ w'.cell? ⟨w.heap.size, 3, none⟩ = some (.slice R np cp) ∧ w'.cell? ⟨w.heap.size, 4, none⟩ = some (.slice L nl cl) ∧ w'.cell? ⟨wo.heap.size, 0, none⟩ = some (.int .i64 p.id) ∧ w'.cell? ⟨wo.heap.size, 1, none⟩ = some (.int .i64 p.at_) ∧ w'.cell? ⟨wo.heap.size, 2, none⟩ = some (.slice X p.nd.length dX) ∧ w'.cell? ⟨gj, kj * 11, none⟩ = some (.int .i64 j.id) ∧ w'.cell? ⟨gj, kj * 11 + 1, none⟩ = some (.int .i64 j.pr) ∧ w'.cell? ⟨gj, kj * 11 + 2, none⟩ = some (.int .i64 j.nn) ∧ w'.cell? ⟨gj, kj * 11 + 3, none⟩ = some (.int .i64 j.na) ∧ w'.cell? ⟨gj, kj * 11 + 4, none⟩ = some (.int .i64 j.nb) ∧ w'.cell? ⟨gj, kj * 11 + 5, none⟩ = some (.int .i64 j.nc) ∧ w'.cell? ⟨gj, kj * 11 + 6, none⟩ = some (.int .i64 j.la) ∧ w'.cell? ⟨gj, kj * 11 + 7, none⟩ = some (.int .i64 j.lb) ∧ w'.cell? ⟨gj, kj * 11 + 8, none⟩ = some (.int .i64 j.lc) ∧ w'.cell? ⟨gj, kj * 11 + 9, none⟩ = some (.int .i64 j.wl) ∧ w'.cell? ⟨gj, kj * 11 + 10, none⟩ = some (.int .i64 j.lv)) (simp [go_sem, *, World.cell?_alloc_some, World.cell?_setCell_far, Nat.lt_add_right, Nat.ne_of_gt]) ((go_at_call 57; refine (RSV.out _ zBe).mono ?_; rintro e w9 ⟨⟨A9, B9, U9, R9, L9, n9, m9, nu9, np9, nl9, c9, d9, cu9, cp9, cl9⟩, rfl, ⟨xs9, own9⟩, hb9⟩; have hs9 := hb9.size; (try simp at hs9); have hk9a := fun o => hb9.cell (p := ⟨w.heap.size, o, none⟩) zOm; have hg9a := fun o => hb9.frozen (p := ⟨w.heap.size, o, none⟩) zOm; have hk9b := fun o => hb9.cell (p := ⟨wo.heap.size, o, none⟩) zOm; have hg9b := fun o => hb9.frozen (p := ⟨wo.heap.size, o, none⟩) zOm; have hk9c := fun o => hb9.cell (p := ⟨gj, o, none⟩) zOm; have hg9c := fun o => hb9.frozen (p := ⟨gj, o, none⟩) zOm; (try (have hxy9 : w8.heap.size < w9.heap.size := (by omega); have hxk9 := fun o => hb9.cell (p := ⟨w8.heap.size, o, none⟩) zOm; have hxg9 := fun o => hb9.frozen (p := ⟨w8.heap.size, o, none⟩) zOm)); have OR9 := Lib.hid own9; clear own9; dsimp only [RA.v]))
      all_goals (go_wp2; go_meet)
      case rel =>
       with_reducible refine ⟨_, ⟨A9, B9, U9, R9, L9, n9, m9, nu9, np9, nl9, c9, d9, cu9, cp9, cl9⟩, xs9, rfl, rfl, heap_at9 _ _, (OR9.out.mono ?_).bel (zAa _ _), ?_, zAc (zAc (Below.refl _ _).drew hb9) (zAa _ _)⟩
       all_goals first | omega | (simp <;> omega)
      case rel =>
       with_reducible refine ⟨_, ⟨A9, B9, U9, R9, L9, n9, m9, nu9, np9, nl9, c9, d9, cu9, cp9, cl9⟩, xs9, rfl, rfl, set5 (zAf (heap_at9d _ _) hb9), (OR9.out.mono ?_).box5 (zAf (heap_at9d _ _) hb9) _ _ _ _ _, ?_, bel_set5 (zAc (zAc (Below.refl _ _) (zAa _ _)).drew hb9) ?_ _ _ _ _ _⟩
       all_goals first | omega | (simp <;> omega)
     case rest =>
      obtain ⟨wc9, rfl⟩ : ∃ x, x = wc := ⟨wc, rfl⟩
      obtain ⟨bq, ⟨Ay, By, Uy, Ry, Ly, ny, my, nuy, npy, nly, cy, dy, cuy, cpy, cly⟩, xs7, rfl, rfl, bx7, own7, hl7, hb7⟩ := hcut
      dsimp only at bx7
      have P9 := Lib.hid (P8.out.step hb7)
      have RO9 := Lib.hid own7
      have NB9 := Lib.hid bx7
      clear bx7 own7 hb7 k0 k1 k2 k3 k4 kf kl v0 v1 v2 vf vl d0 d1 d2 d3 d4 d5 d6 d7 d8 d9 d10 RSV
      cases RV with
      | none =>
       simp only [Option.isSome_none]
       go_wp2
       (try go_light)
       refine bodyPost_ret (v := .bool false) (by simp [results, Tryz.results14, go_sem, *]) rfl ?_
       exact ⟨zAk (by rw [HKB.out, hkl.out, drop_cons' HPQ.out]; exact (keptL_no I3.out HRV.out.symm).symm), P9.out.bel⟩
      | some q9 =>
       simp only [Option.isSome_some, zgg] at RO9 ⊢
       have k0 := zAb P9.out.bx 0 rfl
       have k1 := zAb P9.out.bx 1 rfl
       have k2 := zAb P9.out.bx 2 rfl
       have k3 := zAb P9.out.bx 3 rfl
       have k4 := zAb P9.out.bx 4 rfl
       have kf := zAh P9.out.bx
       have kl := zAg P9.out.bx
       simp only [zgc, zga, zgb] at k0 k1 k2 k3 k4
       have y0 := zAb NB9.out 0 rfl
       have y1 := zAb NB9.out 1 rfl
       have y2 := zAb NB9.out 2 rfl
       have y3 := zAb NB9.out 3 rfl
       have y4 := zAb NB9.out 4 rfl
       have yf := zAh NB9.out
       have yl := zAg NB9.out
       simp only [zgc, zga, zgb] at y0 y1 y2 y3 y4
       have P10 := Lib.hid (P9.out.room RO9.out)
       have HKN : Hid (keptL js r [] hs = keptL js q9 (seenV hs (q + 1)) (hs.drop (q + 1))) := Lib.hid (by rw [hkl.out, drop_cons' HPQ.out, seenV_snoc HPQ.out]; exact keptL_go I3.out (seenV_any.trans HA.out) HRV.out.symm)
       go_wp2
       exact ⟨⟨q + 1, ⟨Ay, By, Uy, Ry, Ly, ny, my, nuy, npy, nly, cy, dy, cuy, cpy, cly⟩, q9, by omega, by go_num, P10.out, HKN⟩, by simp [intOf]; omega⟩
  ·obtain rfl : q = z := by omega
   have hlt' : ¬ ((q : Nat) : Int) < q := by omega
   go_wp2
   (try go_light)
   refine bodyPost_ret (v := .bool true) (by simp [results, Tryz.results14, go_sem, *]) rfl ?_
   exact ⟨zAk (by rw [HKB.out, hkl.out, List.drop_of_length_le (by have := HZ.out.len; omega)]; rfl), P1.out.bel⟩
end Go.Proofs.YtnphjhbfpoekpaaGreat
