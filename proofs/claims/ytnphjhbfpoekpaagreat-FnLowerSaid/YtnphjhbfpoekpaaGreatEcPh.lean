import Derived.Test.YtnphjhbfpoekpaaGreatEbPh
import Derived.Test.YtnphjhbfpoekpaaGreatA12Ph
import Derived.Test.YtnphjhbfpoekpaaGreatA21Ph
import Derived.Test.YtnphjhbfpoekpaaGreatA22Ph
import Derived.Test.YtnphjhbfpoekpaaGreatA1Ph
import Derived.Deep.RegionHeld3
namespace Go.Proofs.YtnphjhbfpoekpaaGreat
set_option linter.unusedSimpArgs false
set_option linter.unusedVariables false
set_option linter.unnecessarySimpa false
open Go.RowKit
theorem inB_iff {x lo hi : Int} : inB x lo hi = true ↔ lo ≤ x ∧ x ≤ hi := by unfold inB; simp
theorem timeB_iff {x : Int} : timeB x = true ↔ 0 ≤ x ∧ x ≤ 1000000000 := by unfold timeB; exact inB_iff
theorem timeB_no {x : Int} (h : ¬ (0 ≤ x ∧ x ≤ 1000000000)) : timeB x = false := by
 cases hh : timeB x with
 | false => rfl
 | true => exact absurd (timeB_iff.1 hh) h
theorem minB_can {r : Rm} {j : J} {t : Int} (hok : r.okB = true) (hj : j.okB = true) (ht : timeB t = true) : minB r.lics t (t + j.wl) = decide (t + j.wl ≤ 1000000000) := by
 have h1 := (room_parts hok).2.2.2.2
 have h2 := (job_wl hj).1
 have h3 := timeB_iff.1 ht
 unfold minB spanB
 rw [h1, ht]
 by_cases h : t + j.wl ≤ 1000000000
 ·rw [timeB_iff.2 ⟨by omega, h⟩, decide_eq_true h, decide_eq_true (show t < t + j.wl by omega)]; rfl
 ·rw [timeB_no (by omega), decide_eq_false h]; simp
theorem try_no {r : Rm} {j : J} {t : Int} (h : ¬ (t + j.wl ≤ 1000000000 ∧ fitV j.lic (leastV t (t + j.wl) r.lics) = true)) : (tryV r j t).isSome = false ∧ (tryV r j t).getD [] = [] := by
 have e : tryV r j t = none := if_neg h
 rw [e]; exact ⟨rfl, rfl⟩
theorem try_yes {r : Rm} {j : J} {t : Int} (h : t + j.wl ≤ 1000000000 ∧ fitV j.lic (leastV t (t + j.wl) r.lics) = true) : tryV r j t = chooseV r.par r.nodes (eligV r j.need t (t + j.wl)) j.nn.toNat j.lv := if_pos h
theorem elig_in {r : Rm} {j : J} {t u : Int} (hok : r.okB = true) : areB r.par r.nodes (eligV r j.need t u) = true ∧ (eligV r j.need t u).Nodup ∧ ascB (eligV r j.need t u) = true ∧ (∀ x ∈ eligV r j.need t u, 0 ≤ x ∧ x < r.nodes.length) ∧ (eligV r j.need t u).length ≤ 24 := by
 obtain ⟨h1, h2, h3, h4, h5⟩ := room_parts hok
 obtain ⟨e1, e2⟩ := eligN_rise r j.need t u r.profs.length
 have hin : ∀ x ∈ eligV r j.need t u, 0 ≤ x ∧ x < r.nodes.length := fun x hx => ⟨(e2 x hx).1, by have := (e2 x hx).2.1; omega⟩
 refine ⟨?_, rise_nodup e1, decide_eq_true e1, hin, ?_⟩
 ·unfold areB; rw [inNodes_iff.2 hin, h1]; rfl
 ·have h6 : (eligV r j.need t u).length ≤ r.profs.length := selN_len _ _
  have := (topo_parts h1).2.2.2.1
  omega
theorem can_choose {r : Rm} {j : J} {t : Int} (hok : r.okB = true) (hj : j.okB = true) (ht : timeB t = true) (hu : t + j.wl ≤ 1000000000) : ChooseV r.par r.nodes (EligV r j.need t (t + j.wl)) j.nn j.lv = chooseV r.par r.nodes (eligV r j.need t (t + j.wl)) j.nn.toNat j.lv := by
 obtain ⟨a1, a2, a3, _⟩ := elig_in (j := j) (t := t) (u := t + j.wl) hok
 obtain ⟨w1, w2, n1, n2, v1, v2⟩ := job_wl hj
 have h3 := timeB_iff.1 ht
 have he : EligV r j.need t (t + j.wl) = eligV r j.need t (t + j.wl) := by
  unfold EligV
  rw [if_pos]
  rw [hok, v1]
  unfold spanB
  rw [ht, timeB_iff.2 ⟨by omega, hu⟩, decide_eq_true (show t < t + j.wl by omega)]; rfl
 rw [he]
 unfold ChooseV
 rw [a1, a3, decide_eq_true n1]
 rfl
set_option maxHeartbeats 8000000 in
set_option maxRecDepth 20000 in
theorem sCan_any (a : RA) (r : Rm) (xs : List Value) (lo : Nat) (j : J) (t : Int) (w : World) (h : RoomOwn w lo a r xs) (hok : r.okB = true) (hj : j.okB = true) (ht : timeB t = true) :
  Calls Tryz.prog 149 #[a.v, .agg #[.int .i64 j.id, .int .i64 j.pr, .int .i64 j.nn, .int .i64 j.na, .int .i64 j.nb, .int .i64 j.nc, .int .i64 j.la, .int .i64 j.lb, .int .i64 j.lc, .int .i64 j.wl, .int .i64 j.lv], .int .i64 t] w fun e w' => ∃ v, e = .returned (.tuple #[v, .bool (tryV r j t).isSome]) ∧ w'.ownsRow w.heap.size 3 1 v ((tryV r j t).getD []).length (ints ((tryV r j t).getD [])) ∧ Below w.heap.size w w' := by
 obtain ⟨A, B, U, R, L, n, m, nu, np, nl, c, d, cu, cp, cl⟩ := a
 dsimp only [RA.v]
 have H := Lib.hid h
 have HOK := Lib.hid hok
 have HJ := Lib.hid hj
 have HT := Lib.hid ht
 obtain ⟨w1, w2, _, _, _, _⟩ := job_wl hj
 obtain ⟨t0, t1⟩ := timeB_iff.1 ht
 have HMB := Lib.hid (minB_can hok hj ht)
 clear h hok hj ht
 by_cases hu : t + j.wl ≤ 1000000000
 ·obtain ⟨fv, hfv⟩ : ∃ y, y = fitV j.lic (leastV t (t + j.wl) r.lics) := ⟨_, rfl⟩
  have HFV : Hid (fitsB j.la j.lb j.lc (minVv r.lics t (t + j.wl)).A (minVv r.lics t (t + j.wl)).B (minVv r.lics t (t + j.wl)).C = fv) := Lib.hid (by
   unfold minVv; rw [HMB.out, decide_eq_true hu, if_pos rfl, hfv]; rfl)
  have HB1 : Hid (minB r.lics t (t + j.wl) = true) := Lib.hid (by rw [HMB.out, decide_eq_true hu])
  cases fv
  ·have HF := Lib.hid (try_no (r := r) (j := j) (t := t) (fun h => by rw [h.2] at hfv; cases hfv))
   clear hfv
   go_enter Tryz.func149, Tryz.ntmps149
   go_wp2_with fail
   refine (sprofMin_any L nl cl r.lics t (t + j.wl) _ H.out.rd.nl (H.out.rd.lics.below H.out.rd.ltL zBe) (zAi H.out.rd.ltL zBe)).mono ?_
   rintro e w1 ⟨rfl, hb1⟩
   have hs1 := hb1.size
   (try simp at hs1)
   have hy10 : w.heap.size < w1.heap.size := by omega
   have hk10 := fun o => hb1.cell (p := ⟨w.heap.size, o, none⟩) zOm
   have hg10 := fun o => hb1.frozen (p := ⟨w.heap.size, o, none⟩) zOm
   have hy11 : w.heap.size + 1 < w1.heap.size := by omega
   have hk11 := fun o => hb1.cell (p := ⟨w.heap.size + 1, o, none⟩) zOm
   have hg11 := fun o => hb1.frozen (p := ⟨w.heap.size + 1, o, none⟩) zOm
   rw [HB1.out]
   go_wp2_with fail
   refine (svecFits_raw _ _ _ _ _ _ _).mono ?_
   rintro e w2 ⟨rfl, hb2⟩
   have hs2 := hb2.size
   (try simp at hs2)
   have hy20 : w.heap.size < w2.heap.size := by omega
   have hk20 := fun o => hb2.cell (p := ⟨w.heap.size, o, none⟩) zOm
   have hg20 := fun o => hb2.frozen (p := ⟨w.heap.size, o, none⟩) zOm
   have hy21 : w.heap.size + 1 < w2.heap.size := by omega
   have hk21 := fun o => hb2.cell (p := ⟨w.heap.size + 1, o, none⟩) zOm
   have hg21 := fun o => hb2.frozen (p := ⟨w.heap.size + 1, o, none⟩) zOm
   rw [HFV.out]
   go_wp2
   (try go_light)
   refine bodyPost_ret (v := .tuple #[.slice none 0 0, .bool false]) (by simp [results, Tryz.results149, go_sem, *]) rfl ?_
   exact ⟨_, by rw [HF.out.1], by rw [HF.out.2]; exact own_nil _ _ _ _, (by repeat (first | exact Below.refl _ _ | assumption | (refine zAc ?_ (zAd _ _)) | exact zAc (by assumption) (by assumption) | (refine zAc ?_ (zAa _ _)) | (refine zAc ?_ (by assumption)) | (refine Below.setCell ?_ (by simp <;> omega) _) | refine Below.drew ?_ | (refine Below.trans ?_ (by assumption))))⟩
  ·have HTY := Lib.hid (try_yes ⟨hu, hfv.symm⟩)
   have HCC := Lib.hid (can_choose HOK.out HJ.out HT.out hu)
   clear hfv
   obtain ⟨EV, hEV⟩ : ∃ y, y = EligV r j.need t (t + j.wl) := ⟨_, rfl⟩
   obtain ⟨OV, hOV⟩ : ∃ y, y = tryV r j t := ⟨_, rfl⟩
   have hlen : EV.length ≤ 1048576 := by
    rw [hEV]; unfold EligV
    split
    ·have := (elig_in (j := j) (t := t) (u := t + j.wl) HOK.out).2.2.2.2; omega
    ·simp
   have HLE := Lib.hid hlen
   have HEC : Hid (∀ W, RoomRd W ⟨A, B, U, R, L, n, m, nu, np, nl, c, d, cu, cp, cl⟩ r → Calls Tryz.prog 206 #[.agg #[.slice A n c, .slice B m d, .slice U nu cu, .slice R np cp, .slice L nl cl], .agg #[.int .i64 j.na, .int .i64 j.nb, .int .i64 j.nc], .int .i64 t, .int .i64 (t + j.wl)] W fun e W' => ∃ v, e = .returned v ∧ W'.ownsRow W.heap.size 3 1 v EV.length (ints EV) ∧ Below W.heap.size W W') := Lib.hid (fun W h => by rw [hEV]; exact sEligible_any ⟨A, B, U, R, L, n, m, nu, np, nl, c, d, cu, cp, cl⟩ r j.need t (t + j.wl) W h)
   have HCH : Hid (∀ (D : Option Addr) (e9 : Nat) (W : World), RoomRd W ⟨A, B, U, R, L, n, m, nu, np, nl, c, d, cu, cp, cl⟩ r → Rd W D EV.length 1 (ints EV) → (∀ g, D = some ⟨g, 0, none⟩ → g < W.heap.size) → Calls Tryz.prog 205 #[.agg #[.slice A n c, .slice B m d], .slice D EV.length e9, .int .i64 j.nn, .int .i64 j.lv] W fun e W' => ∃ v, e = .returned (.tuple #[v, .bool OV.isSome]) ∧ W'.ownsRow W.heap.size 3 1 v (OV.getD []).length (ints (OV.getD [])) ∧ Below W.heap.size W W') := Lib.hid (fun D e9 W h h1 h2 => by
    have e1 : chL_ r.par r.nodes EV j.nn j.lv = OV.getD [] := by unfold chL_; rw [hEV, HCC.out, hOV, HTY.out]
    have e2 : chB_ r.par r.nodes EV j.nn j.lv = OV.isSome := by unfold chB_; rw [hEV, HCC.out, hOV, HTY.out]
    rw [← e1, ← e2]
    exact sChoose_any A B n c m d r.par r.nodes D EV.length e9 EV j.nn j.lv W h.n h.m h.par h.nodes h.ltA h.ltB HLE.out h1 h2)
   have HOV := Lib.hid hOV
   clear hEV hOV hlen HTY HCC
   go_enter Tryz.func149, Tryz.ntmps149
   go_wp2_with fail
   refine (sprofMin_any L nl cl r.lics t (t + j.wl) _ H.out.rd.nl (H.out.rd.lics.below H.out.rd.ltL zBe) (zAi H.out.rd.ltL zBe)).mono ?_
   rintro e w1 ⟨rfl, hb1⟩
   have hs1 := hb1.size
   (try simp at hs1)
   have hy10 : w.heap.size < w1.heap.size := by omega
   have hk10 := fun o => hb1.cell (p := ⟨w.heap.size, o, none⟩) zOm
   have hg10 := fun o => hb1.frozen (p := ⟨w.heap.size, o, none⟩) zOm
   have hy11 : w.heap.size + 1 < w1.heap.size := by omega
   have hk11 := fun o => hb1.cell (p := ⟨w.heap.size + 1, o, none⟩) zOm
   have hg11 := fun o => hb1.frozen (p := ⟨w.heap.size + 1, o, none⟩) zOm
   rw [HB1.out]
   go_wp2_with fail
   refine (svecFits_raw _ _ _ _ _ _ _).mono ?_
   rintro e w2 ⟨rfl, hb2⟩
   have hs2 := hb2.size
   (try simp at hs2)
   have hy20 : w.heap.size < w2.heap.size := by omega
   have hk20 := fun o => hb2.cell (p := ⟨w.heap.size, o, none⟩) zOm
   have hg20 := fun o => hb2.frozen (p := ⟨w.heap.size, o, none⟩) zOm
   have hy21 : w.heap.size + 1 < w2.heap.size := by omega
   have hk21 := fun o => hb2.cell (p := ⟨w.heap.size + 1, o, none⟩) zOm
   have hg21 := fun o => hb2.frozen (p := ⟨w.heap.size + 1, o, none⟩) zOm
   rw [HFV.out]
   have HB2 : Hid (Below w.heap.size w w2) := Lib.hid (by repeat (first | exact Below.refl _ _ | assumption | (refine zAc ?_ (zAd _ _)) | exact zAc (by assumption) (by assumption) | (refine zAc ?_ (zAa _ _)) | (refine zAc ?_ (by assumption)) | (refine Below.setCell ?_ (by simp <;> omega) _) | refine Below.drew ?_ | (refine Below.trans ?_ (by assumption))))
   have hyy : w.heap.size < w2.heap.size ∧ w.heap.size + 1 < w2.heap.size := by omega
   have S0 : ∀ o, o < 5 → w2.cell? ⟨w.heap.size, o, none⟩ = #[Value.slice A n c, .slice B m d, .slice U nu cu, .slice R np cp, .slice L nl cl][o]? := by
    intro o ho
    match o, ho with
    | 0, _ => simp [go_sem, *]
    | 1, _ => simp [go_sem, *]
    | 2, _ => simp [go_sem, *]
    | 3, _ => simp [go_sem, *]
    | 4, _ => simp [go_sem, *]
   have q0 := S0 0 (by omega)
   have q1 := S0 1 (by omega)
   have q2 := S0 2 (by omega)
   have q3 := S0 3 (by omega)
   have q4 := S0 4 (by omega)
   have p2 : w2.cell? ⟨w.heap.size + 1, 2, none⟩ = some (.int .i64 j.nn) := by simp [go_sem, *]
   have p3 : w2.cell? ⟨w.heap.size + 1, 3, none⟩ = some (.int .i64 j.na) := by simp [go_sem, *]
   have p4 : w2.cell? ⟨w.heap.size + 1, 4, none⟩ = some (.int .i64 j.nb) := by simp [go_sem, *]
   have p5 : w2.cell? ⟨w.heap.size + 1, 5, none⟩ = some (.int .i64 j.nc) := by simp [go_sem, *]
   have p9 : w2.cell? ⟨w.heap.size + 1, 9, none⟩ = some (.int .i64 j.wl) := by simp [go_sem, *]
   have p10 : w2.cell? ⟨w.heap.size + 1, 10, none⟩ = some (.int .i64 j.lv) := by simp [go_sem, *]
   simp only [List.getElem?_toArray, List.getElem?_cons_zero, List.getElem?_cons_succ] at q0 q1 q2 q3 q4
   clear S0 hk10 hk11 hg10 hg11 hk20 hk21 hg20 hg21 hb1 hb2 hs1 hs2 hy10 hy11 hy20 hy21
   have wr1 : IntKind.i64.wrap (t + j.wl) = t + j.wl := IntWalk.i64_in _ (by omega)
   have HUU := Lib.hid hu
   clear hu
   go_wp2_with fail
   go_region_held3 (fun w' => w'.cell? ⟨w.heap.size, 0, none⟩ = some (.slice A n c) ∧ w'.cell? ⟨w.heap.size, 1, none⟩ = some (.slice B m d) ∧ w'.cell? ⟨w.heap.size, 2, none⟩ = some (.slice U nu cu) ∧ w'.cell? ⟨w.heap.size, 3, none⟩ = some (.slice R np cp) ∧ w'.cell? ⟨w.heap.size, 4, none⟩ = some (.slice L nl cl) ∧ w'.cell? ⟨w.heap.size + 1, 2, none⟩ = some (.int .i64 j.nn) ∧ w'.cell? ⟨w.heap.size + 1, 3, none⟩ = some (.int .i64 j.na) ∧ w'.cell? ⟨w.heap.size + 1, 4, none⟩ = some (.int .i64 j.nb) ∧ w'.cell? ⟨w.heap.size + 1, 5, none⟩ = some (.int .i64 j.nc) ∧ w'.cell? ⟨w.heap.size + 1, 9, none⟩ = some (.int .i64 j.wl) ∧ w'.cell? ⟨w.heap.size + 1, 10, none⟩ = some (.int .i64 j.lv)) (simp [go_sem, *, World.cell?_alloc_some, World.cell?_setCell_far, Nat.lt_add_right, Nat.ne_of_gt]) (first | (go_at_call 206; refine (HEC.out _ (H.out.rd.below (HB2.out.drew))).mono ?_; rintro e w3 ⟨v3, rfl, own3, hb3⟩; have hs3 := hb3.size; (try simp at hs3); (have hy30 : w.heap.size < w3.heap.size := (by omega)); (have hk30 := fun o => hb3.cell (p := ⟨w.heap.size, o, none⟩) zOm); (have hy31 : w.heap.size + 1 < w3.heap.size := (by omega)); (have hk31 := fun o => hb3.cell (p := ⟨w.heap.size + 1, o, none⟩) zOm); have B3 := Lib.hid (zAc (HB2.out.drew) hb3); have O3 := Lib.hid own3; obtain ⟨X3, c3, rfl, _⟩ := zAq own3; clear own3 hb3) | (go_at_call 205; refine (HCH.out X3 c3 _ (H.out.rd.below B3.out) (zAn O3.out) (zAz O3.out)).mono ?_; rintro e w4 ⟨v4, rfl, own4, hb4⟩; have hs4 := hb4.size; (try simp at hs4); (have hy40 : w.heap.size < w4.heap.size := (by omega)); (have hk40 := fun o => hb4.cell (p := ⟨w.heap.size, o, none⟩) zOm); (have hy41 : w.heap.size + 1 < w4.heap.size := (by omega)); (have hk41 := fun o => hb4.cell (p := ⟨w.heap.size + 1, o, none⟩) zOm); have B4 := Lib.hid (zAc B3.out hb4); have O4 := Lib.hid own4; obtain ⟨X4, c4, rfl, _⟩ := zAq own4; clear own4 hb4))
   all_goals go_wp2
   all_goals (try go_light)
   all_goals refine bodyPost_ret (v := .tuple #[.slice X4 (OV.getD []).length c4, .bool OV.isSome]) (by simp [results, Tryz.results149, go_sem, *]) rfl ?_
   all_goals exact ⟨_, by rw [HOV.out], by rw [← HOV.out]; exact zAm O4.out (by have := B3.out.size; omega), B4.out⟩
 ·have HF := Lib.hid (try_no (r := r) (j := j) (t := t) (fun h => hu h.1))
  have HB1 : Hid (minB r.lics t (t + j.wl) = false) := Lib.hid (by rw [HMB.out, decide_eq_false hu])
  go_enter Tryz.func149, Tryz.ntmps149
  go_wp2_with fail
  refine (sprofMin_any L nl cl r.lics t (t + j.wl) _ H.out.rd.nl (H.out.rd.lics.below H.out.rd.ltL zBe) (zAi H.out.rd.ltL zBe)).mono ?_
  rintro e w1 ⟨rfl, hb1⟩
  have hs1 := hb1.size
  (try simp at hs1)
  have hy10 : w.heap.size < w1.heap.size := by omega
  have hk10 := fun o => hb1.cell (p := ⟨w.heap.size, o, none⟩) zOm
  have hg10 := fun o => hb1.frozen (p := ⟨w.heap.size, o, none⟩) zOm
  have hy11 : w.heap.size + 1 < w1.heap.size := by omega
  have hk11 := fun o => hb1.cell (p := ⟨w.heap.size + 1, o, none⟩) zOm
  have hg11 := fun o => hb1.frozen (p := ⟨w.heap.size + 1, o, none⟩) zOm
  rw [HB1.out]
  go_wp2
  (try go_light)
  refine bodyPost_ret (v := .tuple #[.slice none 0 0, .bool false]) (by simp [results, Tryz.results149, go_sem, *]) rfl ?_
  exact ⟨_, by rw [HF.out.1], by rw [HF.out.2]; exact own_nil _ _ _ _, (by repeat (first | exact Below.refl _ _ | assumption | (refine zAc ?_ (zAd _ _)) | exact zAc (by assumption) (by assumption) | (refine zAc ?_ (zAa _ _)) | (refine zAc ?_ (by assumption)) | (refine Below.setCell ?_ (by simp <;> omega) _) | refine Below.drew ?_ | (refine Below.trans ?_ (by assumption))))⟩
def eT (o : Option (Int × List Int)) : Int := (o.map Prod.fst).getD 0
def eL (o : Option (Int × List Int)) : List Int := (o.map Prod.snd).getD []
theorem earl_bad {r : Rm} {j : J} {f : Int} (h : (r.okB && j.okB && timeB f) = false) : earlV r j f = none := by unfold earlV; rw [h]; rfl
theorem earl_go {r : Rm} {j : J} {f : Int} (h1 : r.okB = true) (h2 : j.okB = true) (h3 : timeB f = true) : earlV r j f = firstV r j (timesE r f) := by unfold earlV; rw [h1, h2, h3]; rfl
theorem times_time {r : Rm} {f : Int} (h1 : r.okB = true) (h3 : timeB f = true) : ∀ t ∈ timesE r f, timeB t = true := by
 intro t ht
 rcases (timesE_spec r f).2 t |>.1 ht with h | ⟨_, p, hp, q, hq, rfl⟩
 ·rw [h]; exact h3
 ·have hpo : zAv p = true := by
   rcases List.mem_cons.1 hp with e | e
   ·rw [e]; exact (room_parts h1).2.2.2.2
   ·exact (room_parts h1).2.2.2.1 p e
  have := (profOk_parts hpo).2.2.2.1 q hq
  unfold Q.ok at this
  simp only [Bool.and_eq_true] at this
  exact this.1
theorem times_len {r : Rm} {f : Int} (h1 : r.okB = true) : (timesE r f).length ≤ 6000 := by
 rw [← tsA_eq]
 have hp : ∀ p ∈ r.profs ++ [r.lics], p.length ≤ 200 := by
  intro p hp
  rcases List.mem_append.1 hp with h | h
  ·exact (profOk_parts ((room_parts h1).2.2.2.1 p h)).2.1
  ·simp at h; subst h; exact (profOk_parts (room_parts h1).2.2.2.2).2.1
 have h2 := tsK_len (f := f) hp (r.profs ++ [r.lics]).length
 have h3 : r.profs.length ≤ 24 := by
  have e1 := (topo_parts (room_parts h1).1).2.2.2.1
  have e2 := (room_parts h1).2.2.1
  omega
 have e : tsK f (r.profs ++ [r.lics]) (r.profs ++ [r.lics]).length = tsA f (r.profs ++ [r.lics]) := by unfold tsK; rw [List.take_length]; rfl
 rw [e] at h2
 have h4 : (r.profs ++ [r.lics]).length * 200 ≤ 25 * 200 := Nat.mul_le_mul_right _ (by simp; omega)
 omega
set_option maxHeartbeats 8000000 in
set_option maxRecDepth 20000 in
theorem sEarliest_any (a : RA) (r : Rm) (xs : List Value) (lo : Nat) (j : J) (f : Int) (w : World) (h : RoomOwn w lo a r xs) :
  Calls Tryz.prog 62 #[a.v, .agg #[.int .i64 j.id, .int .i64 j.pr, .int .i64 j.nn, .int .i64 j.na, .int .i64 j.nb, .int .i64 j.nc, .int .i64 j.la, .int .i64 j.lb, .int .i64 j.lc, .int .i64 j.wl, .int .i64 j.lv], .int .i64 f] w fun e w' => ∃ v, e = .returned (.tuple #[.int .i64 (eT (earlV r j f)), v, .bool (earlV r j f).isSome]) ∧ w'.ownsRow w.heap.size 3 1 v (eL (earlV r j f)).length (ints (eL (earlV r j f))) ∧ Below w.heap.size w w' := by
 obtain ⟨A, B, U, R, L, n, m, nu, np, nl, c, d, cu, cp, cl⟩ := a
 dsimp only [RA.v]
 have H := Lib.hid h
 clear h
 obtain ⟨ro, hro⟩ : ∃ y, y = r.okB := ⟨_, rfl⟩
 obtain ⟨jo, hjo⟩ : ∃ y, y = j.okB := ⟨_, rfl⟩
 obtain ⟨to_, hto⟩ : ∃ y, y = timeB f := ⟨_, rfl⟩
 have HRO := Lib.hid hro.symm
 have HJO := Lib.hid hjo.symm
 have HTO := Lib.hid hto.symm
 clear hro hjo hto
 cases ro
 ·have HF := Lib.hid (earl_bad (r := r) (j := j) (f := f) (by rw [HRO.out]; rfl))
  go_enter Tryz.func62, Tryz.ntmps62
  go_wp2_with fail
  refine (sroomOk_any ⟨A, B, U, R, L, n, m, nu, np, nl, c, d, cu, cp, cl⟩ r _ (H.out.rd.below zBe)).mono ?_
  rintro e w1 ⟨rfl, hb1⟩
  have hs1 := hb1.size
  (try simp at hs1)
  have hy10 : w.heap.size < w1.heap.size := by omega
  have hk10 := fun o => hb1.cell (p := ⟨w.heap.size, o, none⟩) zOm
  have hg10 := fun o => hb1.frozen (p := ⟨w.heap.size, o, none⟩) zOm
  have hy11 : w.heap.size + 1 < w1.heap.size := by omega
  have hk11 := fun o => hb1.cell (p := ⟨w.heap.size + 1, o, none⟩) zOm
  have hg11 := fun o => hb1.frozen (p := ⟨w.heap.size + 1, o, none⟩) zOm
  rw [HRO.out]
  go_wp2
  (try go_light)
  refine bodyPost_ret (v := .tuple #[.int .i64 0, .slice none 0 0, .bool false]) (by simp [results, Tryz.results62, go_sem, *]) rfl ?_
  exact ⟨_, by rw [HF.out]; rfl, by rw [HF.out]; exact own_nil _ _ _ _, (by repeat (first | exact Below.refl _ _ | assumption | (refine zAc ?_ (zAd _ _)) | exact zAc (by assumption) (by assumption) | (refine zAc ?_ (zAa _ _)) | (refine zAc ?_ (by assumption)) | (refine Below.setCell ?_ (by simp <;> omega) _) | refine Below.drew ?_ | (refine Below.trans ?_ (by assumption))))⟩
 ·cases jo
  ·have HF := Lib.hid (earl_bad (r := r) (j := j) (f := f) (by rw [HJO.out]; simp))
   go_enter Tryz.func62, Tryz.ntmps62
   go_wp2_with fail
   refine (sroomOk_any ⟨A, B, U, R, L, n, m, nu, np, nl, c, d, cu, cp, cl⟩ r _ (H.out.rd.below zBe)).mono ?_
   rintro e w1 ⟨rfl, hb1⟩
   have hs1 := hb1.size
   (try simp at hs1)
   have hy10 : w.heap.size < w1.heap.size := by omega
   have hk10 := fun o => hb1.cell (p := ⟨w.heap.size, o, none⟩) zOm
   have hg10 := fun o => hb1.frozen (p := ⟨w.heap.size, o, none⟩) zOm
   have hy11 : w.heap.size + 1 < w1.heap.size := by omega
   have hk11 := fun o => hb1.cell (p := ⟨w.heap.size + 1, o, none⟩) zOm
   have hg11 := fun o => hb1.frozen (p := ⟨w.heap.size + 1, o, none⟩) zOm
   rw [HRO.out]
   go_wp2_with fail
   refine (sjobOk_raw j _).mono ?_
   rintro e w2 ⟨rfl, hb2⟩
   have hs2 := hb2.size
   (try simp at hs2)
   have hy20 : w.heap.size < w2.heap.size := by omega
   have hk20 := fun o => hb2.cell (p := ⟨w.heap.size, o, none⟩) zOm
   have hg20 := fun o => hb2.frozen (p := ⟨w.heap.size, o, none⟩) zOm
   have hy21 : w.heap.size + 1 < w2.heap.size := by omega
   have hk21 := fun o => hb2.cell (p := ⟨w.heap.size + 1, o, none⟩) zOm
   have hg21 := fun o => hb2.frozen (p := ⟨w.heap.size + 1, o, none⟩) zOm
   rw [HJO.out]
   go_wp2
   (try go_light)
   refine bodyPost_ret (v := .tuple #[.int .i64 0, .slice none 0 0, .bool false]) (by simp [results, Tryz.results62, go_sem, *]) rfl ?_
   exact ⟨_, by rw [HF.out]; rfl, by rw [HF.out]; exact own_nil _ _ _ _, (by repeat (first | exact Below.refl _ _ | assumption | (refine zAc ?_ (zAd _ _)) | exact zAc (by assumption) (by assumption) | (refine zAc ?_ (zAa _ _)) | (refine zAc ?_ (by assumption)) | (refine Below.setCell ?_ (by simp <;> omega) _) | refine Below.drew ?_ | (refine Below.trans ?_ (by assumption))))⟩
  ·cases to_
   ·have HF := Lib.hid (earl_bad (r := r) (j := j) (f := f) (by rw [HTO.out]; simp))
    go_enter Tryz.func62, Tryz.ntmps62
    go_wp2_with fail
    refine (sroomOk_any ⟨A, B, U, R, L, n, m, nu, np, nl, c, d, cu, cp, cl⟩ r _ (H.out.rd.below zBe)).mono ?_
    rintro e w1 ⟨rfl, hb1⟩
    have hs1 := hb1.size
    (try simp at hs1)
    have hy10 : w.heap.size < w1.heap.size := by omega
    have hk10 := fun o => hb1.cell (p := ⟨w.heap.size, o, none⟩) zOm
    have hg10 := fun o => hb1.frozen (p := ⟨w.heap.size, o, none⟩) zOm
    have hy11 : w.heap.size + 1 < w1.heap.size := by omega
    have hk11 := fun o => hb1.cell (p := ⟨w.heap.size + 1, o, none⟩) zOm
    have hg11 := fun o => hb1.frozen (p := ⟨w.heap.size + 1, o, none⟩) zOm
    rw [HRO.out]
    go_wp2_with fail
    refine (sjobOk_raw j _).mono ?_
    rintro e w2 ⟨rfl, hb2⟩
    have hs2 := hb2.size
    (try simp at hs2)
    have hy20 : w.heap.size < w2.heap.size := by omega
    have hk20 := fun o => hb2.cell (p := ⟨w.heap.size, o, none⟩) zOm
    have hg20 := fun o => hb2.frozen (p := ⟨w.heap.size, o, none⟩) zOm
    have hy21 : w.heap.size + 1 < w2.heap.size := by omega
    have hk21 := fun o => hb2.cell (p := ⟨w.heap.size + 1, o, none⟩) zOm
    have hg21 := fun o => hb2.frozen (p := ⟨w.heap.size + 1, o, none⟩) zOm
    rw [HJO.out]
    go_wp2_with fail
    refine (sTime_any f _).mono ?_
    rintro e w3 ⟨rfl, rfl⟩
    rw [HTO.out]
    go_wp2
    (try go_light)
    refine bodyPost_ret (v := .tuple #[.int .i64 0, .slice none 0 0, .bool false]) (by simp [results, Tryz.results62, go_sem, *]) rfl ?_
    exact ⟨_, by rw [HF.out]; rfl, by rw [HF.out]; exact own_nil _ _ _ _, (by repeat (first | exact Below.refl _ _ | assumption | (refine zAc ?_ (zAd _ _)) | exact zAc (by assumption) (by assumption) | (refine zAc ?_ (zAa _ _)) | (refine zAc ?_ (by assumption)) | (refine Below.setCell ?_ (by simp <;> omega) _) | refine Below.drew ?_ | (refine Below.trans ?_ (by assumption))))⟩
   ·have HG := Lib.hid (earl_go HRO.out HJO.out HTO.out)
    have HTT := Lib.hid (times_time HRO.out HTO.out)
    have HTL := Lib.hid (times_len (f := f) HRO.out)
    go_enter Tryz.func62, Tryz.ntmps62
    go_wp2_with fail
    refine (sroomOk_any ⟨A, B, U, R, L, n, m, nu, np, nl, c, d, cu, cp, cl⟩ r _ (H.out.rd.below zBe)).mono ?_
    rintro e w1 ⟨rfl, hb1⟩
    have hs1 := hb1.size
    (try simp at hs1)
    have hy10 : w.heap.size < w1.heap.size := by omega
    have hk10 := fun o => hb1.cell (p := ⟨w.heap.size, o, none⟩) zOm
    have hg10 := fun o => hb1.frozen (p := ⟨w.heap.size, o, none⟩) zOm
    have hy11 : w.heap.size + 1 < w1.heap.size := by omega
    have hk11 := fun o => hb1.cell (p := ⟨w.heap.size + 1, o, none⟩) zOm
    have hg11 := fun o => hb1.frozen (p := ⟨w.heap.size + 1, o, none⟩) zOm
    have X1 := Lib.hid (zAf (zAs (zAj (w := w) (.cells #[.slice A n c, .slice B m d, .slice U nu cu, .slice R np cp, .slice L nl cl] 33) rfl) (.cells #[.int .i64 j.id, .int .i64 j.pr, .int .i64 j.nn, .int .i64 j.na, .int .i64 j.nb, .int .i64 j.nc, .int .i64 j.la, .int .i64 j.lb, .int .i64 j.lc, .int .i64 j.wl, .int .i64 j.lv] 95)) hb1)
    have Y1 := Lib.hid (zAf (zAj (w := w.alloc (.cells #[.slice A n c, .slice B m d, .slice U nu cu, .slice R np cp, .slice L nl cl] 33)) (.cells #[.int .i64 j.id, .int .i64 j.pr, .int .i64 j.nn, .int .i64 j.na, .int .i64 j.nb, .int .i64 j.nc, .int .i64 j.la, .int .i64 j.lb, .int .i64 j.lc, .int .i64 j.wl, .int .i64 j.lv] 95) (k := w.heap.size + 1) (by simp)) hb1)
    rw [HRO.out]
    go_wp2_with fail
    refine (sjobOk_raw j _).mono ?_
    rintro e w2 ⟨rfl, hb2⟩
    have hs2 := hb2.size
    (try simp at hs2)
    have hy20 : w.heap.size < w2.heap.size := by omega
    have hk20 := fun o => hb2.cell (p := ⟨w.heap.size, o, none⟩) zOm
    have hg20 := fun o => hb2.frozen (p := ⟨w.heap.size, o, none⟩) zOm
    have hy21 : w.heap.size + 1 < w2.heap.size := by omega
    have hk21 := fun o => hb2.cell (p := ⟨w.heap.size + 1, o, none⟩) zOm
    have hg21 := fun o => hb2.frozen (p := ⟨w.heap.size + 1, o, none⟩) zOm
    rw [HJO.out]
    go_wp2_with fail
    refine (sTime_any f _).mono ?_
    rintro e w3 ⟨rfl, rfl⟩
    rw [HTO.out]
    have HB2 : Hid (Below w.heap.size w w2) := Lib.hid (by repeat (first | exact Below.refl _ _ | assumption | (refine zAc ?_ (zAd _ _)) | exact zAc (by assumption) (by assumption) | (refine zAc ?_ (zAa _ _)) | (refine zAc ?_ (by assumption)) | (refine Below.setCell ?_ (by simp <;> omega) _) | refine Below.drew ?_ | (refine Below.trans ?_ (by assumption))))
    have X2 := Lib.hid (zAf X1.out hb2)
    have Y2 := Lib.hid (zAf Y1.out hb2)
    clear X1 Y1 hb1 hb2 hk10 hk11 hg10 hg11 hk20 hk21 hg20 hg21 hs1 hs2 hy10 hy11 hy20 hy21
    have e0 := zAb X2.out 0 rfl
    have e1 := zAb X2.out 1 rfl
    have e2 := zAb X2.out 2 rfl
    have e3 := zAb X2.out 3 rfl
    have e4 := zAb X2.out 4 rfl
    have f0 := zAb Y2.out 0 rfl
    have f1 := zAb Y2.out 1 rfl
    have f2 := zAb Y2.out 2 rfl
    have f3 := zAb Y2.out 3 rfl
    have f4 := zAb Y2.out 4 rfl
    have f5 := zAb Y2.out 5 rfl
    have f6 := zAb Y2.out 6 rfl
    have f7 := zAb Y2.out 7 rfl
    have f8 := zAb Y2.out 8 rfl
    have f9 := zAb Y2.out 9 rfl
    have f10 := zAb Y2.out 10 rfl
    simp only [zgc, zga, zgb] at e0 e1 e2 e3 e4 f0 f1 f2 f3 f4 f5 f6 f7 f8 f9 f10
    go_wp2_with fail
    refine (sTimes_any ⟨A, B, U, R, L, n, m, nu, np, nl, c, d, cu, cp, cl⟩ r xs lo f _ (H.out.bel HB2.out) HRO.out).mono ?_
    rintro e w4 ⟨v4, rfl, own4, hb4⟩
    obtain ⟨TL, hTL⟩ : ∃ y, y = timesE r f := ⟨_, rfl⟩
    rw [← hTL] at own4
    have HTLE := Lib.hid hTL
    obtain ⟨X4, c4, rfl, _⟩ := zAq own4
    have HB4 := Lib.hid (zAc HB2.out hb4)
    have O4 := Lib.hid own4
    have X5 := Lib.hid (zAf X2.out hb4)
    have Y5 := Lib.hid (zAf Y2.out hb4)
    have hTL9 : TL.length ≤ 6000 := by rw [hTL]; exact HTL.out
    clear e0 e1 e2 e3 e4 f0 f1 f2 f3 f4 f5 f6 f7 f8 f9 f10 own4 hb4 hTL X2 Y2
    go_wp2
    go_loopw [30] (fun i wr => ∃ k : Nat, k ≤ TL.length ∧ i = .int .i64 k ∧ Hid (∀ (i : Nat) u, i < k → TL[i]? = some u → tryV r j u = none) ∧ Below w4.heap.size w4 wr) (fun i _ => TL.length - (intOf i).toNat)
    case atStart => exact ⟨0, Nat.zero_le _, rfl, Lib.hid (fun i u hi => by omega), Below.refl _ _⟩
    case round =>
     obtain ⟨k, hk, rfl, HNO, hbw⟩ := hrel
     have HBW := Lib.hid hbw
     have X6 := Lib.hid (zAf X5.out hbw)
     have Y6 := Lib.hid (zAf Y5.out hbw)
     have HB6 := Lib.hid (zAc HB4.out hbw)
     clear hbw
     by_cases hlt : k < TL.length
     ·have hlt' : (k : Int) < TL.length := by omega
      obtain ⟨g9, t, rfl, ht, ct9⟩ := Rd.int (zAn (zAe O4.out HBW.out)) hlt
      have HTM := Lib.hid ht
      have htt : timeB t = true := HTT.out t (by rw [← HTLE.out]; exact List.mem_of_getElem? ht)
      have HTB := Lib.hid htt
      obtain ⟨OV, hOV⟩ : ∃ y, y = tryV r j t := ⟨_, rfl⟩
      have HOV := Lib.hid hOV
      clear ht htt
      have e0 := zAb X6.out 0 rfl
      have e1 := zAb X6.out 1 rfl
      have e2 := zAb X6.out 2 rfl
      have e3 := zAb X6.out 3 rfl
      have e4 := zAb X6.out 4 rfl
      have f0 := zAb Y6.out 0 rfl
      have f1 := zAb Y6.out 1 rfl
      have f2 := zAb Y6.out 2 rfl
      have f3 := zAb Y6.out 3 rfl
      have f4 := zAb Y6.out 4 rfl
      have f5 := zAb Y6.out 5 rfl
      have f6 := zAb Y6.out 6 rfl
      have f7 := zAb Y6.out 7 rfl
      have f8 := zAb Y6.out 8 rfl
      have f9 := zAb Y6.out 9 rfl
      have f10 := zAb Y6.out 10 rfl
      simp only [zgc, zga, zgb] at e0 e1 e2 e3 e4 f0 f1 f2 f3 f4 f5 f6 f7 f8 f9 f10
      go_wp2_with fail
      refine (sCan_any ⟨A, B, U, R, L, n, m, nu, np, nl, c, d, cu, cp, cl⟩ r xs lo j t _ (H.out.bel HB6.out) HRO.out HJO.out HTB.out).mono ?_
      rintro e w7 ⟨v7, rfl, own7, hb7⟩
      rw [← hOV] at own7 ⊢
      obtain ⟨X7, c7, rfl, _⟩ := zAq own7
      have O7 := Lib.hid own7
      have HB7 := Lib.hid (zAc HBW.out hb7)
      have HBF := Lib.hid (zAc HB6.out hb7)
      clear e0 e1 e2 e3 e4 f0 f1 f2 f3 f4 f5 f6 f7 f8 f9 f10 own7 hb7 hOV
      cases OV with
      | none =>
       have HN2 : Hid (∀ (i : Nat) u, i < k + 1 → TL[i]? = some u → tryV r j u = none) := Lib.hid (fun i u hi hu => by
        by_cases e : i = k
        ·subst e; rw [HTM.out] at hu; cases hu; exact HOV.out.symm
        ·exact HNO.out i u (by omega) hu)
       simp only [Option.isSome_none, Option.getD_none]
       go_wp2
       go_roundw
       case rel => exact ⟨k + 1, by omega, by go_num, HN2, HB7.out⟩
       case measure => simp [intOf]; omega
      | some nd =>
       have HE : Hid (earlV r j f = some (t, nd)) := Lib.hid (by rw [HG.out, ← HTLE.out]; exact first_at HTM.out HNO.out HOV.out.symm)
       simp only [Option.isSome_some, zgg] at O7 ⊢
       go_wp2
       (try go_light)
       refine bodyPost_ret (v := .tuple #[.int .i64 t, .slice X7 nd.length c7, .bool true]) (by simp [results, Tryz.results62, go_sem, *]) rfl ?_
       exact ⟨_, by rw [HE.out]; rfl, by rw [HE.out]; exact zAm O7.out HB6.out.size, HBF.out⟩
     ·have HF : Hid (earlV r j f = none) := Lib.hid (by
       rw [HG.out, ← HTLE.out]
       refine first_none fun t ht => ?_
       obtain ⟨i, hi, rfl⟩ := List.getElem_of_mem ht
       exact HNO.out i _ (by omega) (zgh hi))
      go_wp2
      (try go_light)
      refine bodyPost_ret (v := .tuple #[.int .i64 0, .slice none 0 0, .bool false]) (by simp [results, Tryz.results62, go_sem, *]) rfl ?_
      exact ⟨_, by rw [HF.out]; rfl, by rw [HF.out]; exact own_nil _ _ _ _, HB6.out⟩
end Go.Proofs.YtnphjhbfpoekpaaGreat
