import Derived.Test.YtnphjhbfpoekpaaGreatA13Pl
import Derived.Test.YtnphjhbfpoekpaaGreatA8Pl
import Derived.Test.YtnphjhbfpoekpaaGreatApPl
namespace Go.Proofs.YtnphjhbfpoekpaaGreat
set_option linter.unusedSimpArgs false
set_option linter.unusedVariables false
set_option linter.unnecessarySimpa false
open Go.RowKit
theorem Rd.takeI {w : World} {A : Option Addr} {n : Nat} {js : List Int} (h : Rd w A n 1 (ints js)) {k : Nat} (hk : k ≤ n) : Rd w A k 1 (ints (js.take k)) := by
 have hl := h.ilen
 refine ⟨by simp [ints]; omega, fun h0 => ?_⟩
 obtain ⟨g, rfl, hc⟩ := h.2 (by omega)
 refine ⟨g, rfl, fun i u hu => hc i u ?_⟩
 have hi : i < k := by have := (List.getElem?_eq_some_iff.1 hu).1; simp [ints] at this; omega
 simp only [ints, List.map_take, List.getElem?_take, if_pos hi] at hu
 exact hu
theorem hasZ_mem {zs : List Int} {x : Int} : hasZ zs x = true ↔ x ∈ zs := by
 unfold hasZ
 rw [List.any_eq_true]
 exact ⟨fun ⟨y, hy, e⟩ => by have : y = x := by simpa using e
                             exact this ▸ hy, fun h => ⟨x, h, by simp⟩⟩
theorem nodup_step {nd : List Int} {k : Nat} {z : Int} (h : (nd.take k).Nodup) (hz : nd[k]? = some z) (hn : hasZ (nd.take k) z = false) : (nd.take (k + 1)).Nodup := by
 rw [List.take_add_one, hz]
 simp only [Option.toList_some]
 rw [List.nodup_append]
 refine ⟨h, by simp, fun a ha b hb => ?_⟩
 simp at hb
 subst hb
 rintro rfl
 rw [hasZ_mem.2 ha] at hn
 cases hn
theorem nodup_dup {nd : List Int} {k : Nat} {z : Int} (hz : nd[k]? = some z) (hn : hasZ (nd.take k) z = true) : ¬ nd.Nodup := by
 intro h
 have hm := hasZ_mem.1 hn
 obtain ⟨i, hi⟩ := List.mem_iff_getElem?.1 hm
 rw [List.getElem?_take] at hi
 split at hi
 ·rename_i hik
  have h1 := (List.getElem?_eq_some_iff.1 hi)
  have h2 := (List.getElem?_eq_some_iff.1 hz)
  obtain ⟨a1, a2⟩ := h1
  obtain ⟨b1, b2⟩ := h2
  exact List.pairwise_iff_getElem.1 h i k a1 b1 hik (a2.trans b2.symm)
 ·cases hi
theorem jn_dup {ps : List Int} {ns : List Q} {nd : List Int} {q : Int} (h : ¬ nd.Nodup) : (decide nd.Nodup && areB ps ns nd && decide ((nd.length : Int) = q)) = false := by simp [h]
theorem jn_ok {ps : List Int} {ns : List Q} {nd : List Int} {q : Int} (h : nd.Nodup) {b : Bool} (hb : areB ps ns nd = b) : (decide nd.Nodup && areB ps ns nd && decide ((nd.length : Int) = q)) = (if b = true then decide ((nd.length : Int) = q) else false) := by
 subst hb
 cases areB ps ns nd <;> simp [h]
set_option maxHeartbeats 4000000 in
theorem areJobNodes_any (A B : Option Addr) (n c m d : Nat) (ps : List Int) (ns : List Q) (j : J) (D : Option Addr) (k e : Nat) (nd : List Int) (w : World) (hn : n ≤ 1048576) (hm : m ≤ 1048576) (hr : Rd w A n 1 (ints ps)) (hq : Rd w B m 4 (flat ns)) (hl : ∀ g, A = some ⟨g, 0, none⟩ → g < w.heap.size) (hl2 : ∀ g, B = some ⟨g, 0, none⟩ → g < w.heap.size) (hk : k ≤ 1048576) (hke : k ≤ e) (he : e ≤ 9223372036854775807) (hd : Rd w D k 1 (ints nd)) (hl3 : ∀ g, D = some ⟨g, 0, none⟩ → g < w.heap.size) :
  Calls Tryz.prog 176 #[.agg #[.slice A n c, .slice B m d], .agg #[.int .i64 j.id, .int .i64 j.pr, .int .i64 j.nn, .int .i64 j.na, .int .i64 j.nb, .int .i64 j.nc, .int .i64 j.la, .int .i64 j.lb, .int .i64 j.lc, .int .i64 j.wl, .int .i64 j.lv], .slice D k e] w fun e w' => e = .returned (.bool (decide nd.Nodup && areB ps ns nd && decide ((nd.length : Int) = j.nn))) ∧ Below w.heap.size w w' := by
 have hdl := hd.ilen
 have hk9 : k ≤ 9223372036854775807 := by omega
 have HN := Lib.hid hn
 have HM := Lib.hid hm
 have HR := Lib.hid hr
 have HQ := Lib.hid hq
 have HL := Lib.hid hl
 have HL2 := Lib.hid hl2
 have HK := Lib.hid hk
 have HD := Lib.hid hd
 have HL3 := Lib.hid hl3
 have HDL := Lib.hid hdl
 clear hn hm hr hq hl hl2 hk hd hl3 hdl
 go_enter Tryz.func176, Tryz.ntmps176
 have W2 := Lib.hid (zAc (zAc (Below.refl w.heap.size w) (zAa w (.cells #[.slice A n c, .slice B m d] 26))) (zAa _ (.cells #[.int .i64 j.id, .int .i64 j.pr, .int .i64 j.nn, .int .i64 j.na, .int .i64 j.nb, .int .i64 j.nc, .int .i64 j.la, .int .i64 j.lb, .int .i64 j.lc, .int .i64 j.wl, .int .i64 j.lv] 95)))
 have DR := Lib.hid (HD.out.below HL3.out W2.out)
 have DD := Lib.hid (fun (p : Addr) (hp : p.block < w.heap.size) (u : Value) (hu : w.cell? p = some u) => (W2.out.cell (p := p) hp).trans hu)
 go_wp2
 go_loop [11] (fun i => ∃ q : Nat, q ≤ k ∧ i = .int .i64 q ∧ Hid ((nd.take q).Nodup)) (fun i => k - (intOf i).toNat)
 case atStart => exact ⟨0, Nat.zero_le _, rfl, Lib.hid (by simp)⟩
 case round =>
  obtain ⟨q, hq, rfl, hall⟩ := hrel
  by_cases hlt : q < k
  ·have hlt' : (q : Int) < k := by omega
   have hqe : (q : Int) ≤ e := by omega
   have hqe2 : q ≤ e := by omega
   have hq0 : (0 : Int) ≤ (q : Int) := by omega
   obtain ⟨g, z, rfl, hz, d0⟩ := HD.out.int hlt
   have HZ := Lib.hid hz
   have D0 := DD.out ⟨g, q, none⟩ (HL3.out g rfl) _ d0
   clear hz d0
   go_wp2_with fail
   refine (contains_any (some ⟨g, 0, none⟩) q e (nd.take q) z _ (by have := HK.out; omega) (DR.out.takeI (by omega))).mono ?_
   rintro e9 w9 ⟨rfl, rfl⟩
   cases hh : hasZ (nd.take q) z
   ·have HN9 := Lib.hid (nodup_step hall.out HZ.out hh)
    clear hh D0
    go_wp2
    go_round
    case rel => exact ⟨q + 1, by omega, by simp, HN9⟩
    all_goals (simp [intOf]; omega)
   ·have HDUP := Lib.hid (nodup_dup HZ.out hh)
    clear hh D0
    go_wp2
    go_ret
    exact ⟨zAj (jn_dup HDUP.out).symm, W2.out⟩
  ·have hqk : q = k := by omega
   subst hqk
   have hlt' : ¬ (q : Int) < q := by omega
   have HND := Lib.hid (show nd.Nodup from by have := hall.out; rwa [List.take_of_length_le (by have := HDL.out; omega)] at this)
   clear hlt
   go_wp2_with fail
   refine (areNodes_any A B n c m d ps ns D q e nd _ HN.out HM.out (HR.out.below HL.out W2.out) (HQ.out.below HL2.out W2.out) (zAi HL.out W2.out) (zAi HL2.out W2.out) HK.out DR.out (zAi HL3.out W2.out)).mono ?_
   rintro e9 w9 ⟨rfl, hb9⟩
   have k9 := hb9.cell (p := ⟨w.heap.size + 1, 2, none⟩) (by simp)
   have hs9 := hb9.size
   (try simp at hs9)
   have hy9 : w.heap.size + 1 < w9.heap.size := by omega
   have f9 := hb9.frozen (p := ⟨w.heap.size + 1, 2, none⟩) (by simp)
   have B9 := Lib.hid (zAc W2.out hb9)
   clear hb9
   obtain ⟨ab, hab⟩ : ∃ b, b = areB ps ns nd := ⟨_, rfl⟩
   have HAB := Lib.hid hab.symm
   rw [← hab]
   clear hab
   have hdl := HDL.out
   cases ab
   ·go_wp2
    go_ret
    exact ⟨zAj (by rw [jn_ok HND.out HAB.out]; simp), B9.out⟩
   ·by_cases hlen : (q : Int) = j.nn
    ·go_wp2
     go_ret
     exact ⟨zAj (by rw [jn_ok HND.out HAB.out]; simp; omega), B9.out⟩
    ·go_wp2
     go_ret
     exact ⟨zAj (by rw [jn_ok HND.out HAB.out]; simp [hlen, hdl]), B9.out⟩
def jnB (r : Rm) (j : J) (nd : List Int) : Bool := r.okB && j.okB && jobNodesB r j nd
theorem jnB_dup {r : Rm} {j : J} {nd : List Int} (h : ¬ nd.Nodup) : jnB r j nd = false := by simp [jnB, jobNodesB, h]
set_option maxHeartbeats 4000000 in
set_option maxRecDepth 20000 in
theorem sDiff_any (a : RA) (r : Rm) (xs : List Value) (lo : Nat) (j : J) (D : Option Addr) (k e : Nat) (nd : List Int) (w : World) (h : RoomOwn w lo a r xs) (hk : k ≤ 1048576) (hke : k ≤ e) (he : e ≤ 9223372036854775807) (hd : Rd w D k 1 (ints nd)) (hl3 : ∀ g, D = some ⟨g, 0, none⟩ → g < w.heap.size) :
  Calls Tryz.prog 99 #[a.v, .agg #[.int .i64 j.id, .int .i64 j.pr, .int .i64 j.nn, .int .i64 j.na, .int .i64 j.nb, .int .i64 j.nc, .int .i64 j.la, .int .i64 j.lb, .int .i64 j.lc, .int .i64 j.wl, .int .i64 j.lv], .slice D k e] w fun e w' => e = .returned (.bool (jnB r j nd)) ∧ Below w.heap.size w w' := by
 have H := Lib.hid h
 obtain ⟨A, B, U, R, L, n, m, nu, np, nl, c, d, cu, cp, cl⟩ := a
 dsimp only [RA.v]
 have hdl := hd.ilen
 have hk9 : k ≤ 9223372036854775807 := by omega
 have HK := Lib.hid hk
 have HD := Lib.hid hd
 have HL3 := Lib.hid hl3
 have HDL := Lib.hid hdl
 clear h hk hd hl3
 obtain ⟨ro, hro⟩ : ∃ b, r.okB = b := ⟨_, rfl⟩
 obtain ⟨jo, hjo⟩ : ∃ b, j.okB = b := ⟨_, rfl⟩
 obtain ⟨ab, hab⟩ : ∃ b, areB r.par r.nodes nd = b := ⟨_, rfl⟩
 have HJB := Lib.hid (show jnB r j nd = (ro && jo && (decide nd.Nodup && ab && decide ((k : Int) = j.nn))) by unfold jnB jobNodesB; rw [hro, hjo, hab, hdl])
 have HRO := Lib.hid hro
 have HJO := Lib.hid hjo
 have HAB := Lib.hid hab
 clear hro hjo hab hdl
 go_enter Tryz.func99, Tryz.ntmps99
 have W2 := Lib.hid (zAc (zAc (Below.refl w.heap.size w) (zAa w (.cells #[.slice A n c, .slice B m d, .slice U nu cu, .slice R np cp, .slice L nl cl] 33))) (zAa _ (.cells #[.int .i64 j.id, .int .i64 j.pr, .int .i64 j.nn, .int .i64 j.na, .int .i64 j.nb, .int .i64 j.nc, .int .i64 j.la, .int .i64 j.lb, .int .i64 j.lc, .int .i64 j.wl, .int .i64 j.lv] 95)))
 go_wp2_with fail
 refine (sroomOk_any ⟨A, B, U, R, L, n, m, nu, np, nl, c, d, cu, cp, cl⟩ r _ (H.out.bel W2.out).rd).mono ?_
 rintro e1 w1 ⟨rfl, hb1⟩
 rw [HRO.out]
 have hs1 := hb1.size
 (try simp at hs1)
 have k10 := fun o => hb1.cell (p := ⟨w.heap.size, o, none⟩) (by simp <;> omega)
 have f10 := fun o => hb1.frozen (p := ⟨w.heap.size, o, none⟩) (by simp <;> omega)
 have k11 := fun o => hb1.cell (p := ⟨w.heap.size + 1, o, none⟩) (by simp <;> omega)
 have f11 := fun o => hb1.frozen (p := ⟨w.heap.size + 1, o, none⟩) (by simp <;> omega)
 have y1 : w.heap.size + 1 < w1.heap.size := by omega
 have B1 := Lib.hid (zAc W2.out hb1)
 clear hb1
 cases ro
 ·go_wp2
  go_ret
  exact ⟨zAj (by rw [HJB.out]; simp), B1.out⟩
 go_wp2_with fail
 refine (sjobOk_raw j _).mono ?_
 rintro e2 w2 ⟨rfl, hb2⟩
 rw [HJO.out]
 have hs2 := hb2.size
 (try simp at hs2)
 have k20 := fun o => hb2.cell (p := ⟨w.heap.size, o, none⟩) zOm
 have f20 := fun o => hb2.frozen (p := ⟨w.heap.size, o, none⟩) zOm
 have k21 := fun o => hb2.cell (p := ⟨w.heap.size + 1, o, none⟩) zOm
 have f21 := fun o => hb2.frozen (p := ⟨w.heap.size + 1, o, none⟩) zOm
 have y2 : w.heap.size + 1 < w2.heap.size := by omega
 have B2 := Lib.hid (zAc B1.out hb2)
 clear hb2
 cases jo
 ·go_wp2
  go_ret
  exact ⟨zAj (by rw [HJB.out]; simp), B2.out⟩
 by_cases hlen : (k : Int) = j.nn
 rotate_left
 ·go_wp2
  go_ret
  exact ⟨zAj (by rw [HJB.out]; simp [hlen]), B2.out⟩
 go_wp2_with fail
 have O2 := Lib.hid (H.out.bel B2.out)
 refine (sNodes_any A B n c m d r.par r.nodes D k e nd _ H.out.n H.out.m O2.out.rd.par O2.out.rd.nodes O2.out.rd.ltA O2.out.rd.ltB HK.out (HD.out.below HL3.out B2.out) (zAi HL3.out B2.out)).mono ?_
 rintro e3 w3 ⟨rfl, hb3⟩
 rw [HAB.out]
 have hs3 := hb3.size
 have B3 := Lib.hid (zAc B2.out hb3)
 clear hb3
 have DR := Lib.hid (HD.out.below HL3.out B3.out)
 have DD := Lib.hid (fun (p : Addr) (hp : p.block < w.heap.size) (u : Value) (hu : w.cell? p = some u) => (B3.out.cell (p := p) hp).trans hu)
 cases ab
 ·go_wp2
  go_ret
  exact ⟨zAj (by rw [HJB.out]; simp), B3.out⟩
 go_wp2
 go_loop [33] (fun i => ∃ q : Nat, q ≤ k ∧ i = .int .i64 q ∧ Hid ((nd.take q).Nodup)) (fun i => k - (intOf i).toNat)
 case atStart => exact ⟨0, Nat.zero_le _, rfl, Lib.hid (by simp)⟩
 case round =>
  obtain ⟨q, hq, rfl, hall⟩ := hrel
  by_cases hlt : q < k
  ·have hlt' : (q : Int) < k := by omega
   have hqe : (q : Int) ≤ e := by omega
   have hqe2 : q ≤ e := by omega
   have hq0 : (0 : Int) ≤ (q : Int) := by omega
   obtain ⟨g, z, rfl, hz, d0⟩ := HD.out.int hlt
   have HZ := Lib.hid hz
   have D0 := DD.out ⟨g, q, none⟩ (HL3.out g rfl) _ d0
   clear hz d0
   go_wp2_with fail
   refine (shas_any (some ⟨g, 0, none⟩) q e (nd.take q) z _ (by have := HK.out; omega) (DR.out.takeI (by omega))).mono ?_
   rintro e9 w9 ⟨rfl, rfl⟩
   cases hh : hasZ (nd.take q) z
   ·have HN9 := Lib.hid (nodup_step hall.out HZ.out hh)
    clear hh D0
    go_wp2
    go_round
    case rel => exact ⟨q + 1, by omega, by simp, HN9⟩
    all_goals (simp [intOf]; omega)
   ·have HDUP := Lib.hid (nodup_dup HZ.out hh)
    clear hh D0
    go_wp2
    go_ret
    exact ⟨zAj (jnB_dup HDUP.out).symm, B3.out⟩
  ·have hqk : q = k := by omega
   subst hqk
   have hlt' : ¬ (q : Int) < q := by omega
   have HND := Lib.hid (show nd.Nodup from by have := hall.out; rwa [List.take_of_length_le (by have := HDL.out; omega)] at this)
   clear hlt
   go_wp2
   go_ret
   exact ⟨zAj (by rw [HJB.out]; simp [hlen, HND.out]), B3.out⟩
end Go.Proofs.YtnphjhbfpoekpaaGreat
