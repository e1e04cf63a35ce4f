import Derived.Test.YtnphjhbfpoekpaaGreatHaPh
namespace Go.Proofs.YtnphjhbfpoekpaaGreat
set_option linter.unusedSimpArgs false
set_option linter.unusedVariables false
set_option linter.unnecessarySimpa false
open Go.RowKit
theorem jflat_snocQ (js : List J) (j : J) : jflat (js ++ [j]) = jflat js ++ j.cells := by simp [jflat]
theorem jcells_one (j : J) : ∀ u ∈ j.cells, u.oneCell' = true := by
 intro u hu
 simp only [J.cells, List.mem_cons, List.not_mem_nil, or_false] at hu
 rcases hu with rfl | rfl | rfl | rfl | rfl | rfl | rfl | rfl | rfl | rfl | rfl <;> rfl
theorem jown_rd {w : World} {b : Nat} {j : J} (h : w.heap[b]? = some (.cells #[.int .i64 j.id, .int .i64 j.pr, .int .i64 j.nn, .int .i64 j.na, .int .i64 j.nb, .int .i64 j.nc, .int .i64 j.la, .int .i64 j.lb, .int .i64 j.lc, .int .i64 j.wl, .int .i64 j.lv] 95 (0, 0))) : Rd w (some ⟨b, 0, none⟩) 1 11 j.cells :=
 zAn (own_lit (lo := 0) (cs := j.cells) (n := 1) (size := 11) (e := 95) h rfl (by decide) (Nat.zero_le _))
structure QG (w wr : World) (g : Nat) (X : Value) (js : List J) : Prop where
 own : wr.ownsRow w.heap.size 95 11 X js.length (jflat js)
 cur : Cur wr g
 fr : Fr (· = g) w wr
 hg : g < w.heap.size
theorem QG.bel {w wr w' : World} {g : Nat} {X : Value} {js : List J} (h : QG w wr g X js) (hb : Below wr.heap.size wr w') : QG w w' g X js := ⟨zAe h.own hb, h.cur.below hb, h.fr.of_bel hb, h.hg⟩
theorem QG.cs {w wr w' : World} {g : Nat} {X : Value} {js : List J} (h : QG w wr g X js) (hf : Fr (· = g) wr w') (hc : Cur w' g) : QG w w' g X js := by
 have hh := h.hg
 exact ⟨own_fr h.own hf (fun k hk e => by have := zAu h.own k hk; omega), hc, h.fr.trans hf, h.hg⟩
theorem QG.put {w wr w' : World} {g : Nat} {X Y : Value} {js : List J} {j : J} (h : QG w wr g X js) (ho : w'.ownsRow w.heap.size 95 11 Y (js.length + 1) (jflat js ++ j.cells)) (hg : wr.grownBy w' X.ownBlock) : QG w w' g Y (js ++ [j]) := by
 have hh := h.hg
 exact ⟨by rw [jflat_snocQ]; simpa using ho, h.cur.grown hg (fun k hk => by have := zAu h.own k hk; omega), h.fr.grown hg (zAu h.own), h.hg⟩
set_option maxHeartbeats 16000000 in
set_option maxRecDepth 20000 in
theorem cur_queue (g most : Nat) (w : World) (h : Cur w g) (hm : most ≤ 1000) :
  Calls Tryz.prog 192 #[.pointer (some ⟨g, 0, none⟩), .int .i64 most] w fun e w' => ∃ (D : Option Addr) (c : Nat) (js : List J), e = .returned (.slice D js.length c) ∧ js.length ≤ most ∧ w'.ownsRow w.heap.size 95 11 (.slice D js.length c) js.length (jflat js) ∧ Cur w' g ∧ Fr (· = g) w w' := by
 have hgw := h.lt
 have C := Lib.hid h
 obtain ⟨iJ, hiJ, hzaJ, hzbJ, hzcJ⟩ := info_parts infoJ
 clear h
 go_enter Tryz.func192, Tryz.ntmps192
 have Q0 : Hid (QG w (w.alloc (.cells #[] 95)) g (.slice (some ⟨w.heap.size, 0, none⟩) 0 0) []) := Lib.hid ⟨own_lit (cs := []) (n := 0) (zAj _ rfl) rfl (by decide) (Nat.le_refl _), C.out.alloc _, (Fr.refl _ w).alloc _, hgw⟩
 go_wp2_with fail
 refine (zAt g ((most : Int) + 1) _ Q0.out.cur (by omega) (by omega)).mono ?_
 rintro e w1 ⟨x1, rfl, p1, q1, cu1, fr1⟩
 have Q1 := Lib.hid (Q0.out.cs fr1 cu1)
 clear cu1 fr1 Q0
 go_wp2
 go_loopw [5, 6] (fun X i wr => ∃ (m : Int) (js : List J), 0 ≤ m ∧ i = .int .i64 m ∧ (js.length : Int) + m ≤ most ∧ QG w wr g X js) (fun _ i _ => (intOf i).toNat)
 case atStart => exact ⟨x1, [], p1, rfl, by simp; omega, Q1.out⟩
 case round =>
  clear Q1 p1 q1
  obtain ⟨m, js, m0, rfl, hml, Q'⟩ := hrel
  obtain ⟨wo, rfl⟩ : ∃ x, x = wr := ⟨wr, rfl⟩
  obtain ⟨D, c, rfl, -⟩ := zAq Q'.own
  have Q2 := Lib.hid Q'
  clear Q'
  by_cases hm0 : 0 < m
  ·go_wp2_with fail
   refine (cur_job g _ Q2.out.cur).mono ?_
   rintro e w3 ⟨j, rfl, cu3, fr3⟩
   have Q3 := Lib.hid (Q2.out.cs fr3 cu3)
   have Q4 : Hid (QG w (w3.alloc (.cells #[.int .i64 j.id, .int .i64 j.pr, .int .i64 j.nn, .int .i64 j.na, .int .i64 j.nb, .int .i64 j.nc, .int .i64 j.la, .int .i64 j.lb, .int .i64 j.lc, .int .i64 j.wl, .int .i64 j.lv] 95)) g _ js) := Lib.hid (Q3.out.bel (zAa _ _))
   have J4 : Hid ((w3.alloc (.cells #[.int .i64 j.id, .int .i64 j.pr, .int .i64 j.nn, .int .i64 j.na, .int .i64 j.nb, .int .i64 j.nc, .int .i64 j.la, .int .i64 j.lb, .int .i64 j.lc, .int .i64 j.wl, .int .i64 j.lv] 95)).heap[w3.heap.size]? = some (.cells #[.int .i64 j.id, .int .i64 j.pr, .int .i64 j.nn, .int .i64 j.na, .int .i64 j.nb, .int .i64 j.nc, .int .i64 j.la, .int .i64 j.lb, .int .i64 j.lc, .int .i64 j.wl, .int .i64 j.lv] 95 (0, 0))) := Lib.hid (zAj _ rfl)
   clear Q2 Q3 cu3 fr3
   go_upto_region 6 with fail
   generalize w3.alloc (.cells #[.int .i64 j.id, .int .i64 j.pr, .int .i64 j.nn, .int .i64 j.na, .int .i64 j.nb, .int .i64 j.nc, .int .i64 j.la, .int .i64 j.lb, .int .i64 j.lc, .int .i64 j.wl, .int .i64 j.lv] 95) = w4 at *
   generalize w3.heap.size = bj at *
   have v0 := zAb J4.out 0 rfl
   have v1 := zAb J4.out 1 rfl
   have v2 := zAb J4.out 2 rfl
   have v3 := zAb J4.out 3 rfl
   have v4 := zAb J4.out 4 rfl
   have v5 := zAb J4.out 5 rfl
   have v6 := zAb J4.out 6 rfl
   have v7 := zAb J4.out 7 rfl
   have v8 := zAb J4.out 8 rfl
   have v9 := zAb J4.out 9 rfl
   have v10 := zAb J4.out 10 rfl
   have vf := zAh J4.out
   have vl := zAg J4.out
   simp only [zgc, zga, zgb] at v0 v1 v2 v3 v4 v5 v6 v7 v8 v9 v10
   go_wp2_with fail
   refine (sFind_any D js.length c js j.id _ (by omega) (zAn Q4.out.own) (zAz Q4.out.own)).mono ?_
   rintro e w5 ⟨q, rfl, -, hb5⟩
   generalize (findJ js j.id).isSome = known
   have Q6 : Hid (QG w (w5.alloc (.cells #[.int .i64 q.id, .int .i64 q.pr, .int .i64 q.nn, .int .i64 q.na, .int .i64 q.nb, .int .i64 q.nc, .int .i64 q.la, .int .i64 q.lb, .int .i64 q.lc, .int .i64 q.wl, .int .i64 q.lv] 95)) g _ js) := Lib.hid (Q4.out.bel (zAc hb5 (zAa _ _)))
   have J6 := Lib.hid (zAs (zAf J4.out hb5) (.cells #[.int .i64 q.id, .int .i64 q.pr, .int .i64 q.nn, .int .i64 q.na, .int .i64 q.nb, .int .i64 q.nc, .int .i64 q.la, .int .i64 q.lb, .int .i64 q.lc, .int .i64 q.wl, .int .i64 q.lv] 95))
   clear Q4 J4 hb5 v0 v1 v2 v3 v4 v5 v6 v7 v8 v9 v10 vf vl
   go_upto_region 7 with fail
   generalize w5.alloc (.cells #[.int .i64 q.id, .int .i64 q.pr, .int .i64 q.nn, .int .i64 q.na, .int .i64 q.nb, .int .i64 q.nc, .int .i64 q.la, .int .i64 q.lb, .int .i64 q.lc, .int .i64 q.wl, .int .i64 q.lv] 95) = w6 at *
   cases known
   ·skip
    have v0 := zAb J6.out 0 rfl
    have v1 := zAb J6.out 1 rfl
    have v2 := zAb J6.out 2 rfl
    have v3 := zAb J6.out 3 rfl
    have v4 := zAb J6.out 4 rfl
    have v5 := zAb J6.out 5 rfl
    have v6 := zAb J6.out 6 rfl
    have v7 := zAb J6.out 7 rfl
    have v8 := zAb J6.out 8 rfl
    have v9 := zAb J6.out 9 rfl
    have v10 := zAb J6.out 10 rfl
    have vf := zAh J6.out
    have vl := zAg J6.out
    simp only [zgc, zga, zgb] at v0 v1 v2 v3 v4 v5 v6 v7 v8 v9 v10
    go_wp2_with (at_builtin; refine zAw rfl _ _ 34 rfl w.heap.size 95 iJ (.agg #[.int .i64 0, .int .i64 0, .int .i64 0, .int .i64 0, .int .i64 0, .int .i64 0, .int .i64 0, .int .i64 0, .int .i64 0, .int .i64 0, .int .i64 0]) 11 88 Tryz.underlying34 hiJ hzaJ hzbJ hzcJ rfl (by decide) (.slice D js.length c) js.length (jflat js) rfl ?ca (some ⟨w6.heap.size, 0, none⟩) 1 1 j.cells rfl (Or.inr ⟨_, rfl⟩) ?cb (jcells_one _) ?cd ?ce ?cf ?_)
    case ca => exact zAe Q6.out.own (zAa _ _)
    case cb => exact jown_rd (zAj _ rfl)
    case cd => unfold maxLen; omega
    case ce => omega
    case cf => have := Q6.out.fr.size; first | omega | (simp <;> omega)
    intro Y7 w7 own7 hg7 hne7 hat7
    have Q7 : Hid (QG w (w6.alloc (.cells #[.int .i64 j.id, .int .i64 j.pr, .int .i64 j.nn, .int .i64 j.na, .int .i64 j.nb, .int .i64 j.nc, .int .i64 j.la, .int .i64 j.lb, .int .i64 j.lc, .int .i64 j.wl, .int .i64 j.lv] 95)) g _ js) := Lib.hid (Q6.out.bel (zAa _ _))
    have Q8 := Lib.hid (Q7.out.put (j := j) own7 hg7)
    clear own7 hg7 hne7 hat7 Q7 Q6 J6 v0 v1 v2 v3 v4 v5 v6 v7 v8 v9 v10 vf vl
    go_wp2
    exact ⟨⟨m - 1, js ++ [j], by omega, by go_num, by simp; omega, Q8.out⟩, by simp [intOf]; omega⟩
   ·go_wp2
    exact ⟨⟨m - 1, js, by omega, by go_num, by omega, Q6.out⟩, by simp [intOf]; omega⟩
  ·have hmz : m = 0 := by omega
   subst hmz
   go_wp2
   go_ret
   exact ⟨D, c, js, rfl, by omega, Q2.out.own, Q2.out.cur, Q2.out.fr⟩
set_option maxHeartbeats 16000000 in
set_option maxRecDepth 20000 in
theorem cur_queueAny (g : Nat) (w : World) (h : Cur w g) :
  Calls Tryz.prog 133 #[.pointer (some ⟨g, 0, none⟩)] w fun e w' => ∃ (D : Option Addr) (c : Nat) (js : List J), e = .returned (.slice D js.length c) ∧ js.length ≤ 8 ∧ w'.ownsRow w.heap.size 95 11 (.slice D js.length c) js.length (jflat js) ∧ Cur w' g ∧ Fr (· = g) w w' := by
 have hgw := h.lt
 have C := Lib.hid h
 obtain ⟨iJ, hiJ, hzaJ, hzbJ, hzcJ⟩ := info_parts infoJ
 clear h
 go_enter Tryz.func133, Tryz.ntmps133
 go_wp2_with fail
 refine (cur_queue g 7 _ C.out (by decide)).mono ?_
 rintro e w1 ⟨D, c, js, rfl, hl, own1, cu1, fr1⟩
 have Q1 : Hid (QG w w1 g (.slice D js.length c) js) := Lib.hid ⟨own1, cu1, fr1, hgw⟩
 clear own1 cu1 fr1 C
 go_wp2_with fail
 refine (zAt g 12 _ Q1.out.cur (by omega) (by omega)).mono ?_
 rintro e w2 ⟨x2, rfl, p2, q2, cu2, fr2⟩
 have Q2 := Lib.hid (Q1.out.cs fr2 cu2)
 clear cu2 fr2 Q1
 by_cases h0 : x2 = 0
 ·subst h0
  go_wp2_with fail
  refine (cur_anyJob g _ Q2.out.cur).mono ?_
  rintro e w3 ⟨j, rfl, cu3, fr3⟩
  have Q3 := Lib.hid (Q2.out.cs fr3 cu3)
  clear cu3 fr3 Q2
  go_wp2_with (at_builtin; refine zAw rfl _ _ 34 rfl w.heap.size 95 iJ (.agg #[.int .i64 0, .int .i64 0, .int .i64 0, .int .i64 0, .int .i64 0, .int .i64 0, .int .i64 0, .int .i64 0, .int .i64 0, .int .i64 0, .int .i64 0]) 11 88 Tryz.underlying34 hiJ hzaJ hzbJ hzcJ rfl (by decide) (.slice D js.length c) js.length (jflat js) rfl ?ca (some ⟨w3.heap.size, 0, none⟩) 1 1 j.cells rfl (Or.inr ⟨_, rfl⟩) ?cb (jcells_one _) ?cd ?ce ?cf ?_)
  case ca => exact zAe Q3.out.own (zAa _ _)
  case cb => exact jown_rd (zAj _ rfl)
  case cd => unfold maxLen; omega
  case ce => omega
  case cf => have := Q3.out.fr.size; first | omega | (simp <;> omega)
  intro Y7 w7 own7 hg7 hne7 hat7
  obtain ⟨E7, c7, rfl, -⟩ := zAq own7
  have Q7 : Hid (QG w (w3.alloc (.cells #[.int .i64 j.id, .int .i64 j.pr, .int .i64 j.nn, .int .i64 j.na, .int .i64 j.nb, .int .i64 j.nc, .int .i64 j.la, .int .i64 j.lb, .int .i64 j.lc, .int .i64 j.wl, .int .i64 j.lv] 95)) g _ js) := Lib.hid (Q3.out.bel (zAa _ _))
  have Q8 := Lib.hid (Q7.out.put (j := j) own7 hg7)
  have hlen : (js ++ [j]).length = js.length + 1 := by simp
  clear own7 hg7 hne7 hat7 Q7 Q3
  go_wp2
  go_ret
  exact ⟨E7, c7, js ++ [j], (by rw [hlen]; rfl), by rw [hlen]; omega, by rw [hlen]; have := Q8.out.own; rwa [hlen] at this, Q8.out.cur, Q8.out.fr⟩
 by_cases h1 : x2 = 1
 ·subst h1
  by_cases hjs : 0 < js.length
  ·have hjs' : (0 : Int) < js.length := by omega
   obtain ⟨gD, j, rfl, hj, d0, d1, d2, d3, d4, d5, d6, d7, d8, d9, d10⟩ := (zAn Q2.out.own).j hjs
   simp only [Nat.zero_mul, Nat.zero_add] at d0 d1 d2 d3 d4 d5 d6 d7 d8 d9 d10
   clear hj
   go_upto_region 6 with fail
   go_wp2_with (at_builtin; refine zAw rfl _ _ 34 rfl w.heap.size 95 iJ (.agg #[.int .i64 0, .int .i64 0, .int .i64 0, .int .i64 0, .int .i64 0, .int .i64 0, .int .i64 0, .int .i64 0, .int .i64 0, .int .i64 0, .int .i64 0]) 11 88 Tryz.underlying34 hiJ hzaJ hzbJ hzcJ rfl (by decide) (.slice (some ⟨gD, 0, none⟩) js.length c) js.length (jflat js) rfl ?ca (some ⟨w2.heap.size, 0, none⟩) 1 1 j.cells rfl (Or.inr ⟨_, rfl⟩) ?cb (jcells_one _) ?cd ?ce ?cf ?_)
   case ca => exact zAe Q2.out.own (zAa _ _)
   case cb => exact jown_rd (zAj _ rfl)
   case cd => unfold maxLen; omega
   case ce => omega
   case cf => have := Q2.out.fr.size; first | omega | (simp <;> omega)
   intro Y7 w7 own7 hg7 hne7 hat7
   obtain ⟨E7, c7, rfl, -⟩ := zAq own7
   have Q7 : Hid (QG w (w2.alloc (.cells #[.int .i64 j.id, .int .i64 j.pr, .int .i64 j.nn, .int .i64 j.na, .int .i64 j.nb, .int .i64 j.nc, .int .i64 j.la, .int .i64 j.lb, .int .i64 j.lc, .int .i64 j.wl, .int .i64 j.lv] 95)) g _ js) := Lib.hid (Q2.out.bel (zAa _ _))
   have Q8 := Lib.hid (Q7.out.put (j := j) own7 hg7)
   have hlen : (js ++ [j]).length = js.length + 1 := by simp
   clear own7 hg7 hne7 hat7 Q7 Q2 d0 d1 d2 d3 d4 d5 d6 d7 d8 d9 d10
   go_wp2
   go_ret
   exact ⟨E7, c7, js ++ [j], (by rw [hlen]; rfl), by rw [hlen]; omega, by rw [hlen]; have := Q8.out.own; rwa [hlen] at this, Q8.out.cur, Q8.out.fr⟩
  ·have hjs' : ¬ (0 : Int) < js.length := by omega
   go_wp2
   go_ret
   exact ⟨D, c, js, rfl, by omega, Q2.out.own, Q2.out.cur, Q2.out.fr⟩
 go_wp2
 go_ret
 exact ⟨D, c, js, rfl, by omega, Q2.out.own, Q2.out.cur, Q2.out.fr⟩
end Go.Proofs.YtnphjhbfpoekpaaGreat
