import Derived.Test.YtnphjhbfpoekpaaGreatLr0Pg
import Derived.Test.YtnphjhbfpoekpaaGreatHcPg
import Derived.Test.YtnphjhbfpoekpaaGreatIcPg
import Derived.Test.YtnphjhbfpoekpaaGreatApPg
namespace Go.Proofs.YtnphjhbfpoekpaaGreat
set_option linter.unusedSimpArgs false
set_option linter.unusedVariables false
set_option linter.unnecessarySimpa false
open Go.RowKit
theorem plS_no {r : Rm} {now depth : Int} {js : List J} (h : planB r now js depth = false) : plS r now js depth = ⟨r, [], []⟩ := by unfold plS; rw [h]; rfl
theorem plS_yes {r : Rm} {now depth : Int} {js : List J} (h : planB r now js depth = true) : plS r now js depth = planV r now js depth := by unfold plS; rw [if_pos h]
theorem hcells_app2 : ∀ {hs : List Hd} {ss : List Value} {gs : List Hd} {tt : List Value}, hs.length = ss.length → hcells (hs ++ gs) (ss ++ tt) = hcells hs ss ++ hcells gs tt
 | [], [], _, _, _ => rfl
 | a :: hs, y :: ss, gs, tt, e => by
  have := hcells_app2 (hs := hs) (ss := ss) (gs := gs) (tt := tt) (by simpa using e)
  simp only [List.cons_append, hcells, this]
theorem hcells_one : ∀ {hs : List Hd} {ss : List Value}, (∀ x ∈ ss, x.oneCell' = true) → ∀ u ∈ hcells hs ss, u.oneCell' = true
 | [], _, _, u, h => by simp [hcells] at h
 | _ :: _, [], _, u, h => by simp [hcells] at h
 | p :: hs, x :: ss, ho, u, h => by
  simp only [hcells, List.mem_cons] at h
  rcases h with rfl | rfl | rfl | h
  ·rfl
  ·rfl
  ·exact ho _ (by simp)
  ·exact hcells_one (fun y hy => ho y (List.mem_cons_of_mem _ hy)) u h
theorem OwnH.one {w : World} {lo : Nat} {v : Value} {n : Nat} {ss : List Value} {hs : List Hd} (h : OwnH w lo v n ss hs) : ∀ u ∈ hcells hs ss, u.oneCell' = true := by
 refine hcells_one (fun x hx => ?_)
 obtain ⟨i, hi, rfl⟩ := List.getElem_of_mem hx
 obtain ⟨p, hp⟩ : ∃ p, hs[i]? = some p := ⟨_, zgh (by have := h.len; have := h.slen; omega)⟩
 obtain ⟨X, d, e, -⟩ := zAq (h.each i _ p (zgh hi) hp).2
 rw [e]; rfl
theorem own_addrH {w : World} {lo : Nat} {e : TypeId} {size : Nat} {A : Option Addr} {n c : Nat} {xs : List Value} (h : w.ownsRow lo e size (.slice A n c) n xs) : (A = none ∧ n = 0 ∧ c = 0) ∨ ∃ g, A = some ⟨g, 0, none⟩ := by
 rcases h.2 with ⟨h0, h1⟩ | ⟨g, cap, cur, hv, _⟩
 ·cases h0; exact Or.inl ⟨rfl, rfl, rfl⟩
 ·cases hv; exact Or.inr ⟨g, rfl⟩
theorem rdH_both {w : World} {lo lo1 lo2 : Nat} {Z X Y : Option Addr} {n m cz c d : Nat} {ss tt : List Value} {hs gs : List Hd} (ho : w.ownsRow lo 41 3 (.slice Z (n + m) cz) (n + m) (hcells hs ss ++ hcells gs tt)) (h1 : OwnH w lo1 (.slice X n c) n ss hs) (h2 : OwnH w lo2 (.slice Y m d) m tt gs) : RdH w Z (n + m) (ss ++ tt) (hs ++ gs) := by
 have l1 := h1.len
 have l2 := h2.len
 have k1 := h1.slen
 have k2 := h2.slen
 refine ⟨by rw [List.length_append]; omega, by rw [List.length_append]; omega, zAz ho, ?_, fun k x p a b => ?_⟩
 ·rw [hcells_app2 (by omega)]; exact zAn ho
 ·by_cases hk : k < n
  ·rw [List.getElem?_append_left (by omega)] at a b
   exact h1.rd.each k x p a b
  ·rw [List.getElem?_append_right (by omega)] at a b
   rw [k1] at a
   rw [l1] at b
   exact h2.rd.each (k - n) x p a b
theorem wanted_append_row {P : Program} {ops : Array Oper} {w : World} {o : Oper} {a : Act} {K : Act → World → Prop} {Q : Exit → Act → World → Prop} {E : Prop} (hw : Region.wanted o (yielded ops a.tmps) = true) (s x : Operand) (t : TypeId)
  (ho : o.op = .call { callee := .builtin .append, args := #[s, x], argTypes := #[t, t] })
  (base : Nat) (e : TypeId) (i : TypeInfo) (z : Value) (size bytes : Nat) (ht : P.underlying t = some (.slice e)) (hi : P.info? e = some i) (hz : i.zero = some z)
  (hsize : i.size = size) (hby : i.bytes = bytes) (hzs : z.cells.size = size) (hsz : 0 < size)
  (v : Value) (n : Nat) (xs : List Value) (hs : a.eval s = v) (hown : w.ownsRow base e size v n xs)
  (X : Option Addr) (m c : Nat) (news : List Value) (hx : a.eval x = .slice X m c) (hX : (X = none ∧ m = 0 ∧ c = 0) ∨ ∃ g, X = some ⟨g, 0, none⟩) (hrd : Rd w X m size news) (h1 : ∀ u ∈ news, u.oneCell' = true)
  (h63 : n + m ≤ maxLen) (hbytes : (n + m) * bytes ≤ 140737488355328) (hbase : base ≤ w.heap.size)
  (h : ∀ v' w', w'.ownsRow base e size v' (n + m) (xs ++ news) → w.grownBy w' v.ownBlock → K (a.put o.dst v') w') :
  if Region.wanted o (yielded ops a.tmps) = true then Oper.wp P o a w K Q else E := by
 rw [if_pos hw]
 exact wp_append_row s x t ho base e i z size bytes ht hi hz hsize hby hzs hsz v n xs hs hown X m c news hx hX hrd h1 h63 hbytes hbase fun v' w' h2 h3 _ _ => h v' w' h2 h3
set_option maxHeartbeats 16000000 in
set_option maxRecDepth 20000 in
theorem law_fplan_go (A0 : Option Addr) (n0 c0 : Nat) (w : World) (hn : n0 ≤ 1048576) (h : ByIn w A0 n0) :
  Calls Tryz.prog 3 #[.slice A0 n0 c0] w fun e w' => e = .returned (.bool true) ∧ Below w.heap.size w w' := by
 obtain ⟨iH, hiH, hzaH, hzbH, hzcH⟩ := info_parts infoH
 have HB := Lib.hid h
 have HN := Lib.hid hn
 have hn' : ¬ (1048576 : Int) < n0 := by omega
 clear h hn
 go_enter Tryz.func3, Tryz.ntmps3
 go_wp2_with fail
 refine (drawPlan_any A0 n0 c0 _ HN.out HB.out).mono ?_
 rintro e w1 ⟨a, now, D, e9, js, dp, rfl, hjl, ⟨r, hfw, xs, oa⟩, oj, hb1⟩
 obtain ⟨A, B, U, R, L, n, m, nu, np, nl, c, d, cu, cp, cl⟩ := a
 dsimp only [RA.v]
 have FW := Lib.hid hfw
 have RB0 : Hid ((w1.alloc (.cells #[.slice A n c, .slice B m d, .slice U nu cu, .slice R np cp, .slice L nl cl] 33)).heap[w1.heap.size]? = some (.cells #[.slice A n c, .slice B m d, .slice U nu cu, .slice R np cp, .slice L nl cl] 33 (0, 0))) := Lib.hid (zAj _ rfl)
 have O10 := Lib.hid (oa.bel (zAa w1 (.cells #[.slice A n c, .slice B m d, .slice U nu cu, .slice R np cp, .slice L nl cl] 33)))
 have OJ0 := Lib.hid (zAe oj (zAa w1 (.cells #[.slice A n c, .slice B m d, .slice U nu cu, .slice R np cp, .slice L nl cl] 33)))
 have BE0 := Lib.hid (zAc hb1 (zAa w1 (.cells #[.slice A n c, .slice B m d, .slice U nu cu, .slice R np cp, .slice L nl cl] 33)))
 obtain ⟨EB, hEB⟩ : ∃ y, planB r now js dp = y := ⟨_, rfl⟩
 obtain ⟨PV, hPV⟩ : ∃ y, plS r now js dp = y := ⟨_, rfl⟩
 have HEB := Lib.hid hEB
 have HPV := Lib.hid hPV
 have hp60 : PV.a.length ≤ 60 ∧ PV.b.length ≤ 60 := by rw [← hPV]; exact plS_len r now dp js
 clear oa oj hEB hPV hfw hb1
 go_upto_region 4 with fail
 obtain ⟨x3, hx3⟩ : ∃ y, y = w1.heap.size := ⟨_, rfl⟩
 rw [← hx3] at RB0 ⊢
 clear hx3
 generalize w1.alloc (.cells #[.slice A n c, .slice B m d, .slice U nu cu, .slice R np cp, .slice L nl cl] 33) = w1' at *
 have k0 := zAb RB0.out 0 rfl
 have k1 := zAb RB0.out 1 rfl
 have k2 := zAb RB0.out 2 rfl
 have k3 := zAb RB0.out 3 rfl
 have k4 := zAb RB0.out 4 rfl
 have kf := zAh RB0.out
 have kl := zAg RB0.out
 simp only [zgc, zga, zgb] at k0 k1 k2 k3 k4
 go_wp2_with fail
 refine (PlanH_any ⟨A, B, U, R, L, n, m, nu, np, nl, c, d, cu, cp, cl⟩ r xs _ now D js.length e9 _ js dp _ O10.out (by omega) OJ0.out).mono ?_
 rintro e w2 ⟨X, c2, Y, d2, ss, tt, rfl, hh2, hb2⟩
 rw [HPV.out] at hh2
 rw [HPV.out, HEB.out]
 have HH2 := Lib.hid hh2
 have RB2 := Lib.hid (zAf RB0.out hb2)
 have O12 := Lib.hid (O10.out.bel hb2)
 have OJ2 := Lib.hid (zAe OJ0.out hb2)
 have BE2 := Lib.hid (zAc BE0.out hb2)
 clear hh2 hb2 k0 k1 k2 k3 k4 kf kl
 have k0 := zAb RB2.out 0 rfl
 have k1 := zAb RB2.out 1 rfl
 have k2 := zAb RB2.out 2 rfl
 have k3 := zAb RB2.out 3 rfl
 have k4 := zAb RB2.out 4 rfl
 have kf := zAh RB2.out
 have kl := zAg RB2.out
 simp only [zgc, zga, zgb] at k0 k1 k2 k3 k4
 go_wp2_with fail
 refine (sPlanH_any ⟨A, B, U, R, L, n, m, nu, np, nl, c, d, cu, cp, cl⟩ r xs _ now D js.length e9 _ js dp _ O12.out (by omega) OJ2.out).mono ?_
 rintro e w3 ⟨X3, c3, Y3, d3, ss3, tt3, rfl, hh3, hb3⟩
 rw [HPV.out, HEB.out]
 have HH3 := Lib.hid (HH2.out.bel hb3)
 have RB3 := Lib.hid (zAf RB2.out hb3)
 have O13 := Lib.hid (O12.out.bel hb3)
 have OJ3 := Lib.hid (zAe OJ2.out hb3)
 have BE3 := Lib.hid (zAc BE2.out hb3)
 clear hh3 hb3 HH2 RB0 RB2 O10 O12 OJ0 OJ2 BE0 BE2 k0 k1 k2 k3 k4 kf kl
 cases EB with
 | false =>
  have hP := HPV.out
  rw [plS_no HEB.out] at hP
  subst hP
  go_wp2
  go_ret
  exact ⟨rfl, BE3.out⟩
 | true =>
  have hP := HPV.out
  rw [plS_yes HEB.out] at hP
  obtain ⟨pk1, pk2, pk3, pk4⟩ := plan_kept HEB.out FW.out (by omega)
  rw [hP] at pk1 pk2 pk3 pk4
  have PK1 := Lib.hid pk1
  have PK2 := Lib.hid pk2
  have PK3 := Lib.hid pk3
  have hpa := hp60.1
  have hpb := hp60.2
  clear hP pk1 pk2 pk3
  go_wp2
  go_loopw [60] (fun i wr => ∃ q : Nat, q ≤ PV.a.length ∧ i = .int .i64 q ∧ Below w3.heap.size w3 wr) (fun i _ => PV.a.length - (intOf i).toNat)
  case atStart => exact ⟨0, Nat.zero_le _, rfl, Below.refl _ _⟩
  case round =>
  obtain ⟨q, hq, rfl, hbw⟩ := hrel
  obtain ⟨wo, rfl⟩ : ∃ x, x = wr := ⟨wr, rfl⟩
  have HBW := Lib.hid hbw
  clear hbw
  by_cases hlt : q < PV.a.length
  ·have hlt' : (q : Int) < PV.a.length := by omega
   obtain ⟨g, p, X9, d9, rfl, hp, hx, l9, o9, hg, e0, e1, e2⟩ := (HH3.out.bel HBW.out).st.row hlt
   have hat : p.at_ = now := PK2.out p (List.mem_of_getElem? hp)
   rw [hat] at e1
   clear hp hx l9 o9 hat
   go_wp2
   exact ⟨⟨q + 1, by omega, by go_num, zAc HBW.out (zAa _ _)⟩, by simp [intOf]; omega⟩
  ·obtain rfl : q = PV.a.length := by omega
   have hlt' : ¬ ((PV.a.length : Nat) : Int) < PV.a.length := by omega
   have HH4 := Lib.hid (HH3.out.bel HBW.out)
   have RB4 := Lib.hid (zAf RB3.out HBW.out)
   have O14 := Lib.hid (O13.out.bel HBW.out)
   have OJ4 := Lib.hid (zAe OJ3.out HBW.out)
   have BE4 := Lib.hid (zAc BE3.out HBW.out)
   clear HH3 RB3 O13 OJ3 BE3 HBW
   go_wp2
   go_loopw [71] (fun i wr => ∃ q : Nat, q ≤ PV.b.length ∧ i = .int .i64 q ∧ Below wo.heap.size wo wr) (fun i _ => PV.b.length - (intOf i).toNat)
   case atStart => exact ⟨0, Nat.zero_le _, rfl, Below.refl _ _⟩
   case round =>
   obtain ⟨q, hq, rfl, hbw⟩ := hrel
   obtain ⟨wp, rfl⟩ : ∃ x, x = wr := ⟨wr, rfl⟩
   have HBW := Lib.hid hbw
   clear hbw
   by_cases hlt : q < PV.b.length
   ·have hlt2 : (q : Int) < PV.b.length := by omega
    obtain ⟨g, p, X9, d9, rfl, hp, hx, l9, o9, hg, e0, e1, e2⟩ := (HH4.out.bel HBW.out).la.row hlt
    have hat := PK3.out p (List.mem_of_getElem? hp)
    have hat2 : ¬ p.at_ ≤ now := by omega
    clear hp hx l9 o9 hat
    go_wp2
    exact ⟨⟨q + 1, by omega, by go_num, zAc HBW.out (zAa _ _)⟩, by simp [intOf]; omega⟩
   ·obtain rfl : q = PV.b.length := by omega
    have hlt2 : ¬ ((PV.b.length : Nat) : Int) < PV.b.length := by omega
    have HH5 := Lib.hid (HH4.out.bel HBW.out)
    have RB5 := Lib.hid (zAf RB4.out HBW.out)
    have O15 := Lib.hid (O14.out.bel HBW.out)
    have OJ5 := Lib.hid (zAe OJ4.out HBW.out)
    have BE5 := Lib.hid (zAc BE4.out HBW.out)
    have hx3 := zAg RB5.out
    clear HH4 RB4 O14 OJ4 BE4 HBW
    have k0 := zAb RB5.out 0 rfl
    have k1 := zAb RB5.out 1 rfl
    have k2 := zAb RB5.out 2 rfl
    have k3 := zAb RB5.out 3 rfl
    have k4 := zAb RB5.out 4 rfl
    have kf := zAh RB5.out
    have kl := zAg RB5.out
    simp only [zgc, zga, zgb] at k0 k1 k2 k3 k4
    go_upto_region 22 with fail
    go_region_held3 (fun w' => w'.cell? ⟨x3, 0, none⟩ = some (.slice A n c) ∧ w'.cell? ⟨x3, 1, none⟩ = some (.slice B m d) ∧ w'.cell? ⟨x3, 2, none⟩ = some (.slice U nu cu) ∧ w'.cell? ⟨x3, 3, none⟩ = some (.slice R np cp) ∧ w'.cell? ⟨x3, 4, none⟩ = some (.slice L nl cl)) (simp [go_sem, *, World.cell?_alloc_some, World.cell?_setCell_far, Nat.lt_add_right, Nat.ne_of_gt]) (first | (go_at_call 14; refine (Kept_any ⟨A, B, U, R, L, n, m, nu, np, nl, c, d, cu, cp, cl⟩ r xs _ D js.length e9 js X7 (PV.a.length + PV.b.length) c7 (ss ++ tt) (PV.a ++ PV.b) _ (O15.out.bel B7.out) (by omega) (own_cap9 OJ5.out).1 (own_cap9 OJ5.out).2 (zAn (zAe OJ5.out B7.out)) (zAz (zAe OJ5.out B7.out)) (by omega) (own_cap9 O7.out).1 (own_cap9 O7.out).2 (rdH_both O7.out (HH5.out.bel B7.out).st (HH5.out.bel B7.out).la)).mono ?_; rintro e w8 ⟨rfl, hb8⟩; rw [PK1.out]; have BF := Lib.hid (zAc BE5.out (show Below wp.heap.size wp w8 from zAc B7.out hb8)); have hk8 := fun o => hb8.cell (p := ⟨x3, o, none⟩) zOm; have hf8 := fun o => hb8.frozen (p := ⟨x3, o, none⟩) zOm; clear hb8) | (refine wanted_append_row (by rfl) _ _ 37 rfl wp.heap.size 41 iH (.agg #[.int .i64 0, .int .i64 0, .slice none 0 0]) 3 40 Tryz.underlying37 hiH hzaH hzbH hzcH rfl (by decide) (.slice (some ⟨wp.heap.size, 0, none⟩) 0 0) 0 [] rfl (own_lit (cs := []) (n := 0) (zAj _ rfl) rfl (by decide) (Nat.le_refl _)) X PV.a.length c2 (hcells PV.a ss) rfl (own_addrH HH5.out.st.own) (zAn (zAe HH5.out.st.own (zAc ((Below.refl wp.heap.size wp).drew) (zAa _ _)))) HH5.out.st.one (by unfold maxLen; omega) (by omega) (by simp) ?_; intro v6 w6 own6 hg6; rw [List.nil_append, Nat.zero_add] at own6; have B6 := Lib.hid (show Below wp.heap.size wp w6 from Below.grown (zAc ((Below.refl wp.heap.size wp).drew) (zAa _ _)) hg6 (by simp) (fun k hk => by simp [Value.ownBlock] at hk; omega)); obtain ⟨X6, c6, rfl, _⟩ := zAq own6; have O6 := Lib.hid own6; have hk6 := fun o => B6.out.cell (p := ⟨x3, o, none⟩) hx3; have hf6 := fun o => B6.out.frozen (p := ⟨x3, o, none⟩) hx3; have hs6 := B6.out.size; clear own6 hg6) | (refine wanted_append_row (by rfl) _ _ 37 rfl wp.heap.size 41 iH (.agg #[.int .i64 0, .int .i64 0, .slice none 0 0]) 3 40 Tryz.underlying37 hiH hzaH hzbH hzcH rfl (by decide) (.slice X6 PV.a.length c6) PV.a.length (hcells PV.a ss) rfl O6.out Y PV.b.length d2 (hcells PV.b tt) rfl (own_addrH HH5.out.la.own) (zAn (HH5.out.la.bel B6.out).own) HH5.out.la.one (by unfold maxLen; omega) (by omega) (by have := B6.out.size; omega) ?_; intro v7 w7 own7 hg7; have B7 := Lib.hid (show Below wp.heap.size wp w7 from Below.grown B6.out hg7 B6.out.size (zAu O6.out)); obtain ⟨X7, c7, rfl, _⟩ := zAq own7; have O7 := Lib.hid own7; have hk7 := fun o => B7.out.cell (p := ⟨x3, o, none⟩) hx3; have hf7 := fun o => B7.out.frozen (p := ⟨x3, o, none⟩) hx3; have hs7 := B7.out.size; clear own7 hg7))
    all_goals go_wp2
    all_goals go_ret
    all_goals exact ⟨rfl, BF.out⟩
theorem law_fplan (A : Option Addr) (n c : Nat) (w : World) (hn : n ≤ maxLen) (h : ByIn w A n) :
  Calls Tryz.prog 3 #[.slice A n c] w fun e w' => e = .returned (.bool true) ∧ Below w.heap.size w w' := by
 by_cases hs : n ≤ 1048576
 ·exact law_fplan_go A n c w hs h
 ·have hs' : (1048576 : Int) < n := by omega
  unfold maxLen at hn
  go_enter Tryz.func3, Tryz.ntmps3
  go_wp2
  go_ret
  exact ⟨rfl, Below.refl _ _⟩
end Go.Proofs.YtnphjhbfpoekpaaGreat
