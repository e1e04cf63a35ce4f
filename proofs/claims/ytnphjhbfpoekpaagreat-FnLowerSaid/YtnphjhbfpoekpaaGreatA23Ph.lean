import Derived.Test.YtnphjhbfpoekpaaGreatA11Ph
import Derived.Test.YtnphjhbfpoekpaaGreatA3Ph
import Derived.Test.YtnphjhbfpoekpaaGreatA7Ph
import Derived.Test.YtnphjhbfpoekpaaGreatA8Ph
import Derived.Deep.QuietTactic
import Derived.BigQuiet
import Derived.Deep.AppendLies
import Derived.Test.YtnphjhbfpoekpaaGreatGzPh
import Derived.Laws.AppendOwnNone
import Derived.Sort.OwnSorted
namespace Go.Proofs.YtnphjhbfpoekpaaGreat
set_option linter.unusedSimpArgs false
set_option linter.unusedVariables false
set_option linter.unnecessarySimpa false
open Go.RowKit
set_option maxHeartbeats 1000000 in
theorem sbef_any (a b : J) (w : World) :
  Calls Tryz.prog 147 #[.agg #[.int .i64 a.id, .int .i64 a.pr, .int .i64 a.nn, .int .i64 a.na, .int .i64 a.nb, .int .i64 a.nc, .int .i64 a.la, .int .i64 a.lb, .int .i64 a.lc, .int .i64 a.wl, .int .i64 a.lv], .agg #[.int .i64 b.id, .int .i64 b.pr, .int .i64 b.nn, .int .i64 b.na, .int .i64 b.nb, .int .i64 b.nc, .int .i64 b.la, .int .i64 b.lb, .int .i64 b.lc, .int .i64 b.wl, .int .i64 b.lv]] w fun e w' => e = .returned (.bool (decide (befJ a b))) ∧ Below w.heap.size w w' := by
 by_cases h1 : b.pr < a.pr
 ·have hb : befJ a b := Or.inl h1
  rw [decide_eq_true hb]
  clear hb
  go_enter Tryz.func147, Tryz.ntmps147
  go_wp2
  go_ret
  exact ⟨rfl, zBe⟩
 ·by_cases h2 : a.pr = b.pr
  ·by_cases h3 : a.id < b.id
   ·have hb : befJ a b := Or.inr ⟨h2, h3⟩
    rw [decide_eq_true hb]
    clear hb
    go_enter Tryz.func147, Tryz.ntmps147
    go_wp2
    go_ret
    exact ⟨rfl, zBe⟩
   ·have hb : ¬ befJ a b := by rintro (h | h) <;> omega
    rw [decide_eq_false hb]
    clear hb
    go_enter Tryz.func147, Tryz.ntmps147
    go_wp2
    go_ret
    exact ⟨rfl, zBe⟩
  ·have hb : ¬ befJ a b := by rintro (h | h) <;> omega
   rw [decide_eq_false hb]
   clear hb
   go_enter Tryz.func147, Tryz.ntmps147
   go_wp2
   go_ret
   exact ⟨rfl, zBe⟩
theorem insJF_t {j x : J} {s : List J × Bool} (h : s.2 = true) : insJF j s x = (s.1 ++ [x], true) := by unfold insJF; rw [if_neg (by rw [h]; simp)]; simp [h]
theorem insJF_y {j x : J} {s : List J × Bool} (h : s.2 = false) (hb : befJ j x) : insJF j s x = (s.1 ++ [j] ++ [x], true) := by unfold insJF; rw [if_pos ⟨h, hb⟩]
theorem insJF_n {j x : J} {s : List J × Bool} (h : s.2 = false) (hb : ¬ befJ j x) : insJF j s x = (s.1 ++ [x], false) := by unfold insJF; rw [if_neg (fun e => hb e.2)]; simp [h]
theorem insJF_len (j : J) : ∀ (xs : List J) (s : List J × Bool), (xs.foldl (insJF j) s).1.length ≤ s.1.length + 2 * xs.length
 | [], s => by simp
 | x :: r, s => by
  rw [List.foldl_cons]
  have h1 := insJF_len j r (insJF j s x)
  have h2 : (insJF j s x).1.length ≤ s.1.length + 2 := by unfold insJF; split <;> simp <;> omega
  simp only [List.length_cons]; omega
theorem jflat_snoc (js : List J) (j : J) : jflat (js ++ [j]) = jflat js ++ [.int .i64 j.id, .int .i64 j.pr, .int .i64 j.nn, .int .i64 j.na, .int .i64 j.nb, .int .i64 j.nc, .int .i64 j.la, .int .i64 j.lb, .int .i64 j.lc, .int .i64 j.wl, .int .i64 j.lv] := by simp [jflat, J.cells]
theorem orderV_full {js T : List J} {k : Nat} (h : T = orderV (js.take k)) (hl : js.length = k) : T = orderV js := by rw [h, List.take_of_length_le (by omega)]
structure OB (w0 wi : World) (lo2 : Nat) (Y : Value) (l : Nat) (L : List J) : Prop where
 own : wi.ownsRow lo2 95 11 Y l (jflat L)
 bel : Below lo2 w0 wi
 sz : lo2 ≤ wi.heap.size
 len : L.length = l
theorem OB.step {w0 wi w' : World} {lo2 : Nat} {Y : Value} {l : Nat} {L : List J} (h : OB w0 wi lo2 Y l L) (hb : Below wi.heap.size wi w') : OB w0 w' lo2 Y l L :=
 ⟨zAe h.own hb, h.bel.trans (hb.mono h.sz), Nat.le_trans h.sz hb.size, h.len⟩
theorem OB.put {w0 wi w' : World} {lo2 : Nat} {Y Y' : Value} {l : Nat} {L : List J} {j : J} (h : OB w0 wi lo2 Y l L) (ho : w'.ownsRow lo2 95 11 Y' (l + 1) (jflat L ++ [.int .i64 j.id, .int .i64 j.pr, .int .i64 j.nn, .int .i64 j.na, .int .i64 j.nb, .int .i64 j.nc, .int .i64 j.la, .int .i64 j.lb, .int .i64 j.lc, .int .i64 j.wl, .int .i64 j.lv])) (hg : wi.grownBy w' Y.ownBlock) : OB w0 w' lo2 Y' (l + 1) (L ++ [j]) := by
 refine ⟨?_, Below.grown h.bel hg h.sz (fun k hk => zAu h.own k hk), Nat.le_trans h.sz hg.size, by rw [List.length_append, h.len]; rfl⟩
 rw [jflat_snoc]; exact ho
def OrderV (js : List J) : List J := if queueB js then orderV js else []
theorem own_blkn {w : World} {lo : Nat} {e : TypeId} {size : Nat} {v : Value} {n : Nat} {xs : List Value} (h : w.ownsRow lo e size v n xs) : ∀ k, v.ownBlock = some k → k < w.heap.size := by
 intro k hk
 rcases h.2 with ⟨h0, _⟩ | ⟨g, cap, cur, hv, hg, hh, _⟩
 ·subst h0; cases hk
 ·subst hv; cases hk; exact zAg hh
set_option maxHeartbeats 8000000 in
set_option maxRecDepth 20000 in
theorem sorder_any (A : Option Addr) (n c : Nat) (js : List J) (w : World) (hn : n ≤ 1048576) (hr : Rd w A n 11 (jflat js)) (hl : ∀ g, A = some ⟨g, 0, none⟩ → g < w.heap.size) :
  Calls Tryz.prog 61 #[.slice A n c] w fun e w' => ∃ v, e = .returned v ∧ w'.ownsRow w.heap.size 95 11 v (OrderV js).length (jflat (OrderV js)) ∧ Below w.heap.size w w' := by
 have hjl := hr.jlen
 have HN := Lib.hid hn
 have HR := Lib.hid hr
 have HL := Lib.hid hl
 have HJ := Lib.hid hjl
 clear hn hr hl hjl
 cases hq : queueB js
 ·have HO : Hid (OrderV js = []) := Lib.hid (by unfold OrderV; rw [hq]; rfl)
  have HQ := Lib.hid hq
  clear hq
  go_enter Tryz.func61, Tryz.ntmps61
  go_wp2_with fail
  refine (squeueOk_any A n c js _ HN.out (HR.out.below HL.out zBe) (zAi HL.out zBe)).mono ?_
  rintro e w1 ⟨rfl, hb1⟩
  have hs1 := hb1.size
  (try simp at hs1)
  rw [HQ.out]
  go_wp2
  go_ret
  exact ⟨_, rfl, by rw [HO.out]; exact own_lit (cs := []) (zAf (zAj _ (by simp)) hb1) rfl (by decide) (by omega), zBe⟩
 ·have HO : Hid (OrderV js = orderV js) := Lib.hid (by unfold OrderV; rw [hq]; rfl)
  have hn60 : n ≤ 60 := by have := (queue_parts hq).1; have := HJ.out; omega
  have HN60 := Lib.hid hn60
  have HQ := Lib.hid hq
  clear hq
  go_enter Tryz.func61, Tryz.ntmps61
  go_wp2_with fail
  refine (squeueOk_any A n c js _ HN.out (HR.out.below HL.out zBe) (zAi HL.out zBe)).mono ?_
  rintro e w1 ⟨rfl, hb1⟩
  have hs1 := hb1.size
  (try simp at hs1)
  rw [HQ.out]
  go_wp2
  go_loopw [3, 17] (fun v i wr => ∃ (k : Nat) (X : Option Addr) (cx : Nat) (T : List J), k ≤ n ∧ i = .int .i64 k ∧ v = .slice X k cx ∧ T.length = k ∧ Hid (T = orderV (js.take k)) ∧ wr.ownsRow w.heap.size 95 11 (.slice X k cx) k (jflat T) ∧ Below w.heap.size w wr) (fun _ i _ => n - (intOf i).toNat)
  case atStart =>
   exact ⟨0, _, 0, [], Nat.zero_le _, rfl, rfl, rfl, Lib.hid rfl, own_lit (cs := []) (zAf (zAj _ (by simp)) hb1) rfl (by show 0 ≤ maxLen; decide) (by omega), zBe⟩
  case round =>
   obtain ⟨k, X, cx, T, hk, rfl, rfl, hTl, HT, hown, hbw⟩ := hrel
   obtain ⟨wo, rfl⟩ : ∃ x, x = wr := ⟨wr, rfl⟩
   by_cases hlt : k < n
   ·have hlt' : (k : Int) < n := by omega
    have HBW := Lib.hid hbw
    obtain ⟨g, j, rfl, hj, d0, d1, d2, d3, d4, d5, d6, d7, d8, d9, d10⟩ := (HR.out.below HL.out HBW.out).j hlt
    have HJK := Lib.hid hj
    have S0 := Lib.hid hown
    have hsw := hbw.size
    clear hj hown hbw
    go_upto_region 10 with fail
    obtain ⟨LO, hLO⟩ : ∃ b, b = wo.heap.size + 1 := ⟨_, rfl⟩
    have own0 : ((wo.alloc (.cells #[.int .i64 j.id, .int .i64 j.pr, .int .i64 j.nn, .int .i64 j.na, .int .i64 j.nb, .int .i64 j.nc, .int .i64 j.la, .int .i64 j.lb, .int .i64 j.lc, .int .i64 j.wl, .int .i64 j.lv] 95)).alloc (.cells #[] 95)).ownsRow (wo.heap.size + 1) 95 11 (.slice (some ⟨wo.heap.size + 1, 0, none⟩) 0 0) 0 (jflat []) := own_lit (cs := []) (zAj _ (by simp)) rfl (by decide) (by omega)
    have H00 : OB ((wo.alloc (.cells #[.int .i64 j.id, .int .i64 j.pr, .int .i64 j.nn, .int .i64 j.na, .int .i64 j.nb, .int .i64 j.nc, .int .i64 j.la, .int .i64 j.lb, .int .i64 j.lc, .int .i64 j.wl, .int .i64 j.lv] 95)).alloc (.cells #[] 95)) ((wo.alloc (.cells #[.int .i64 j.id, .int .i64 j.pr, .int .i64 j.nn, .int .i64 j.na, .int .i64 j.nb, .int .i64 j.nc, .int .i64 j.la, .int .i64 j.lb, .int .i64 j.lc, .int .i64 j.wl, .int .i64 j.lv] 95)).alloc (.cells #[] 95)) (wo.heap.size + 1) (.slice (some ⟨wo.heap.size + 1, 0, none⟩) 0 0) 0 [] := ⟨own0, Below.refl _ _, by simp, rfl⟩
    have hcell : ∀ g o, g < wo.heap.size → ((wo.alloc (.cells #[.int .i64 j.id, .int .i64 j.pr, .int .i64 j.nn, .int .i64 j.na, .int .i64 j.nb, .int .i64 j.nc, .int .i64 j.la, .int .i64 j.lb, .int .i64 j.lc, .int .i64 j.wl, .int .i64 j.lv] 95)).alloc (.cells #[] 95)).cell? ⟨g, o, none⟩ = wo.cell? ⟨g, o, none⟩ := fun g o hg => (zAc (zAa _ _) (zAa _ _) : Below wo.heap.size wo ((wo.alloc (.cells #[.int .i64 j.id, .int .i64 j.pr, .int .i64 j.nn, .int .i64 j.na, .int .i64 j.nb, .int .i64 j.nc, .int .i64 j.la, .int .i64 j.lb, .int .i64 j.lc, .int .i64 j.wl, .int .i64 j.lv] 95)).alloc (.cells #[] 95))).cell (p := ⟨g, o, none⟩) hg
    have hbj : ((wo.alloc (.cells #[.int .i64 j.id, .int .i64 j.pr, .int .i64 j.nn, .int .i64 j.na, .int .i64 j.nb, .int .i64 j.nc, .int .i64 j.la, .int .i64 j.lb, .int .i64 j.lc, .int .i64 j.wl, .int .i64 j.lv] 95)).alloc (.cells #[] 95)).heap[wo.heap.size]? = some (.cells #[.int .i64 j.id, .int .i64 j.pr, .int .i64 j.nn, .int .i64 j.na, .int .i64 j.nb, .int .i64 j.nc, .int .i64 j.la, .int .i64 j.lb, .int .i64 j.lc, .int .i64 j.wl, .int .i64 j.lv] 95 (0, 0)) := zAs (zAj _ rfl) _
    have hB0 : Below w.heap.size w ((wo.alloc (.cells #[.int .i64 j.id, .int .i64 j.pr, .int .i64 j.nn, .int .i64 j.na, .int .i64 j.nb, .int .i64 j.nc, .int .i64 j.la, .int .i64 j.lb, .int .i64 j.lc, .int .i64 j.wl, .int .i64 j.lv] 95)).alloc (.cells #[] 95)) := zAc (zAc HBW.out (zAa _ _)) (zAa _ _)
    have T0 := Lib.hid H00
    have HC := Lib.hid hcell
    have HB0 := Lib.hid hB0
    have HBJ := Lib.hid hbj
    clear H00 own0 hcell hbj hB0 d0 d1 d2 d3 d4 d5 d6 d7 d8 d9 d10
    generalize ((wo.alloc (.cells #[.int .i64 j.id, .int .i64 j.pr, .int .i64 j.nn, .int .i64 j.na, .int .i64 j.nb, .int .i64 j.nc, .int .i64 j.la, .int .i64 j.lb, .int .i64 j.lc, .int .i64 j.wl, .int .i64 j.lv] 95)).alloc (.cells #[] 95)) = w0 at *
    rw [← hLO] at T0 ⊢
    have hlo1 : wo.heap.size < LO := by omega
    have hlo2 : w.heap.size ≤ LO := by omega
    clear hLO
    go_wp2
    go_loopw [6, 7, 24] (fun v6 v7 i wi => ∃ (m : Nat) (Y : Option Addr) (cy l : Nat) (L : List J) (dn : Bool), m ≤ k ∧ i = .int .i64 m ∧ v6 = .slice Y l cy ∧ v7 = .bool dn ∧ Hid ((T.take m).foldl (insJF j) ([], false) = (L, dn)) ∧ OB w0 wi LO (.slice Y l cy) l L) (fun _ _ i _ => k - (intOf i).toNat)
    case atStart => exact ⟨0, _, 0, 0, [], false, Nat.zero_le _, rfl, rfl, rfl, Lib.hid rfl, T0.out⟩
    case round =>
     clear T0
     obtain ⟨m, Y, cy, l, L, dn, hm, rfl, rfl, rfl, HM, T'⟩ := hrel
     obtain ⟨wi, rfl⟩ : ∃ x, x = wr := ⟨wr, rfl⟩
     have T1 := Lib.hid T'
     clear T'
     have hLL : l ≤ 2 * m := by
      have h3 := T1.out.len
      have h1 := insJF_len j (T.take m) ([], false)
      rw [HM.out] at h1
      have h2 : (T.take m).length ≤ m := by rw [List.length_take]; omega
      simp only [List.length_nil] at h1
      omega
     have HLL := Lib.hid hLL
     clear hLL
     have hbj := ((T1.out.bel).block wo.heap.size hlo1).trans HBJ.out
     by_cases hlt2 : m < k
     ·have hlt2' : (m : Int) < k := by omega
      obtain ⟨g', x, rfl, hx, d0, d1, d2, d3, d4, d5, d6, d7, d8, d9, d10⟩ := (zAn S0.out).j hlt2
      have hg' := zAz S0.out g' rfl
      have HX := Lib.hid hx
      clear hx
      have D0 := (((T1.out.bel).cell (p := ⟨g', m * 11, none⟩) (show g' < LO by omega)).trans (HC.out g' (m * 11) hg')).trans d0
      have D1 := (((T1.out.bel).cell (p := ⟨g', m * 11 + 1, none⟩) (show g' < LO by omega)).trans (HC.out g' (m * 11 + 1) hg')).trans d1
      have D2 := (((T1.out.bel).cell (p := ⟨g', m * 11 + 2, none⟩) (show g' < LO by omega)).trans (HC.out g' (m * 11 + 2) hg')).trans d2
      have D3 := (((T1.out.bel).cell (p := ⟨g', m * 11 + 3, none⟩) (show g' < LO by omega)).trans (HC.out g' (m * 11 + 3) hg')).trans d3
      have D4 := (((T1.out.bel).cell (p := ⟨g', m * 11 + 4, none⟩) (show g' < LO by omega)).trans (HC.out g' (m * 11 + 4) hg')).trans d4
      have D5 := (((T1.out.bel).cell (p := ⟨g', m * 11 + 5, none⟩) (show g' < LO by omega)).trans (HC.out g' (m * 11 + 5) hg')).trans d5
      have D6 := (((T1.out.bel).cell (p := ⟨g', m * 11 + 6, none⟩) (show g' < LO by omega)).trans (HC.out g' (m * 11 + 6) hg')).trans d6
      have D7 := (((T1.out.bel).cell (p := ⟨g', m * 11 + 7, none⟩) (show g' < LO by omega)).trans (HC.out g' (m * 11 + 7) hg')).trans d7
      have D8 := (((T1.out.bel).cell (p := ⟨g', m * 11 + 8, none⟩) (show g' < LO by omega)).trans (HC.out g' (m * 11 + 8) hg')).trans d8
      have D9 := (((T1.out.bel).cell (p := ⟨g', m * 11 + 9, none⟩) (show g' < LO by omega)).trans (HC.out g' (m * 11 + 9) hg')).trans d9
      have D10 := (((T1.out.bel).cell (p := ⟨g', m * 11 + 10, none⟩) (show g' < LO by omega)).trans (HC.out g' (m * 11 + 10) hg')).trans d10
      clear d0 d1 d2 d3 d4 d5 d6 d7 d8 d9 d10
      have hxb := zAj (w := wi) (.cells #[.int .i64 x.id, .int .i64 x.pr, .int .i64 x.nn, .int .i64 x.na, .int .i64 x.nb, .int .i64 x.nc, .int .i64 x.la, .int .i64 x.lb, .int .i64 x.lc, .int .i64 x.wl, .int .i64 x.lv] 95) rfl
      have T2 := Lib.hid (T1.out.step (zAa wi (.cells #[.int .i64 x.id, .int .i64 x.pr, .int .i64 x.nn, .int .i64 x.na, .int .i64 x.nb, .int .i64 x.nc, .int .i64 x.la, .int .i64 x.lb, .int .i64 x.lc, .int .i64 x.wl, .int .i64 x.lv] 95)))
      have HTK := Lib.hid (zAy HX.out)
      have HYB := Lib.hid (own_blkn T1.out.own)
      cases dn
      ·have hbj2 := zAs hbj (.cells #[.int .i64 x.id, .int .i64 x.pr, .int .i64 x.nn, .int .i64 x.na, .int .i64 x.nb, .int .i64 x.nc, .int .i64 x.la, .int .i64 x.lb, .int .i64 x.lc, .int .i64 x.wl, .int .i64 x.lv] 95)
       have p0 := zAb hbj2 0 rfl
       have p1 := zAb hbj2 1 rfl
       have p2 := zAb hbj2 2 rfl
       have p3 := zAb hbj2 3 rfl
       have p4 := zAb hbj2 4 rfl
       have p5 := zAb hbj2 5 rfl
       have p6 := zAb hbj2 6 rfl
       have p7 := zAb hbj2 7 rfl
       have p8 := zAb hbj2 8 rfl
       have p9 := zAb hbj2 9 rfl
       have p10 := zAb hbj2 10 rfl
       simp only [zgc, zga, zgb] at p0 p1 p2 p3 p4 p5 p6 p7 p8 p9 p10
       go_wp2_with fail
       refine (sbef_any j x _).mono ?_
       rintro e w5 ⟨rfl, hb5⟩
       have hs5 := hb5.size
       (try simp at hs5)
       have T5 := Lib.hid (T2.out.step hb5)
       have hx5 := zAf hxb hb5
       have hj5 := zAf hbj2 hb5
       clear hb5 hbj2 T1 T2 hbj hxb p0 p1 p2 p3 p4 p5 p6 p7 p8 p9 p10
       by_cases hbf : befJ j x
       ·rw [decide_eq_true hbf]
        have HE := Lib.hid (insJF_y (s := (L, false)) rfl hbf)
        clear hbf
        have p0 := zAb hj5 0 rfl
        have p1 := zAb hj5 1 rfl
        have p2 := zAb hj5 2 rfl
        have p3 := zAb hj5 3 rfl
        have p4 := zAb hj5 4 rfl
        have p5 := zAb hj5 5 rfl
        have p6 := zAb hj5 6 rfl
        have p7 := zAb hj5 7 rfl
        have p8 := zAb hj5 8 rfl
        have p9 := zAb hj5 9 rfl
        have p10 := zAb hj5 10 rfl
        simp only [zgc, zga, zgb] at p0 p1 p2 p3 p4 p5 p6 p7 p8 p9 p10
        have q0 := zAb hx5 0 rfl
        have q1 := zAb hx5 1 rfl
        have q2 := zAb hx5 2 rfl
        have q3 := zAb hx5 3 rfl
        have q4 := zAb hx5 4 rfl
        have q5 := zAb hx5 5 rfl
        have q6 := zAb hx5 6 rfl
        have q7 := zAb hx5 7 rfl
        have q8 := zAb hx5 8 rfl
        have q9 := zAb hx5 9 rfl
        have q10 := zAb hx5 10 rfl
        simp only [zgc, zga, zgb] at q0 q1 q2 q3 q4 q5 q6 q7 q8 q9 q10
        have hszT6 := T5.out.sz
        (try simp at hszT6)
        obtain ⟨i6, hi9, hz0, hz1, hz2⟩ := info_parts infoJ
        go_wp2_with (at_builtin; refine wpList_append_own _ rfl _ _ 34 rfl (LO) 95 i6 (.agg #[.int .i64 0, .int .i64 0, .int .i64 0, .int .i64 0, .int .i64 0, .int .i64 0, .int .i64 0, .int .i64 0, .int .i64 0, .int .i64 0, .int .i64 0]) 11 88 Tryz.underlying34 hi9 hz0 hz1 hz2 rfl (by decide) _ _ _ rfl (zAe T5.out.own (zAa w5 (.cells #[.int .i64 j.id, .int .i64 j.pr, .int .i64 j.nn, .int .i64 j.na, .int .i64 j.nb, .int .i64 j.nc, .int .i64 j.la, .int .i64 j.lb, .int .i64 j.lc, .int .i64 j.wl, .int .i64 j.lv] 95))) ⟨w5.heap.size, 0, none⟩ 1 1 [.int .i64 j.id, .int .i64 j.pr, .int .i64 j.nn, .int .i64 j.na, .int .i64 j.nb, .int .i64 j.nc, .int .i64 j.la, .int .i64 j.lb, .int .i64 j.lc, .int .i64 j.wl, .int .i64 j.lv] rfl rfl ?ca1 ?ca2 ?ca3 ?ca4 ?ca5 ?_)
        try case ca1 =>
         intro j y hy
         match j, hy with
         | 0, hy => (simp at hy; subst hy; simp [Addr.add])
         | 1, hy => (simp at hy; subst hy; simp [Addr.add])
         | 2, hy => (simp at hy; subst hy; simp [Addr.add])
         | 3, hy => (simp at hy; subst hy; simp [Addr.add])
         | 4, hy => (simp at hy; subst hy; simp [Addr.add])
         | 5, hy => (simp at hy; subst hy; simp [Addr.add])
         | 6, hy => (simp at hy; subst hy; simp [Addr.add])
         | 7, hy => (simp at hy; subst hy; simp [Addr.add])
         | 8, hy => (simp at hy; subst hy; simp [Addr.add])
         | 9, hy => (simp at hy; subst hy; simp [Addr.add])
         | 10, hy => (simp at hy; subst hy; simp [Addr.add])
        try case ca2 => simp [Value.oneCell']
        case ca3 => unfold maxLen; have := HLL.out; have := HN60.out; omega
        case ca4 => have := HLL.out; have := HN60.out; omega
        try case ca5 => first | omega | (simp <;> omega)
        intro v6 w6 own6 hg6 _
        obtain ⟨Y6, cy6, rfl, _⟩ := zAq own6
        have T6 := Lib.hid ((T5.out.step (zAa w5 (.cells #[.int .i64 j.id, .int .i64 j.pr, .int .i64 j.nn, .int .i64 j.na, .int .i64 j.nb, .int .i64 j.nc, .int .i64 j.la, .int .i64 j.lb, .int .i64 j.lc, .int .i64 j.wl, .int .i64 j.lv] 95))).put (j := j) own6 hg6)
        have hgs6 := hg6.size
        (try simp at hgs6)
        have hx6 := zAp (zAs hx5 (.cells #[.int .i64 j.id, .int .i64 j.pr, .int .i64 j.nn, .int .i64 j.na, .int .i64 j.nb, .int .i64 j.nc, .int .i64 j.la, .int .i64 j.lb, .int .i64 j.lc, .int .i64 j.wl, .int .i64 j.lv] 95)) hg6 (fun b hb => by have := HYB.out b hb; omega)
        clear p0 q0 p1 q1 p2 q2 p3 q3 p4 q4 p5 q5 p6 q6 p7 q7 p8 q8 p9 q9 p10 q10 hi9 hz0 hz1 hz2 own6 hg6 hj5 hx5 T5
        have q0 := zAb hx6 0 rfl
        have q1 := zAb hx6 1 rfl
        have q2 := zAb hx6 2 rfl
        have q3 := zAb hx6 3 rfl
        have q4 := zAb hx6 4 rfl
        have q5 := zAb hx6 5 rfl
        have q6 := zAb hx6 6 rfl
        have q7 := zAb hx6 7 rfl
        have q8 := zAb hx6 8 rfl
        have q9 := zAb hx6 9 rfl
        have q10 := zAb hx6 10 rfl
        simp only [zgc, zga, zgb] at q0 q1 q2 q3 q4 q5 q6 q7 q8 q9 q10
        have hszT7 := T6.out.sz
        (try simp at hszT7)
        obtain ⟨i7, hi9, hz0, hz1, hz2⟩ := info_parts infoJ
        go_wp2_with (at_builtin; refine wpList_append_own _ rfl _ _ 34 rfl (LO) 95 i7 (.agg #[.int .i64 0, .int .i64 0, .int .i64 0, .int .i64 0, .int .i64 0, .int .i64 0, .int .i64 0, .int .i64 0, .int .i64 0, .int .i64 0, .int .i64 0]) 11 88 Tryz.underlying34 hi9 hz0 hz1 hz2 rfl (by decide) _ _ _ rfl (zAe T6.out.own (zAa w6 (.cells #[.int .i64 x.id, .int .i64 x.pr, .int .i64 x.nn, .int .i64 x.na, .int .i64 x.nb, .int .i64 x.nc, .int .i64 x.la, .int .i64 x.lb, .int .i64 x.lc, .int .i64 x.wl, .int .i64 x.lv] 95))) ⟨w6.heap.size, 0, none⟩ 1 1 [.int .i64 x.id, .int .i64 x.pr, .int .i64 x.nn, .int .i64 x.na, .int .i64 x.nb, .int .i64 x.nc, .int .i64 x.la, .int .i64 x.lb, .int .i64 x.lc, .int .i64 x.wl, .int .i64 x.lv] rfl rfl ?cb1 ?cb2 ?cb3 ?cb4 ?cb5 ?_)
        try case cb1 =>
         intro j y hy
         match j, hy with
         | 0, hy => (simp at hy; subst hy; simp [Addr.add])
         | 1, hy => (simp at hy; subst hy; simp [Addr.add])
         | 2, hy => (simp at hy; subst hy; simp [Addr.add])
         | 3, hy => (simp at hy; subst hy; simp [Addr.add])
         | 4, hy => (simp at hy; subst hy; simp [Addr.add])
         | 5, hy => (simp at hy; subst hy; simp [Addr.add])
         | 6, hy => (simp at hy; subst hy; simp [Addr.add])
         | 7, hy => (simp at hy; subst hy; simp [Addr.add])
         | 8, hy => (simp at hy; subst hy; simp [Addr.add])
         | 9, hy => (simp at hy; subst hy; simp [Addr.add])
         | 10, hy => (simp at hy; subst hy; simp [Addr.add])
        try case cb2 => simp [Value.oneCell']
        case cb3 => unfold maxLen; have := HLL.out; have := HN60.out; omega
        case cb4 => have := HLL.out; have := HN60.out; omega
        try case cb5 => first | omega | (simp <;> omega)
        intro v7 w7 own7 hg7 _
        obtain ⟨Y7, cy7, rfl, _⟩ := zAq own7
        have T7 := Lib.hid ((T6.out.step (zAa w6 (.cells #[.int .i64 x.id, .int .i64 x.pr, .int .i64 x.nn, .int .i64 x.na, .int .i64 x.nb, .int .i64 x.nc, .int .i64 x.la, .int .i64 x.lb, .int .i64 x.lc, .int .i64 x.wl, .int .i64 x.lv] 95))).put (j := x) own7 hg7)
        have hgs7 := hg7.size
        (try simp at hgs7)
        clear own7 hg7 hx6 hi9 hz0 hz1 hz2 T6
        go_wp2
        go_roundw
        case rel => exact ⟨m + 1, Y7, cy7, l + 1 + 1, L ++ [j] ++ [x], true, by omega, by go_num, by first | rfl | simp, rfl, Lib.hid (by rw [HTK.out, List.foldl_append, HM.out]; exact HE.out), T7.out⟩
        case measure => simp [intOf]; omega
       ·rw [decide_eq_false hbf]
        have HE := Lib.hid (insJF_n (s := (L, false)) rfl hbf)
        clear hbf
        have q0 := zAb hx5 0 rfl
        have q1 := zAb hx5 1 rfl
        have q2 := zAb hx5 2 rfl
        have q3 := zAb hx5 3 rfl
        have q4 := zAb hx5 4 rfl
        have q5 := zAb hx5 5 rfl
        have q6 := zAb hx5 6 rfl
        have q7 := zAb hx5 7 rfl
        have q8 := zAb hx5 8 rfl
        have q9 := zAb hx5 9 rfl
        have q10 := zAb hx5 10 rfl
        simp only [zgc, zga, zgb] at q0 q1 q2 q3 q4 q5 q6 q7 q8 q9 q10
        have hszT6 := T5.out.sz
        (try simp at hszT6)
        obtain ⟨i6, hi9, hz0, hz1, hz2⟩ := info_parts infoJ
        go_wp2_with (at_builtin; refine wpList_append_own _ rfl _ _ 34 rfl (LO) 95 i6 (.agg #[.int .i64 0, .int .i64 0, .int .i64 0, .int .i64 0, .int .i64 0, .int .i64 0, .int .i64 0, .int .i64 0, .int .i64 0, .int .i64 0, .int .i64 0]) 11 88 Tryz.underlying34 hi9 hz0 hz1 hz2 rfl (by decide) _ _ _ rfl (zAe T5.out.own (zAa w5 (.cells #[.int .i64 x.id, .int .i64 x.pr, .int .i64 x.nn, .int .i64 x.na, .int .i64 x.nb, .int .i64 x.nc, .int .i64 x.la, .int .i64 x.lb, .int .i64 x.lc, .int .i64 x.wl, .int .i64 x.lv] 95))) ⟨w5.heap.size, 0, none⟩ 1 1 [.int .i64 x.id, .int .i64 x.pr, .int .i64 x.nn, .int .i64 x.na, .int .i64 x.nb, .int .i64 x.nc, .int .i64 x.la, .int .i64 x.lb, .int .i64 x.lc, .int .i64 x.wl, .int .i64 x.lv] rfl rfl ?cc1 ?cc2 ?cc3 ?cc4 ?cc5 ?_)
        try case cc1 =>
         intro j y hy
         match j, hy with
         | 0, hy => (simp at hy; subst hy; simp [Addr.add])
         | 1, hy => (simp at hy; subst hy; simp [Addr.add])
         | 2, hy => (simp at hy; subst hy; simp [Addr.add])
         | 3, hy => (simp at hy; subst hy; simp [Addr.add])
         | 4, hy => (simp at hy; subst hy; simp [Addr.add])
         | 5, hy => (simp at hy; subst hy; simp [Addr.add])
         | 6, hy => (simp at hy; subst hy; simp [Addr.add])
         | 7, hy => (simp at hy; subst hy; simp [Addr.add])
         | 8, hy => (simp at hy; subst hy; simp [Addr.add])
         | 9, hy => (simp at hy; subst hy; simp [Addr.add])
         | 10, hy => (simp at hy; subst hy; simp [Addr.add])
        try case cc2 => simp [Value.oneCell']
        case cc3 => unfold maxLen; have := HLL.out; have := HN60.out; omega
        case cc4 => have := HLL.out; have := HN60.out; omega
        try case cc5 => first | omega | (simp <;> omega)
        intro v6 w6 own6 hg6 _
        obtain ⟨Y6, cy6, rfl, _⟩ := zAq own6
        have T6 := Lib.hid ((T5.out.step (zAa w5 (.cells #[.int .i64 x.id, .int .i64 x.pr, .int .i64 x.nn, .int .i64 x.na, .int .i64 x.nb, .int .i64 x.nc, .int .i64 x.la, .int .i64 x.lb, .int .i64 x.lc, .int .i64 x.wl, .int .i64 x.lv] 95))).put (j := x) own6 hg6)
        have hgs6 := hg6.size
        (try simp at hgs6)
        clear q0 q1 q2 q3 q4 q5 q6 q7 q8 q9 q10 hi9 hz0 hz1 hz2 own6 hg6 hj5 hx5 T5
        go_wp2
        go_roundw
        case rel => exact ⟨m + 1, Y6, cy6, l + 1, L ++ [x], false, by omega, by go_num, by first | rfl | simp, rfl, Lib.hid (by rw [HTK.out, List.foldl_append, HM.out]; exact HE.out), T6.out⟩
        case measure => simp [intOf]; omega
      ·have HE := Lib.hid (insJF_t (j := j) (x := x) (s := (L, true)) rfl)
       have hbj2 := zAs hbj (.cells #[.int .i64 x.id, .int .i64 x.pr, .int .i64 x.nn, .int .i64 x.na, .int .i64 x.nb, .int .i64 x.nc, .int .i64 x.la, .int .i64 x.lb, .int .i64 x.lc, .int .i64 x.wl, .int .i64 x.lv] 95)
       have p0 := zAb hbj2 0 rfl
       have p1 := zAb hbj2 1 rfl
       have p2 := zAb hbj2 2 rfl
       have p3 := zAb hbj2 3 rfl
       have p4 := zAb hbj2 4 rfl
       have p5 := zAb hbj2 5 rfl
       have p6 := zAb hbj2 6 rfl
       have p7 := zAb hbj2 7 rfl
       have p8 := zAb hbj2 8 rfl
       have p9 := zAb hbj2 9 rfl
       have p10 := zAb hbj2 10 rfl
       simp only [zgc, zga, zgb] at p0 p1 p2 p3 p4 p5 p6 p7 p8 p9 p10
       have q0 := zAb hxb 0 rfl
       have q1 := zAb hxb 1 rfl
       have q2 := zAb hxb 2 rfl
       have q3 := zAb hxb 3 rfl
       have q4 := zAb hxb 4 rfl
       have q5 := zAb hxb 5 rfl
       have q6 := zAb hxb 6 rfl
       have q7 := zAb hxb 7 rfl
       have q8 := zAb hxb 8 rfl
       have q9 := zAb hxb 9 rfl
       have q10 := zAb hxb 10 rfl
       simp only [zgc, zga, zgb] at q0 q1 q2 q3 q4 q5 q6 q7 q8 q9 q10
       have hszT6 := T2.out.sz
       (try simp at hszT6)
       obtain ⟨i6, hi9, hz0, hz1, hz2⟩ := info_parts infoJ
       go_wp2_with (at_builtin; refine wpList_append_own _ rfl _ _ 34 rfl (LO) 95 i6 (.agg #[.int .i64 0, .int .i64 0, .int .i64 0, .int .i64 0, .int .i64 0, .int .i64 0, .int .i64 0, .int .i64 0, .int .i64 0, .int .i64 0, .int .i64 0]) 11 88 Tryz.underlying34 hi9 hz0 hz1 hz2 rfl (by decide) _ _ _ rfl (zAe T2.out.own (zAa (wi.alloc (.cells #[.int .i64 x.id, .int .i64 x.pr, .int .i64 x.nn, .int .i64 x.na, .int .i64 x.nb, .int .i64 x.nc, .int .i64 x.la, .int .i64 x.lb, .int .i64 x.lc, .int .i64 x.wl, .int .i64 x.lv] 95)) (.cells #[.int .i64 x.id, .int .i64 x.pr, .int .i64 x.nn, .int .i64 x.na, .int .i64 x.nb, .int .i64 x.nc, .int .i64 x.la, .int .i64 x.lb, .int .i64 x.lc, .int .i64 x.wl, .int .i64 x.lv] 95))) ⟨wi.heap.size + 1, 0, none⟩ 1 1 [.int .i64 x.id, .int .i64 x.pr, .int .i64 x.nn, .int .i64 x.na, .int .i64 x.nb, .int .i64 x.nc, .int .i64 x.la, .int .i64 x.lb, .int .i64 x.lc, .int .i64 x.wl, .int .i64 x.lv] rfl rfl ?cd1 ?cd2 ?cd3 ?cd4 ?cd5 ?_)
       try case cd1 =>
        intro j y hy
        match j, hy with
        | 0, hy => (simp at hy; subst hy; simp [Addr.add])
        | 1, hy => (simp at hy; subst hy; simp [Addr.add])
        | 2, hy => (simp at hy; subst hy; simp [Addr.add])
        | 3, hy => (simp at hy; subst hy; simp [Addr.add])
        | 4, hy => (simp at hy; subst hy; simp [Addr.add])
        | 5, hy => (simp at hy; subst hy; simp [Addr.add])
        | 6, hy => (simp at hy; subst hy; simp [Addr.add])
        | 7, hy => (simp at hy; subst hy; simp [Addr.add])
        | 8, hy => (simp at hy; subst hy; simp [Addr.add])
        | 9, hy => (simp at hy; subst hy; simp [Addr.add])
        | 10, hy => (simp at hy; subst hy; simp [Addr.add])
       try case cd2 => simp [Value.oneCell']
       case cd3 => unfold maxLen; have := HLL.out; have := HN60.out; omega
       case cd4 => have := HLL.out; have := HN60.out; omega
       try case cd5 => first | omega | (simp <;> omega)
       intro v6 w6 own6 hg6 _
       obtain ⟨Y6, cy6, rfl, _⟩ := zAq own6
       have T6 := Lib.hid ((T2.out.step (zAa (wi.alloc (.cells #[.int .i64 x.id, .int .i64 x.pr, .int .i64 x.nn, .int .i64 x.na, .int .i64 x.nb, .int .i64 x.nc, .int .i64 x.la, .int .i64 x.lb, .int .i64 x.lc, .int .i64 x.wl, .int .i64 x.lv] 95)) (.cells #[.int .i64 x.id, .int .i64 x.pr, .int .i64 x.nn, .int .i64 x.na, .int .i64 x.nb, .int .i64 x.nc, .int .i64 x.la, .int .i64 x.lb, .int .i64 x.lc, .int .i64 x.wl, .int .i64 x.lv] 95))).put (j := x) own6 hg6)
       have hgs6 := hg6.size
       (try simp at hgs6)
       clear q0 q1 q2 q3 q4 q5 q6 q7 q8 q9 q10 hi9 hz0 hz1 hz2 own6 hg6 hxb T1 T2
       go_wp2
       go_roundw
       case rel => exact ⟨m + 1, Y6, cy6, l + 1, L ++ [x], true, by omega, by go_num, by first | rfl | simp, rfl, Lib.hid (by rw [HTK.out, List.foldl_append, HM.out]; exact HE.out), T6.out⟩
       case measure => simp [intOf]; omega
     ·have hmk : m = k := by omega
      subst hmk
      have HTF : Hid (insJE j (L, dn) = insJ j T) := Lib.hid (by
       have h1 := insJF_all j T []
       have h2 := HM.out
       rw [List.take_of_length_le (by omega)] at h2
       rw [h2] at h1
       simpa using h1)
      have HON : Hid (insJ j T = orderV (js.take (m + 1))) := Lib.hid (by rw [zAy HJK.out, orderV_snoc, ← HT.out])
      have hIl : (insJ j T).length = m + 1 := by rw [insJ_len]; omega
      have HIL := Lib.hid hIl
      clear hIl
      cases dn
      ·have hLe : L ++ [j] = insJ j T := HTF.out
       have hLn : l = m := by have h1 := congrArg List.length hLe; rw [List.length_append] at h1; have := HIL.out; have h3 := T1.out.len; simp at h1; omega
       have HLe := Lib.hid hLe
       clear hLe
       subst hLn
       have p0 := zAb hbj 0 rfl
       have p1 := zAb hbj 1 rfl
       have p2 := zAb hbj 2 rfl
       have p3 := zAb hbj 3 rfl
       have p4 := zAb hbj 4 rfl
       have p5 := zAb hbj 5 rfl
       have p6 := zAb hbj 6 rfl
       have p7 := zAb hbj 7 rfl
       have p8 := zAb hbj 8 rfl
       have p9 := zAb hbj 9 rfl
       have p10 := zAb hbj 10 rfl
       simp only [zgc, zga, zgb] at p0 p1 p2 p3 p4 p5 p6 p7 p8 p9 p10
       have hszT6 := T1.out.sz
       (try simp at hszT6)
       obtain ⟨i6, hi9, hz0, hz1, hz2⟩ := info_parts infoJ
       go_wp2_with (at_builtin; refine wpList_append_own _ rfl _ _ 34 rfl (LO) 95 i6 (.agg #[.int .i64 0, .int .i64 0, .int .i64 0, .int .i64 0, .int .i64 0, .int .i64 0, .int .i64 0, .int .i64 0, .int .i64 0, .int .i64 0, .int .i64 0]) 11 88 Tryz.underlying34 hi9 hz0 hz1 hz2 rfl (by decide) _ _ _ rfl (zAe T1.out.own (zAa wi (.cells #[.int .i64 j.id, .int .i64 j.pr, .int .i64 j.nn, .int .i64 j.na, .int .i64 j.nb, .int .i64 j.nc, .int .i64 j.la, .int .i64 j.lb, .int .i64 j.lc, .int .i64 j.wl, .int .i64 j.lv] 95))) ⟨wi.heap.size, 0, none⟩ 1 1 [.int .i64 j.id, .int .i64 j.pr, .int .i64 j.nn, .int .i64 j.na, .int .i64 j.nb, .int .i64 j.nc, .int .i64 j.la, .int .i64 j.lb, .int .i64 j.lc, .int .i64 j.wl, .int .i64 j.lv] rfl rfl ?ce1 ?ce2 ?ce3 ?ce4 ?ce5 ?_)
       try case ce1 =>
        intro j y hy
        match j, hy with
        | 0, hy => (simp at hy; subst hy; simp [Addr.add])
        | 1, hy => (simp at hy; subst hy; simp [Addr.add])
        | 2, hy => (simp at hy; subst hy; simp [Addr.add])
        | 3, hy => (simp at hy; subst hy; simp [Addr.add])
        | 4, hy => (simp at hy; subst hy; simp [Addr.add])
        | 5, hy => (simp at hy; subst hy; simp [Addr.add])
        | 6, hy => (simp at hy; subst hy; simp [Addr.add])
        | 7, hy => (simp at hy; subst hy; simp [Addr.add])
        | 8, hy => (simp at hy; subst hy; simp [Addr.add])
        | 9, hy => (simp at hy; subst hy; simp [Addr.add])
        | 10, hy => (simp at hy; subst hy; simp [Addr.add])
       try case ce2 => simp [Value.oneCell']
       case ce3 => unfold maxLen; have := HLL.out; have := HN60.out; omega
       case ce4 => have := HLL.out; have := HN60.out; omega
       try case ce5 => first | omega | (simp <;> omega)
       intro v6 w6 own6 hg6 _
       obtain ⟨Y6, cy6, rfl, _⟩ := zAq own6
       have T6 := Lib.hid ((T1.out.step (zAa wi (.cells #[.int .i64 j.id, .int .i64 j.pr, .int .i64 j.nn, .int .i64 j.na, .int .i64 j.nb, .int .i64 j.nc, .int .i64 j.la, .int .i64 j.lb, .int .i64 j.lc, .int .i64 j.wl, .int .i64 j.lv] 95))).put (j := j) own6 hg6)
       have hgs6 := hg6.size
       (try simp at hgs6)
       have HF6 : Hid (w6.ownsRow LO 95 11 (.slice Y6 (l + 1) cy6) (l + 1) (jflat (insJ j T))) := Lib.hid (by
        have h9 := T6.out.own
        rw [HLe.out] at h9
        exact h9)
       clear p0 p1 p2 p3 p4 p5 p6 p7 p8 p9 p10 hi9 hz0 hz1 hz2 own6 hg6 hbj T1
       go_wp2
       go_roundw
       case rel => exact ⟨l + 1, Y6, cy6, insJ j T, by omega, by go_num, rfl, HIL.out, HON, zAm HF6.out hlo2, HB0.out.trans (T6.out.bel.mono hlo2)⟩
       case measure => simp [intOf]; omega
      ·have hLe : L = insJ j T := HTF.out
       have hLn : l = m + 1 := by have h3 := T1.out.len; rw [hLe] at h3; have := HIL.out; omega
       subst hLn
       have HF6 : Hid (wi.ownsRow LO 95 11 (.slice Y (m + 1) cy) (m + 1) (jflat (insJ j T))) := Lib.hid (by
        have h9 := T1.out.own
        rw [hLe] at h9; exact h9)
       have HB6 := Lib.hid T1.out.bel
       clear hLe T1
       go_wp2
       go_roundw
       case rel => exact ⟨m + 1, Y, cy, insJ j T, by omega, by go_num, rfl, HIL.out, HON, zAm HF6.out hlo2, HB0.out.trans (HB6.out.mono hlo2)⟩
       case measure => simp [intOf]; omega
   ·have hk9 : k = n := by omega
    subst hk9
    have S0 := Lib.hid hown
    have HBW := Lib.hid hbw
    clear hown hbw
    go_wp2
    go_ret
    exact ⟨_, rfl, by rw [HO.out, ← orderV_full HT.out HJ.out, hTl]; exact S0.out, HBW.out⟩
end Go.Proofs.YtnphjhbfpoekpaaGreat
namespace Go.Proofs.YtnphjhbfpoekpaaGreat
set_option linter.unusedSimpArgs false
set_option linter.unusedVariables false
set_option linter.unnecessarySimpa false
open Go.RowKit Go.Sort Go.Shelf
abbrev JA : Type := { j : J // j.okB = true }
def jobOne : J := ⟨1, 0, 1, 0, 0, 0, 0, 0, 0, 1, 0⟩
instance : Inhabited JA := ⟨⟨jobOne, by decide⟩⟩
def encJ (j : JA) : List Value := j.1.cells
def cfJ (a b : J) : Int := if a.pr = b.pr then a.id - b.id else b.pr - a.pr
theorem cf_iff (a b : J) : cfJ a b < 0 ↔ befJ a b := by
 unfold cfJ befJ
 split <;> constructor <;> intro h <;> omega
theorem ltJ (x y : JA) : ltOf (fun a b : JA => cfJ a.1 b.1) x y = decide (befJ x.1 y.1) := decide_eq_decide.2 (cf_iff x.1 y.1)
theorem swoJ : SWO (ltOf (fun a b : JA => cfJ a.1 b.1)) where
 irrefl x := by rw [ltJ, decide_eq_false (befJ_irrefl _)]
 trans x y z h1 h2 := by
  rw [ltJ] at *
  exact decide_eq_true (befJ_trans (of_decide_eq_true h1) (of_decide_eq_true h2))
 ntrans x y z h1 h2 := by
  rw [ltJ] at *
  have h1 := of_decide_eq_false h1
  have h2 := of_decide_eq_false h2
  apply decide_eq_false
  unfold befJ at *
  omega
theorem flatJ_eq (d : Array JA) : (flatK encJ 11 d).toList = jflat (d.toList.map (·.1)) := by
 apply List.ext_getElem?
 intro t
 have hlen : (jflat (d.toList.map (·.1))).length = d.size * 11 := by rw [jflat_len]; simp
 by_cases ht : t < d.size * 11
 ·have hk : t / 11 < d.size := by omega
  have hi : t % 11 < 11 := by omega
  have hj : (d.toList.map (·.1))[t / 11]? = some (d[t / 11]!).1 := by
   rw [List.getElem?_map, Array.getElem?_toList, Array.getElem?_eq_getElem hk, getElem!_pos d (t / 11) hk]; rfl
  have h2 := jflat_get (d.toList.map (·.1)) (t / 11) (t % 11) _ hj hi
  rw [show t / 11 * 11 + t % 11 = t by omega] at h2
  rw [h2, Array.getElem?_toList, Array.getElem?_eq_getElem (by simpa using ht)]
  have h3 := get_flatK encJ 11 d t ht
  rw [getElem!_pos _ t (by simpa using ht)] at h3
  rw [h3]
  have h4 : t % 11 < (encJ d[t / 11]!).length := by show t % 11 < 11; exact hi
  rw [getElem!_pos (encJ d[t / 11]!) (t % 11) h4]
  exact (zgh h4).symm
 ·rw [List.getElem?_eq_none (by simp; omega), List.getElem?_eq_none (by omega)]
theorem own_putK {w : World} {lo g cap n q size : Nat} {e : TypeId} {xs : List Value} {F : Array Value} {os : Array Obj} (h : w.ownsRow lo e size (.slice (some ⟨g, 0, none⟩) n cap) n xs) (hF : F.size = n * size) :
  (grow (putRow id (Sort.ahead w q) g 0 F) os).ownsRow lo e size (.slice (some ⟨g, 0, none⟩) n cap) n F.toList ∧ w.grownBy (grow (putRow id (Sort.ahead w q) g 0 F) os) (some g) := by
 refine ⟨?_, ⟨rfl, rfl, rfl, by simp, fun k hk hne => ?_⟩⟩
 ·rcases h.2 with ⟨h0, _⟩ | ⟨g', cap', cur, hv, hg, hh, hn, hm, hs, ht⟩
  ·cases h0
  ·cases hv
   have hle : n * size ≤ cap * size := Nat.mul_le_mul_right _ hn
   refine ⟨by simpa using hF, Or.inr ⟨g, cap, putCells id 0 F cur, rfl, hg, ?_, hn, hm, by simp [putCells, hs], ?_⟩⟩
   ·rw [heap_grow_old _ _ (by simpa using zAg hh)]
    simp [putRow, mapBlock, Sort.ahead, Array.getElem?_modify, hh, onCells]
   ·apply List.ext_getElem?
    intro j
    by_cases hj : j < n * size
    ·rw [List.getElem?_take_of_lt hj, Array.getElem?_toList]
     simp [putCells, hF, hj, show j < cur.size by omega]
    ·rw [List.getElem?_eq_none (by rw [List.length_take]; omega), List.getElem?_eq_none (by simp; omega)]
 ·rw [heap_grow_old _ _ (by simpa using hk)]
  have : g ≠ k := fun e => hne (by rw [e])
  simp [putRow, mapBlock, Sort.ahead, Array.getElem?_modify, this]
theorem holds_ownK {w : World} {lo g cap n size : Nat} {e : TypeId} {xs : List Value} (h : w.ownsRow lo e size (.slice (some ⟨g, 0, none⟩) n cap) n xs) : Holds id w g 0 xs.toArray := by
 intro j hj
 have hl := h.1
 rcases h.2 with ⟨h0, _⟩ | ⟨g', cap', cur, hv, hg, hh, hn, hm, hs, ht⟩
 ·cases h0
 ·cases hv
  have hj' : j < xs.length := by simpa using hj
  have hle : n * size ≤ cap * size := Nat.mul_le_mul_right _ hn
  refine ⟨?_, by simp [World.frozen?, hh]⟩
  have h1 : (cur.toList.take (n * size))[j]? = xs[j]? := by rw [ht]
  rw [List.getElem?_take_of_lt (by omega)] at h1
  rw [getElem!_pos _ j hj]
  simp only [World.cell?, hh, Nat.zero_add]
  simp only [Option.isSome_none, Bool.false_eq_true, if_false]
  rw [← Array.getElem?_toList, h1, zgh hj']
  simp
set_option maxHeartbeats 1000000 in
theorem closJ_any (x y : J) (hx : x.okB = true) (hy : y.okB = true) (w : World) :
  Calls Tryz.prog 137 #[.agg #[.int .i64 x.id, .int .i64 x.pr, .int .i64 x.nn, .int .i64 x.na, .int .i64 x.nb, .int .i64 x.nc, .int .i64 x.la, .int .i64 x.lb, .int .i64 x.lc, .int .i64 x.wl, .int .i64 x.lv], .agg #[.int .i64 y.id, .int .i64 y.pr, .int .i64 y.nn, .int .i64 y.na, .int .i64 y.nb, .int .i64 y.nc, .int .i64 y.la, .int .i64 y.lb, .int .i64 y.lc, .int .i64 y.wl, .int .i64 y.lv]] w fun e w' => e = .returned (.int .i64 (cfJ x y)) ∧ ∃ q os', w' = grow (w.drewN q) os' := by
 simp only [J.okB, Bool.and_eq_true, inB, decide_eq_true_eq] at hx hy
 have w1 : IntKind.i64.wrap (y.pr - x.pr) = y.pr - x.pr := IntWalk.i64_in _ (by omega)
 have w2 : IntKind.i64.wrap (x.id - y.id) = x.id - y.id := IntWalk.i64_in _ (by omega)
 clear hx hy
 unfold cfJ
 by_cases h : x.pr = y.pr
 ·rw [if_pos h]
  go_enter Tryz.func137, Tryz.ntmps137
  go_wp2
  go_ret
  exact ⟨rfl, 0, _, by rw [alloc_eq_grow, alloc_eq_grow, grow_grow]; rfl⟩
 ·rw [if_neg h]
  go_enter Tryz.func137, Tryz.ntmps137
  go_wp2
  go_ret
  exact ⟨rfl, 0, _, by rw [alloc_eq_grow, alloc_eq_grow, grow_grow]; rfl⟩
theorem toJA : ∀ (js : List J), (∀ j ∈ js, j.okB = true) → ∃ l : List JA, l.map (fun j => j.1) = js
 | [], _ => ⟨[], rfl⟩
 | j :: r, h => by
  obtain ⟨l, hl⟩ := toJA r (fun x hx => h x (List.mem_cons_of_mem _ hx))
  exact ⟨Subtype.mk j (h j List.mem_cons_self) :: l, congrArg (List.cons j) hl⟩
theorem sortJ_own {w : World} {lo g cap n : Nat} {js : List J} (h : w.ownsRow lo 95 11 (.slice (some ⟨g, 0, none⟩) n cap) n (jflat js)) (hn : n ≤ 1048580) (hok : ∀ j ∈ js, j.okB = true) (hd : distJ js) :
  Calls Tryz.prog 136 #[.slice (some ⟨g, 0, none⟩) n cap, .func (.func 137) #[] #[]] w fun e w' => e = .returned (.tuple #[]) ∧ w'.ownsRow lo 95 11 (.slice (some ⟨g, 0, none⟩) n cap) n (jflat (orderV js)) ∧ w.grownBy w' (some g) := by
 have hl : js.length = n := by have := h.1; rw [jflat_len] at this; omega
 obtain ⟨d, hd1⟩ : ∃ d : Array JA, d.toList.map (·.1) = js := by
  obtain ⟨l, hl9⟩ := toJA js hok
  exact ⟨l.toArray, hl9⟩
 have hds : d.size = n := by have := congrArg List.length hd1; simpa [hl] using this
 have hf : flatK encJ 11 d = (jflat js).toArray := by
  apply Array.ext'
  rw [flatJ_eq, hd1]
 have hH : HoldsK encJ 11 w g 0 d := by
  have h9 : Holds id w g 0 (jflat js).toArray := holds_ownK h
  rw [← hf] at h9
  exact h9
 have eg : ∀ args w, (callFunc 137 args).run Tryz.prog w = .ok (.enter 137 args) w := enters_of Tryz.func137 (by kernel_rfl) rfl
 have hc := AnyQ.slices_SortFunc Tryz.sortJ 11 Tryz.isAgg95 Tryz.sizeOf95 encJ (fun _ => rfl) (fun x v hv => by simp [encJ, J.cells] at hv; rcases hv with rfl | rfl | rfl | rfl | rfl | rfl | rfl | rfl | rfl | rfl | rfl <;> rfl) (fun x y : JA => cfJ x.1 y.1) swoJ 137 #[] g 0 cap d w eg (fun _ _ _ _ x y => closJ_any x.1 y.1 x.2 y.2 _) hH (zAz h g rfl) (by omega)
 change Calls Tryz.prog 136 _ _ _ at hc
 rw [hds] at hc
 refine hc.mono ?_
 rintro e w' ⟨rfl, d', q, os, hp, hs, hw⟩
 have hds' : d'.size = n := by rw [hp.1]; exact hds
 obtain ⟨o1, o2⟩ := own_putK (q := q) (F := flatK encJ 11 d') (os := os) h (by simp [hds'])
 have hw2 : w' = grow (putRow id (Sort.ahead w q) g 0 (flatK encJ 11 d')) os := hw
 rw [← hw2] at o1 o2
 rw [flatJ_eq] at o1
 have hperm : (d'.toList.map (·.1)).Perm js := by
  have h1 := hp.2.2
  have e1 : (d'.extract 0 n) = d' := by rw [← hds']; simp
  have e2 : (d.extract 0 n) = d := by rw [← hds]; simp
  rw [e1, e2] at h1
  have := h1.map (·.1)
  rwa [hd1] at this
 have hsort : (d'.toList.map (·.1)).Pairwise fun a b => ¬ befJ b a := by
  rw [List.pairwise_map, List.pairwise_iff_getElem]
  intro i j hi hj hij
  have hi' : i < d'.size := by simpa using hi
  have hj' : j < d'.size := by simpa using hj
  have h1 := hs i j (Nat.zero_le _) hij (by omega)
  rw [ltJ, getElem!_pos d' j hj', getElem!_pos d' i hi'] at h1
  exact of_decide_eq_false h1
 rw [orderV_uniq hd hperm hsort] at o1
 exact ⟨rfl, o1, o2⟩
theorem jflat_one {js : List J} : ∀ u ∈ jflat js, u.oneCell' = true := by
 intro u hu
 unfold jflat at hu
 obtain ⟨j, _, h2⟩ := List.mem_flatMap.1 hu
 simp only [J.cells, List.mem_cons, List.not_mem_nil, or_false] at h2
 rcases h2 with rfl | rfl | rfl | rfl | rfl | rfl | rfl | rfl | rfl | rfl | rfl <;> rfl
theorem own_some {w : World} {lo : Nat} {e : TypeId} {size n : Nat} {v : Value} {xs : List Value} (h : w.ownsRow lo e size v n xs) (hv : v ≠ .slice none 0 0) : ∃ g cap, v = .slice (some ⟨g, 0, none⟩) n cap := by
 rcases h.2 with ⟨h0, _⟩ | ⟨g, cap, cur, hv', _⟩
 ·exact absurd h0 hv
 ·exact ⟨g, cap, hv'⟩
set_option maxHeartbeats 4000000 in
theorem order_any (A : Option Addr) (n c : Nat) (js : List J) (w : World) (hn : n ≤ 60) (hr : Rd w A n 11 (jflat js)) (hA : (A = none ∧ n = 0 ∧ c = 0) ∨ ∃ g, A = some ⟨g, 0, none⟩ ∧ g < w.heap.size) (hok : ∀ j ∈ js, j.okB = true) (hd : distJ js) :
  Calls Tryz.prog 55 #[.slice A n c] w fun e w' => ∃ v, e = .returned v ∧ w'.ownsRow w.heap.size 95 11 v (orderV js).length (jflat (orderV js)) ∧ Below w.heap.size w w' := by
 have hjl := hr.jlen
 have HOK := Lib.hid hok
 have HD := Lib.hid hd
 have HN := Lib.hid hn
 have HVL : Hid ((orderV js).length = n) := Lib.hid (by rw [orderV_len]; exact hjl)
 clear hok hd hn
 obtain ⟨i0, hi, hz0, hz1, hz2⟩ := info_parts infoJ
 rcases hA with ⟨rfl, rfl, rfl⟩ | ⟨g, rfl, hg⟩
 ·have hjs : js = [] := List.eq_nil_of_length_eq_zero hjl
  subst hjs
  clear hr hjl
  go_enter Tryz.func55, Tryz.ntmps55
  go_wp2_with (at_builtin; refine wpList_append_own_none _ rfl _ _ 34 rfl (w.heap.size) 95 i0 11 Tryz.underlying34 hi (.slice (some ⟨w.heap.size, 0, none⟩) 0 0) 0 [] rfl (own_lit (cs := []) (zAj _ rfl) rfl (by decide) (Nat.le_refl _)) rfl ?_)
  go_wp2_with fail
  refine (sortJ_own (lo := w.heap.size) (n := 0) (js := []) (own_lit (cs := []) (zAj _ rfl) rfl (by decide) (Nat.le_refl _)) (by omega) HOK.out HD.out).mono ?_
  rintro e w2 ⟨rfl, own2, hg2⟩
  have HO := Lib.hid own2
  have HB : Hid (Below w.heap.size w w2) := Lib.hid (Below.grown (zAa w _) hg2 (by simp) (fun k hk => by cases hk; exact Nat.le_refl _))
  clear own2 hg2 hi hz0 hz1 hz2
  go_wp2
  go_ret
  exact ⟨_, rfl, HO.out, HB.out⟩
 ·have HR := Lib.hid hr
  have HG := Lib.hid hg
  have hm : n ≤ 9223372036854775807 := by have := HN.out; omega
  clear hr hg
  go_enter Tryz.func55, Tryz.ntmps55
  go_wp2_with (at_builtin; refine wpList_append_own _ rfl _ _ 34 rfl (w.heap.size) 95 i0 (.agg #[.int .i64 0, .int .i64 0, .int .i64 0, .int .i64 0, .int .i64 0, .int .i64 0, .int .i64 0, .int .i64 0, .int .i64 0, .int .i64 0, .int .i64 0]) 11 88 Tryz.underlying34 hi hz0 hz1 hz2 rfl (by decide) (.slice (some ⟨w.heap.size, 0, none⟩) 0 0) 0 [] rfl (own_lit (cs := []) (zAj _ rfl) rfl (by decide) (Nat.le_refl _)) ⟨g, 0, none⟩ n c (jflat js) rfl ?c1 ?c2 jflat_one ?c3 ?c4 ?c5 ?_)
  try case c1 => exact HR.out.1
  case c2 =>
   intro j u hj
   have hjn : j < n * 11 := by have h1 := (List.getElem?_eq_some_iff.1 hj).1; have := HR.out.1; omega
   obtain ⟨g', hg', hc⟩ := HR.out.2 (by omega)
   cases hg'
   have := hc j u hj
   have e9 : (⟨g, 0, none⟩ : Addr).add j = ⟨g, j, none⟩ := by unfold Addr.add; by_cases h : j = 0 <;> simp [h]
   rw [e9]
   exact ((zAa w _).cell (p := ⟨g, j, none⟩) HG.out).trans this
  try case c3 => unfold maxLen; have := HN.out; omega
  try case c4 => have := HN.out; omega
  try case c5 => simp
  intro v' w1 own1 hg1 hne
  have hv' : v' ≠ .slice none 0 0 := fun h => by first | exact hne h | (have := (hne.1 h).1; cases this)
  obtain ⟨g', c', rfl⟩ := own_some own1 hv'
  have own1' : w1.ownsRow w.heap.size 95 11 (.slice (some ⟨g', 0, none⟩) n c') n (jflat js) := by
   have h9 := own1
   (try simp only [List.nil_append, Nat.zero_add] at h9)
   exact h9
  have hgw := zAu own1' g' rfl
  have hB1 : Below w.heap.size w w1 := Below.grown (zAa w _) hg1 (by simp) (fun k hk => by cases hk; exact Nat.le_refl _)
  have HO1 := Lib.hid own1'
  have HB1 := Lib.hid hB1
  (try rw [Nat.zero_add])
  clear own1 own1' hg1 hne hv' hB1 hi hz0 hz1 hz2
  go_wp2_with fail
  refine (sortJ_own HO1.out (by have := HN.out; omega) HOK.out HD.out).mono ?_
  rintro e w2 ⟨rfl, own2, hg2⟩
  have HO := Lib.hid own2
  have HB : Hid (Below w.heap.size w w2) := Lib.hid (Below.grown HB1.out hg2 HB1.out.size (fun k hk => by cases hk; exact hgw))
  clear own2 hg2
  go_wp2
  go_ret
  exact ⟨_, rfl, by rw [HVL.out]; exact HO.out, HB.out⟩
end Go.Proofs.YtnphjhbfpoekpaaGreat
