import Derived.Test.YtnphjhbfpoekpaaGreatA3Pl
import Derived.Deep.DeepCutAuto
import Derived.IntWalk
namespace Go.Proofs.YtnphjhbfpoekpaaGreat
set_option linter.unusedSimpArgs false
set_option linter.unusedVariables false
set_option linter.unnecessarySimpa false
open Go.RowKit
theorem profOk_at {ps : List Q} {k : Nat} (hk : k < ps.length) (h : ptOk ps k = false) : zAx ps = false := by
 unfold zAx
 have : (List.range ps.length).all (ptOk ps) = false := by
  rw [List.all_eq_false]
  exact ⟨k, List.mem_range.2 hk, by simp [h]⟩
 rw [this, Bool.and_false]
theorem profOk_all {ps : List Q} {n : Nat} {q : Q} (hn : ps.length = n) (h1 : 1 ≤ n) (h2 : n ≤ 200) (hq : ps[0]? = some q) (ht : q.t = 0) (h : ∀ j, j < n → ptOk ps j = true) : zAx ps = true := by
 unfold zAx
 have e : ps.head? = some q := by rw [List.head?_eq_getElem?]; exact hq
 have h3 : (List.range ps.length).all (ptOk ps) = true := by
  rw [List.all_eq_true]; intro j hj; exact h j (by have := List.mem_range.1 hj; omega)
 rw [h3, e]
 simp [ht]; omega
theorem profOk_len {ps : List Q} {n : Nat} (hn : ps.length = n) (h : ¬ (1 ≤ n ∧ n ≤ 200)) : zAx ps = false := by
 unfold zAx
 by_cases h1 : 1 ≤ n
 ·have h2 : ¬ n ≤ 200 := fun h2 => h ⟨h1, h2⟩
  simp [hn, h2]
 ·simp [hn, h1]
theorem profOk_head {ps : List Q} {q : Q} (hq : ps[0]? = some q) (ht : q.t ≠ 0) : zAx ps = false := by
 unfold zAx
 have e : ps.head? = some q := by rw [List.head?_eq_getElem?]; exact hq
 rw [e]; simp [ht]
set_option maxHeartbeats 4000000 in
theorem profOk_any (A : Option Addr) (n c : Nat) (ps : List Q) (w : World) (hn : n ≤ 1048576) (hr : Rd w A n 4 (flat ps)) (hl : ∀ g, A = some ⟨g, 0, none⟩ → g < w.heap.size) :
  Calls Tryz.prog 135 #[.agg #[.slice A n c]] w fun e w' => e = .returned (.bool (zAx ps)) ∧ Below w.heap.size w w' := by
 have hpl : ps.length = n := by have := hr.1; rw [flat_len] at this; omega
 have hm : n ≤ 9223372036854775807 := by omega
 have HN := Lib.hid hn
 have HR := Lib.hid hr
 have HL := Lib.hid hl
 have HP := Lib.hid hpl
 clear hn hr hl hpl
 by_cases hb : 1 ≤ n ∧ n ≤ 200
 ·obtain ⟨g, q, rfl, hq, c0, c1, c2, c3⟩ := HR.out.q (show 0 < n by omega)
  have hin : inB n 1 200 = true := by simp [inB]; omega
  have hg := HL.out g rfl
  have hn0 : 0 < n := by omega
  have HBB := Lib.hid hb
  simp only [Nat.zero_mul, Nat.zero_add] at c0 c1 c2 c3
  by_cases ht : q.t = 0
  ·rw [ht] at c0
   have HQ := Lib.hid hq
   have HT := Lib.hid ht
   clear hq ht hb
   have hni : (0:Int) < (n:Int) := by omega
   go_enter Tryz.func135, Tryz.ntmps135
   go_wp2_with (go_at_call 54; refine (within_any _ _ _ _).mono ?_; rintro e w' ⟨rfl, rfl⟩; rw [hin])
   go_loopw [21] (fun i wr => ∃ k : Nat, k ≤ n ∧ i = .int .i64 k ∧ Below w.heap.size w wr ∧ w.heap.size < wr.heap.size ∧ wr.cell? ⟨w.heap.size, 0, none⟩ = some (.slice (some ⟨g, 0, none⟩) n c) ∧ wr.frozen? ⟨w.heap.size, 0, none⟩ = false ∧ ∀ j, j < k → ptOk ps j = true) (fun i _ => n - (intOf i).toNat)
   case atStart => exact ⟨0, Nat.zero_le _, rfl, (Below.refl _ _).alloc (Nat.le_refl _) _, by simp, by simp [go_sem], by simp [go_sem], by intro j hj; omega⟩
   case round =>
    obtain ⟨k, hk, rfl, hbw, hsz, hbox, hfz, hall⟩ := hrel
    by_cases hlt : k < n
    ·have hlt' : (k : Int) < n := by omega
     obtain ⟨g', q', hg', hq', d0, d1, d2, d3⟩ := HR.out.q hlt
     simp only [Option.some.injEq, Addr.mk.injEq] at hg'
     obtain ⟨rfl, -⟩ := hg'
     have D0 := (hbw.cell (p := ⟨g, k * 4, none⟩) hg).trans d0
     have D1 := (hbw.cell (p := ⟨g, k * 4 + 1, none⟩) hg).trans d1
     have D2 := (hbw.cell (p := ⟨g, k * 4 + 2, none⟩) hg).trans d2
     have D3 := (hbw.cell (p := ⟨g, k * 4 + 3, none⟩) hg).trans d3
     have hgr : g < wr.heap.size := Nat.lt_of_lt_of_le hg hbw.size
     have HA := Lib.hid hall
     have HB := Lib.hid hbw
     clear d0 d1 d2 d3 hall hbw
     by_cases hk0 : k = 0
     ·have hkn : ¬ ((0:Int) < k) := by omega
      have hkd : decide (0 < k) = false := by simp; omega
      have HO : ptOk ps k = q'.ok := by unfold ptOk; rw [hq']; simp [hk0]
      have HK0 := Lib.hid hk0
      clear hq' hk0
      go_wp2
      refine wp_region_below (by kernel_rfl) (by kernel_rfl) (fun W hW => ?_)
      have W0 : W.cell? ⟨wr.heap.size, 0, none⟩ = some (.int .i64 q'.t) := by rw [hW]; simp [go_sem]
      have W1 : W.cell? ⟨wr.heap.size, 1, none⟩ = some (.int .i64 q'.a) := by rw [hW]; simp [go_sem]
      have W2 : W.cell? ⟨wr.heap.size, 2, none⟩ = some (.int .i64 q'.b) := by rw [hW]; simp [go_sem]
      have W3 : W.cell? ⟨wr.heap.size, 3, none⟩ = some (.int .i64 q'.c) := by rw [hW]; simp [go_sem]
      have W4 : W.cell? ⟨w.heap.size, 0, none⟩ = some (.slice (some ⟨g, 0, none⟩) n c) := by rw [hW]; simp [go_sem, hbox, World.cell?_alloc_some]
      have W9 : W.frozen? ⟨w.heap.size, 0, none⟩ = false := by rw [hW]; simp [go_sem, hfz, hsz, Nat.ne_of_lt]
      have WB : Below w.heap.size w W := by rw [hW]; exact (zAc HB.out (zAa _ _)).drew
      clear D0 D1 D2 D3
      have WS : wr.heap.size < W.heap.size := by rw [hW]; simp
      have HW := Lib.hid hW
      have HWB := Lib.hid WB
      have HO9 := Lib.hid HO
      clear hW WB HO
      have hz0 : g < W.heap.size := by omega
      have hz1 : w.heap.size < W.heap.size := by omega
      ((try dsimp only); repeat (first | (refine Det0.skip ?_ ?_; (focus (rfl; done)); (try simp only [putA, zgd, zgf, zge])) | (refine Det0.pure ?_ ?_ ?_ ?_; rotate_left; (focus (rfl; done)); (focus ((intro w9 hJ); (have hk0 := fun o => hJ.cell (p := ⟨g, o, none⟩) hz0; have hk1 := fun o => hJ.cell (p := ⟨w.heap.size, o, none⟩) hz1; have hk2 := fun o => hJ.cell (p := ⟨wr.heap.size, o, none⟩) WS); go_simp; (first | with_reducible rfl | exact eq_if3 | exact neq_if3 | skip); done)); (try simp only [putA, zgd, zgf, zge])) | (refine Det0.step ?_ ?_ ?_ ?_; rotate_left; (focus (rfl; done)); (focus ((intro w9 K hJ hK); (have hk0 := fun o => hJ.cell (p := ⟨g, o, none⟩) hz0; have hk1 := fun o => hJ.cell (p := ⟨w.heap.size, o, none⟩) hz1; have hk2 := fun o => hJ.cell (p := ⟨wr.heap.size, o, none⟩) WS); go_simp; (first | (go_at_call 53; refine (isTime_any _ _).mono ?_; rintro e w1 ⟨rfl, rfl⟩; exact hK.out _ hJ) | (go_at_call 101; refine (vecOk_raw _ _ _ _).mono ?_; rintro e w1 ⟨rfl, hb1⟩; exact hK.out _ (zAc hJ hb1))); done)); (try simp only [putA, zgd, zgf, zge]))))
      cases hT : timeB q'.t
      ·((try dsimp only); repeat (first | (refine Det0.skip ?_ ?_; (focus (rfl; done)); (try simp only [putA, zgd, zgf, zge])) | (refine Det0.pure ?_ ?_ ?_ ?_; rotate_left; (focus (rfl; done)); (focus ((intro w9 hJ); (have hk0 := fun o => hJ.cell (p := ⟨g, o, none⟩) hz0; have hk1 := fun o => hJ.cell (p := ⟨w.heap.size, o, none⟩) hz1; have hk2 := fun o => hJ.cell (p := ⟨wr.heap.size, o, none⟩) WS); go_simp; (first | with_reducible rfl | exact eq_if3 | exact neq_if3 | skip); done)); (try simp only [putA, zgd, zgf, zge])) | (refine Det0.step ?_ ?_ ?_ ?_; rotate_left; (focus (rfl; done)); (focus ((intro w9 K hJ hK); (have hk0 := fun o => hJ.cell (p := ⟨g, o, none⟩) hz0; have hk1 := fun o => hJ.cell (p := ⟨w.heap.size, o, none⟩) hz1; have hk2 := fun o => hJ.cell (p := ⟨wr.heap.size, o, none⟩) WS); go_simp; (first | (go_at_call 53; refine (isTime_any _ _).mono ?_; rintro e w1 ⟨rfl, rfl⟩; exact hK.out _ hJ) | (go_at_call 101; refine (vecOk_raw _ _ _ _).mono ?_; rintro e w1 ⟨rfl, hb1⟩; exact hK.out _ (zAc hJ hb1))); done)); (try simp only [putA, zgd, zgf, zge]))))
       refine Det0.nil (fun w9 hJ => ?_)
       go_wp2
       go_ret
       exact ⟨zAj (profOk_at (k := k) (by rw [HP.out]; exact hlt) (by rw [HO9.out]; simp only [Q.ok, Q.same, hT, Bool.false_and, Bool.and_false, Bool.not_true, Bool.true_and])).symm, zAc HWB.out hJ⟩
      ((try dsimp only); repeat (first | (refine Det0.skip ?_ ?_; (focus (rfl; done)); (try simp only [putA, zgd, zgf, zge])) | (refine Det0.pure ?_ ?_ ?_ ?_; rotate_left; (focus (rfl; done)); (focus ((intro w9 hJ); (have hk0 := fun o => hJ.cell (p := ⟨g, o, none⟩) hz0; have hk1 := fun o => hJ.cell (p := ⟨w.heap.size, o, none⟩) hz1; have hk2 := fun o => hJ.cell (p := ⟨wr.heap.size, o, none⟩) WS); go_simp; (first | with_reducible rfl | exact eq_if3 | exact neq_if3 | skip); done)); (try simp only [putA, zgd, zgf, zge])) | (refine Det0.step ?_ ?_ ?_ ?_; rotate_left; (focus (rfl; done)); (focus ((intro w9 K hJ hK); (have hk0 := fun o => hJ.cell (p := ⟨g, o, none⟩) hz0; have hk1 := fun o => hJ.cell (p := ⟨w.heap.size, o, none⟩) hz1; have hk2 := fun o => hJ.cell (p := ⟨wr.heap.size, o, none⟩) WS); go_simp; (first | (go_at_call 53; refine (isTime_any _ _).mono ?_; rintro e w1 ⟨rfl, rfl⟩; exact hK.out _ hJ) | (go_at_call 101; refine (vecOk_raw _ _ _ _).mono ?_; rintro e w1 ⟨rfl, hb1⟩; exact hK.out _ (zAc hJ hb1))); done)); (try simp only [putA, zgd, zgf, zge]))))
      cases hV : vecOkB q'.a q'.b q'.c
      ·((try dsimp only); repeat (first | (refine Det0.skip ?_ ?_; (focus (rfl; done)); (try simp only [putA, zgd, zgf, zge])) | (refine Det0.pure ?_ ?_ ?_ ?_; rotate_left; (focus (rfl; done)); (focus ((intro w9 hJ); (have hk0 := fun o => hJ.cell (p := ⟨g, o, none⟩) hz0; have hk1 := fun o => hJ.cell (p := ⟨w.heap.size, o, none⟩) hz1; have hk2 := fun o => hJ.cell (p := ⟨wr.heap.size, o, none⟩) WS); go_simp; (first | with_reducible rfl | exact eq_if3 | exact neq_if3 | skip); done)); (try simp only [putA, zgd, zgf, zge])) | (refine Det0.step ?_ ?_ ?_ ?_; rotate_left; (focus (rfl; done)); (focus ((intro w9 K hJ hK); (have hk0 := fun o => hJ.cell (p := ⟨g, o, none⟩) hz0; have hk1 := fun o => hJ.cell (p := ⟨w.heap.size, o, none⟩) hz1; have hk2 := fun o => hJ.cell (p := ⟨wr.heap.size, o, none⟩) WS); go_simp; (first | (go_at_call 53; refine (isTime_any _ _).mono ?_; rintro e w1 ⟨rfl, rfl⟩; exact hK.out _ hJ) | (go_at_call 101; refine (vecOk_raw _ _ _ _).mono ?_; rintro e w1 ⟨rfl, hb1⟩; exact hK.out _ (zAc hJ hb1))); done)); (try simp only [putA, zgd, zgf, zge]))))
       refine Det0.nil (fun w9 hJ => ?_)
       go_wp2
       go_ret
       exact ⟨zAj (profOk_at (k := k) (by rw [HP.out]; exact hlt) (by rw [HO9.out]; simp only [Q.ok, Q.same, hV, Bool.false_and, Bool.and_false, Bool.not_true, Bool.true_and])).symm, zAc HWB.out hJ⟩
      ·((try dsimp only); repeat (first | (refine Det0.skip ?_ ?_; (focus (rfl; done)); (try simp only [putA, zgd, zgf, zge])) | (refine Det0.pure ?_ ?_ ?_ ?_; rotate_left; (focus (rfl; done)); (focus ((intro w9 hJ); (have hk0 := fun o => hJ.cell (p := ⟨g, o, none⟩) hz0; have hk1 := fun o => hJ.cell (p := ⟨w.heap.size, o, none⟩) hz1; have hk2 := fun o => hJ.cell (p := ⟨wr.heap.size, o, none⟩) WS); go_simp; (first | with_reducible rfl | exact eq_if3 | exact neq_if3 | skip); done)); (try simp only [putA, zgd, zgf, zge])) | (refine Det0.step ?_ ?_ ?_ ?_; rotate_left; (focus (rfl; done)); (focus ((intro w9 K hJ hK); (have hk0 := fun o => hJ.cell (p := ⟨g, o, none⟩) hz0; have hk1 := fun o => hJ.cell (p := ⟨w.heap.size, o, none⟩) hz1; have hk2 := fun o => hJ.cell (p := ⟨wr.heap.size, o, none⟩) WS); go_simp; (first | (go_at_call 53; refine (isTime_any _ _).mono ?_; rintro e w1 ⟨rfl, rfl⟩; exact hK.out _ hJ) | (go_at_call 101; refine (vecOk_raw _ _ _ _).mono ?_; rintro e w1 ⟨rfl, hb1⟩; exact hK.out _ (zAc hJ hb1))); done)); (try simp only [putA, zgd, zgf, zge]))))
       refine Det0.nil (fun w9 hJ => ?_)
       have hk0 := fun o => hJ.cell (p := ⟨w.heap.size, o, none⟩) hz1
       have hk1 := fun o => hJ.frozen (p := ⟨w.heap.size, o, none⟩) hz1
       have hk2 := hJ.size
       go_wp2
       go_roundw
       case rel =>
        refine ⟨k + 1, by omega, by go_num, zAc HWB.out hJ, by omega, by rw [hk0, W4], by rw [hk1, W9], ?_⟩
        intro j hj
        rcases Nat.lt_or_ge j k with h | h
        ·exact HA.out j h
        ·have : j = k := by omega
         rw [this, HO9.out]; simp only [Q.ok, Q.same, hT, hV, Bool.and_true, Bool.true_and, Bool.not_false]
       case measure => simp [intOf]; omega
     ·have hk1 : (0:Int) < k := by omega
      have hkb : (k:Int) - 1 < n := by omega
      have hkn : 0 < k := by omega
      have hkd : decide (0 < k) = true := by simp; omega
      have hkc : k - 1 < n := by omega
      obtain ⟨g'', p, hg'', hp, e0, e1, e2, e3⟩ := HR.out.q hkc
      simp only [Option.some.injEq, Addr.mk.injEq] at hg''
      obtain ⟨rfl, -⟩ := hg''
      have E0 := (HB.out.cell (p := ⟨g, (k - 1) * 4, none⟩) hg).trans e0
      have E1 := (HB.out.cell (p := ⟨g, (k - 1) * 4 + 1, none⟩) hg).trans e1
      have E2 := (HB.out.cell (p := ⟨g, (k - 1) * 4 + 2, none⟩) hg).trans e2
      have E3 := (HB.out.cell (p := ⟨g, (k - 1) * 4 + 3, none⟩) hg).trans e3
      clear e0 e1 e2 e3
      have HO : ptOk ps k = (q'.ok && (decide (p.t < q'.t) && !p.same q')) := by simp [ptOk, hq', hp, hk0]
      clear hq' hp
      go_wp2
      have hwr : IntKind.i64.wrap ((k:Int) - 1) = ((k - 1 : Nat) : Int) := by rw [show ((k - 1 : Nat) : Int) = (k : Int) - 1 by omega]; exact IntWalk.i64_in _ (by omega)
      refine wp_region_below (by kernel_rfl) (by kernel_rfl) (fun W hW => ?_)
      have W0 : W.cell? ⟨wr.heap.size, 0, none⟩ = some (.int .i64 q'.t) := by rw [hW]; simp [go_sem]
      have W1 : W.cell? ⟨wr.heap.size, 1, none⟩ = some (.int .i64 q'.a) := by rw [hW]; simp [go_sem]
      have W2 : W.cell? ⟨wr.heap.size, 2, none⟩ = some (.int .i64 q'.b) := by rw [hW]; simp [go_sem]
      have W3 : W.cell? ⟨wr.heap.size, 3, none⟩ = some (.int .i64 q'.c) := by rw [hW]; simp [go_sem]
      have W4 : W.cell? ⟨w.heap.size, 0, none⟩ = some (.slice (some ⟨g, 0, none⟩) n c) := by rw [hW]; simp [go_sem, hbox, World.cell?_alloc_some]
      have W9 : W.frozen? ⟨w.heap.size, 0, none⟩ = false := by rw [hW]; simp [go_sem, hfz, hsz, Nat.ne_of_lt]
      have WB : Below w.heap.size w W := by rw [hW]; exact (zAc HB.out (zAa _ _)).drew
      have W5 : W.cell? ⟨g, (k - 1) * 4, none⟩ = some (.int .i64 p.t) := by rw [hW]; simp [go_sem, E0, World.cell?_alloc_some]
      have W6 : W.cell? ⟨g, (k - 1) * 4 + 1, none⟩ = some (.int .i64 p.a) := by rw [hW]; simp [go_sem, E1, World.cell?_alloc_some]
      have W7 : W.cell? ⟨g, (k - 1) * 4 + 2, none⟩ = some (.int .i64 p.b) := by rw [hW]; simp [go_sem, E2, World.cell?_alloc_some]
      have W8 : W.cell? ⟨g, (k - 1) * 4 + 3, none⟩ = some (.int .i64 p.c) := by rw [hW]; simp [go_sem, E3, World.cell?_alloc_some]
      clear D0 D1 D2 D3 E0 E1 E2 E3
      have WS : wr.heap.size < W.heap.size := by rw [hW]; simp
      have HW := Lib.hid hW
      have HWB := Lib.hid WB
      have HO9 := Lib.hid HO
      clear hW WB HO
      have hz0 : g < W.heap.size := by omega
      have hz1 : w.heap.size < W.heap.size := by omega
      ((try dsimp only); repeat (first | (refine Det0.skip ?_ ?_; (focus (rfl; done)); (try simp only [putA, zgd, zgf, zge])) | (refine Det0.pure ?_ ?_ ?_ ?_; rotate_left; (focus (rfl; done)); (focus ((intro w9 hJ); (have hk0 := fun o => hJ.cell (p := ⟨g, o, none⟩) hz0; have hk1 := fun o => hJ.cell (p := ⟨w.heap.size, o, none⟩) hz1; have hk2 := fun o => hJ.cell (p := ⟨wr.heap.size, o, none⟩) WS); go_simp; (first | with_reducible rfl | exact eq_if3 | exact neq_if3 | skip); done)); (try simp only [putA, zgd, zgf, zge])) | (refine Det0.step ?_ ?_ ?_ ?_; rotate_left; (focus (rfl; done)); (focus ((intro w9 K hJ hK); (have hk0 := fun o => hJ.cell (p := ⟨g, o, none⟩) hz0; have hk1 := fun o => hJ.cell (p := ⟨w.heap.size, o, none⟩) hz1; have hk2 := fun o => hJ.cell (p := ⟨wr.heap.size, o, none⟩) WS); go_simp; (first | (go_at_call 53; refine (isTime_any _ _).mono ?_; rintro e w1 ⟨rfl, rfl⟩; exact hK.out _ hJ) | (go_at_call 101; refine (vecOk_raw _ _ _ _).mono ?_; rintro e w1 ⟨rfl, hb1⟩; exact hK.out _ (zAc hJ hb1))); done)); (try simp only [putA, zgd, zgf, zge]))))
      cases hT : timeB q'.t
      ·((try dsimp only); repeat (first | (refine Det0.skip ?_ ?_; (focus (rfl; done)); (try simp only [putA, zgd, zgf, zge])) | (refine Det0.pure ?_ ?_ ?_ ?_; rotate_left; (focus (rfl; done)); (focus ((intro w9 hJ); (have hk0 := fun o => hJ.cell (p := ⟨g, o, none⟩) hz0; have hk1 := fun o => hJ.cell (p := ⟨w.heap.size, o, none⟩) hz1; have hk2 := fun o => hJ.cell (p := ⟨wr.heap.size, o, none⟩) WS); go_simp; (first | with_reducible rfl | exact eq_if3 | exact neq_if3 | skip); done)); (try simp only [putA, zgd, zgf, zge])) | (refine Det0.step ?_ ?_ ?_ ?_; rotate_left; (focus (rfl; done)); (focus ((intro w9 K hJ hK); (have hk0 := fun o => hJ.cell (p := ⟨g, o, none⟩) hz0; have hk1 := fun o => hJ.cell (p := ⟨w.heap.size, o, none⟩) hz1; have hk2 := fun o => hJ.cell (p := ⟨wr.heap.size, o, none⟩) WS); go_simp; (first | (go_at_call 53; refine (isTime_any _ _).mono ?_; rintro e w1 ⟨rfl, rfl⟩; exact hK.out _ hJ) | (go_at_call 101; refine (vecOk_raw _ _ _ _).mono ?_; rintro e w1 ⟨rfl, hb1⟩; exact hK.out _ (zAc hJ hb1))); done)); (try simp only [putA, zgd, zgf, zge]))))
       refine Det0.nil (fun w9 hJ => ?_)
       go_wp2
       go_ret
       exact ⟨zAj (profOk_at (k := k) (by rw [HP.out]; exact hlt) (by rw [HO9.out]; simp only [Q.ok, Q.same, hT, Bool.false_and, Bool.and_false, Bool.not_true, Bool.true_and])).symm, zAc HWB.out hJ⟩
      ((try dsimp only); repeat (first | (refine Det0.skip ?_ ?_; (focus (rfl; done)); (try simp only [putA, zgd, zgf, zge])) | (refine Det0.pure ?_ ?_ ?_ ?_; rotate_left; (focus (rfl; done)); (focus ((intro w9 hJ); (have hk0 := fun o => hJ.cell (p := ⟨g, o, none⟩) hz0; have hk1 := fun o => hJ.cell (p := ⟨w.heap.size, o, none⟩) hz1; have hk2 := fun o => hJ.cell (p := ⟨wr.heap.size, o, none⟩) WS); go_simp; (first | with_reducible rfl | exact eq_if3 | exact neq_if3 | skip); done)); (try simp only [putA, zgd, zgf, zge])) | (refine Det0.step ?_ ?_ ?_ ?_; rotate_left; (focus (rfl; done)); (focus ((intro w9 K hJ hK); (have hk0 := fun o => hJ.cell (p := ⟨g, o, none⟩) hz0; have hk1 := fun o => hJ.cell (p := ⟨w.heap.size, o, none⟩) hz1; have hk2 := fun o => hJ.cell (p := ⟨wr.heap.size, o, none⟩) WS); go_simp; (first | (go_at_call 53; refine (isTime_any _ _).mono ?_; rintro e w1 ⟨rfl, rfl⟩; exact hK.out _ hJ) | (go_at_call 101; refine (vecOk_raw _ _ _ _).mono ?_; rintro e w1 ⟨rfl, hb1⟩; exact hK.out _ (zAc hJ hb1))); done)); (try simp only [putA, zgd, zgf, zge]))))
      cases hV : vecOkB q'.a q'.b q'.c
      ·((try dsimp only); repeat (first | (refine Det0.skip ?_ ?_; (focus (rfl; done)); (try simp only [putA, zgd, zgf, zge])) | (refine Det0.pure ?_ ?_ ?_ ?_; rotate_left; (focus (rfl; done)); (focus ((intro w9 hJ); (have hk0 := fun o => hJ.cell (p := ⟨g, o, none⟩) hz0; have hk1 := fun o => hJ.cell (p := ⟨w.heap.size, o, none⟩) hz1; have hk2 := fun o => hJ.cell (p := ⟨wr.heap.size, o, none⟩) WS); go_simp; (first | with_reducible rfl | exact eq_if3 | exact neq_if3 | skip); done)); (try simp only [putA, zgd, zgf, zge])) | (refine Det0.step ?_ ?_ ?_ ?_; rotate_left; (focus (rfl; done)); (focus ((intro w9 K hJ hK); (have hk0 := fun o => hJ.cell (p := ⟨g, o, none⟩) hz0; have hk1 := fun o => hJ.cell (p := ⟨w.heap.size, o, none⟩) hz1; have hk2 := fun o => hJ.cell (p := ⟨wr.heap.size, o, none⟩) WS); go_simp; (first | (go_at_call 53; refine (isTime_any _ _).mono ?_; rintro e w1 ⟨rfl, rfl⟩; exact hK.out _ hJ) | (go_at_call 101; refine (vecOk_raw _ _ _ _).mono ?_; rintro e w1 ⟨rfl, hb1⟩; exact hK.out _ (zAc hJ hb1))); done)); (try simp only [putA, zgd, zgf, zge]))))
       refine Det0.nil (fun w9 hJ => ?_)
       go_wp2
       go_ret
       exact ⟨zAj (profOk_at (k := k) (by rw [HP.out]; exact hlt) (by rw [HO9.out]; simp only [Q.ok, Q.same, hV, Bool.false_and, Bool.and_false, Bool.not_true, Bool.true_and])).symm, zAc HWB.out hJ⟩
      ((try dsimp only); repeat (first | (refine Det0.skip ?_ ?_; (focus (rfl; done)); (try simp only [putA, zgd, zgf, zge])) | (refine Det0.pure ?_ ?_ ?_ ?_; rotate_left; (focus (rfl; done)); (focus ((intro w9 hJ); (have hk0 := fun o => hJ.cell (p := ⟨g, o, none⟩) hz0; have hk1 := fun o => hJ.cell (p := ⟨w.heap.size, o, none⟩) hz1; have hk2 := fun o => hJ.cell (p := ⟨wr.heap.size, o, none⟩) WS); go_simp; (first | with_reducible rfl | exact eq_if3 | exact neq_if3 | skip); done)); (try simp only [putA, zgd, zgf, zge])) | (refine Det0.step ?_ ?_ ?_ ?_; rotate_left; (focus (rfl; done)); (focus ((intro w9 K hJ hK); (have hk0 := fun o => hJ.cell (p := ⟨g, o, none⟩) hz0; have hk1 := fun o => hJ.cell (p := ⟨w.heap.size, o, none⟩) hz1; have hk2 := fun o => hJ.cell (p := ⟨wr.heap.size, o, none⟩) WS); go_simp; (first | (go_at_call 53; refine (isTime_any _ _).mono ?_; rintro e w1 ⟨rfl, rfl⟩; exact hK.out _ hJ) | (go_at_call 101; refine (vecOk_raw _ _ _ _).mono ?_; rintro e w1 ⟨rfl, hb1⟩; exact hK.out _ (zAc hJ hb1))); done)); (try simp only [putA, zgd, zgf, zge]))))
      cases hlo : decide (q'.t ≤ p.t)
      ·have hlo' : decide (p.t < q'.t) = true := by simp at hlo ⊢; omega
       ((try dsimp only); repeat (first | (refine Det0.skip ?_ ?_; (focus (rfl; done)); (try simp only [putA, zgd, zgf, zge])) | (refine Det0.pure ?_ ?_ ?_ ?_; rotate_left; (focus (rfl; done)); (focus ((intro w9 hJ); (have hk0 := fun o => hJ.cell (p := ⟨g, o, none⟩) hz0; have hk1 := fun o => hJ.cell (p := ⟨w.heap.size, o, none⟩) hz1; have hk2 := fun o => hJ.cell (p := ⟨wr.heap.size, o, none⟩) WS); go_simp; (first | with_reducible rfl | exact eq_if3 | exact neq_if3 | skip); done)); (try simp only [putA, zgd, zgf, zge])) | (refine Det0.step ?_ ?_ ?_ ?_; rotate_left; (focus (rfl; done)); (focus ((intro w9 K hJ hK); (have hk0 := fun o => hJ.cell (p := ⟨g, o, none⟩) hz0; have hk1 := fun o => hJ.cell (p := ⟨w.heap.size, o, none⟩) hz1; have hk2 := fun o => hJ.cell (p := ⟨wr.heap.size, o, none⟩) WS); go_simp; (first | (go_at_call 53; refine (isTime_any _ _).mono ?_; rintro e w1 ⟨rfl, rfl⟩; exact hK.out _ hJ) | (go_at_call 101; refine (vecOk_raw _ _ _ _).mono ?_; rintro e w1 ⟨rfl, hb1⟩; exact hK.out _ (zAc hJ hb1))); done)); (try simp only [putA, zgd, zgf, zge]))))
       cases hs : (p.a == q'.a && p.b == q'.b && p.c == q'.c)
       ·((try dsimp only); repeat (first | (refine Det0.skip ?_ ?_; (focus (rfl; done)); (try simp only [putA, zgd, zgf, zge])) | (refine Det0.pure ?_ ?_ ?_ ?_; rotate_left; (focus (rfl; done)); (focus ((intro w9 hJ); (have hk0 := fun o => hJ.cell (p := ⟨g, o, none⟩) hz0; have hk1 := fun o => hJ.cell (p := ⟨w.heap.size, o, none⟩) hz1; have hk2 := fun o => hJ.cell (p := ⟨wr.heap.size, o, none⟩) WS); go_simp; (first | with_reducible rfl | exact eq_if3 | exact neq_if3 | skip); done)); (try simp only [putA, zgd, zgf, zge])) | (refine Det0.step ?_ ?_ ?_ ?_; rotate_left; (focus (rfl; done)); (focus ((intro w9 K hJ hK); (have hk0 := fun o => hJ.cell (p := ⟨g, o, none⟩) hz0; have hk1 := fun o => hJ.cell (p := ⟨w.heap.size, o, none⟩) hz1; have hk2 := fun o => hJ.cell (p := ⟨wr.heap.size, o, none⟩) WS); go_simp; (first | (go_at_call 53; refine (isTime_any _ _).mono ?_; rintro e w1 ⟨rfl, rfl⟩; exact hK.out _ hJ) | (go_at_call 101; refine (vecOk_raw _ _ _ _).mono ?_; rintro e w1 ⟨rfl, hb1⟩; exact hK.out _ (zAc hJ hb1))); done)); (try simp only [putA, zgd, zgf, zge]))))
        refine Det0.nil (fun w9 hJ => ?_)
        have hk0 := fun o => hJ.cell (p := ⟨w.heap.size, o, none⟩) hz1
        have hk1 := fun o => hJ.frozen (p := ⟨w.heap.size, o, none⟩) hz1
        have hk2 := hJ.size
        go_wp2
        go_roundw
        case rel =>
         refine ⟨k + 1, by omega, by go_num, zAc HWB.out hJ, by omega, by rw [hk0, W4], by rw [hk1, W9], ?_⟩
         intro j hj
         rcases Nat.lt_or_ge j k with h | h
         ·exact HA.out j h
         ·have : j = k := by omega
          rw [this, HO9.out]; simp only [Q.ok, Q.same, hT, hV, hlo', hs, Bool.and_true, Bool.true_and, Bool.not_false]
        case measure => simp [intOf]; omega
       ·((try dsimp only); repeat (first | (refine Det0.skip ?_ ?_; (focus (rfl; done)); (try simp only [putA, zgd, zgf, zge])) | (refine Det0.pure ?_ ?_ ?_ ?_; rotate_left; (focus (rfl; done)); (focus ((intro w9 hJ); (have hk0 := fun o => hJ.cell (p := ⟨g, o, none⟩) hz0; have hk1 := fun o => hJ.cell (p := ⟨w.heap.size, o, none⟩) hz1; have hk2 := fun o => hJ.cell (p := ⟨wr.heap.size, o, none⟩) WS); go_simp; (first | with_reducible rfl | exact eq_if3 | exact neq_if3 | skip); done)); (try simp only [putA, zgd, zgf, zge])) | (refine Det0.step ?_ ?_ ?_ ?_; rotate_left; (focus (rfl; done)); (focus ((intro w9 K hJ hK); (have hk0 := fun o => hJ.cell (p := ⟨g, o, none⟩) hz0; have hk1 := fun o => hJ.cell (p := ⟨w.heap.size, o, none⟩) hz1; have hk2 := fun o => hJ.cell (p := ⟨wr.heap.size, o, none⟩) WS); go_simp; (first | (go_at_call 53; refine (isTime_any _ _).mono ?_; rintro e w1 ⟨rfl, rfl⟩; exact hK.out _ hJ) | (go_at_call 101; refine (vecOk_raw _ _ _ _).mono ?_; rintro e w1 ⟨rfl, hb1⟩; exact hK.out _ (zAc hJ hb1))); done)); (try simp only [putA, zgd, zgf, zge]))))
        refine Det0.nil (fun w9 hJ => ?_)
        go_wp2
        go_ret
        exact ⟨zAj (profOk_at (k := k) (by rw [HP.out]; exact hlt) (by rw [HO9.out]; simp only [Q.ok, Q.same, hs, Bool.false_and, Bool.and_false, Bool.not_true, Bool.true_and])).symm, zAc HWB.out hJ⟩
      ·((try dsimp only); repeat (first | (refine Det0.skip ?_ ?_; (focus (rfl; done)); (try simp only [putA, zgd, zgf, zge])) | (refine Det0.pure ?_ ?_ ?_ ?_; rotate_left; (focus (rfl; done)); (focus ((intro w9 hJ); (have hk0 := fun o => hJ.cell (p := ⟨g, o, none⟩) hz0; have hk1 := fun o => hJ.cell (p := ⟨w.heap.size, o, none⟩) hz1; have hk2 := fun o => hJ.cell (p := ⟨wr.heap.size, o, none⟩) WS); go_simp; (first | with_reducible rfl | exact eq_if3 | exact neq_if3 | skip); done)); (try simp only [putA, zgd, zgf, zge])) | (refine Det0.step ?_ ?_ ?_ ?_; rotate_left; (focus (rfl; done)); (focus ((intro w9 K hJ hK); (have hk0 := fun o => hJ.cell (p := ⟨g, o, none⟩) hz0; have hk1 := fun o => hJ.cell (p := ⟨w.heap.size, o, none⟩) hz1; have hk2 := fun o => hJ.cell (p := ⟨wr.heap.size, o, none⟩) WS); go_simp; (first | (go_at_call 53; refine (isTime_any _ _).mono ?_; rintro e w1 ⟨rfl, rfl⟩; exact hK.out _ hJ) | (go_at_call 101; refine (vecOk_raw _ _ _ _).mono ?_; rintro e w1 ⟨rfl, hb1⟩; exact hK.out _ (zAc hJ hb1))); done)); (try simp only [putA, zgd, zgf, zge]))))
       have hlo' : decide (p.t < q'.t) = false := by simp at hlo ⊢; omega
       refine Det0.nil (fun w9 hJ => ?_)
       go_wp2
       go_ret
       exact ⟨zAj (profOk_at (k := k) (by rw [HP.out]; exact hlt) (by rw [HO9.out]; simp only [Q.ok, Q.same, hlo', Bool.false_and, Bool.and_false, Bool.not_true, Bool.true_and])).symm, zAc HWB.out hJ⟩
    ·have hk9 : k = n := by omega
     subst hk9
     have HA := Lib.hid hall
     have HB := Lib.hid hbw
     have hfin : zAx ps = true := profOk_all HP.out HBB.out.1 HBB.out.2 HQ.out HT.out HA.out
     have HF := Lib.hid hfin
     clear hall hbw hfin
     go_wp2
     go_ret
     exact ⟨zAj HF.out.symm, HB.out⟩
  ·have ht' : (q.t == 0) = false := by simp [ht]
   have ht2 : (q.t != 0) = true := by simp [ht]
   have HF := Lib.hid (profOk_head hq ht)
   clear hq hb
   go_enter Tryz.func135, Tryz.ntmps135
   go_wp2_with (go_at_call 54; refine (within_any _ _ _ _).mono ?_; rintro e w' ⟨rfl, rfl⟩; rw [hin])
   go_ret
   exact ⟨zAj HF.out.symm, zAa _ _⟩
 ·have hin : inB n 1 200 = false := by
   simp only [inB, Bool.and_eq_false_iff, decide_eq_false_iff_not]; omega
  have HF := Lib.hid (profOk_len HP.out hb)
  clear hb
  go_enter Tryz.func135, Tryz.ntmps135
  go_wp2_with (go_at_call 54; refine (within_any _ _ _ _).mono ?_; rintro e w' ⟨rfl, rfl⟩; rw [hin])
  go_ret
  exact ⟨zAj HF.out.symm, zAa _ _⟩
set_option maxHeartbeats 4000000 in
theorem sprofOk_any (A : Option Addr) (n c : Nat) (ps : List Q) (w : World) (hn : n ≤ 1048576) (hr : Rd w A n 4 (flat ps)) (hl : ∀ g, A = some ⟨g, 0, none⟩ → g < w.heap.size) :
  Calls Tryz.prog 145 #[.agg #[.slice A n c]] w fun e w' => e = .returned (.bool (zAx ps)) ∧ Below w.heap.size w w' := by
 have hpl : ps.length = n := by have := hr.1; rw [flat_len] at this; omega
 have hm : n ≤ 9223372036854775807 := by omega
 have HN := Lib.hid hn
 have HR := Lib.hid hr
 have HL := Lib.hid hl
 have HP := Lib.hid hpl
 clear hn hr hl hpl
 by_cases hb : 1 ≤ n ∧ n ≤ 200
 ·obtain ⟨g, q, rfl, hq, c0, c1, c2, c3⟩ := HR.out.q (show 0 < n by omega)
  have hlo1 : ¬ ((n:Int) < 1) := by omega
  have hhi1 : ¬ ((200:Int) < n) := by omega
  have hg := HL.out g rfl
  have hn0 : 0 < n := by omega
  have HBB := Lib.hid hb
  simp only [Nat.zero_mul, Nat.zero_add] at c0 c1 c2 c3
  by_cases ht : q.t = 0
  ·rw [ht] at c0
   have HQ := Lib.hid hq
   have HT := Lib.hid ht
   clear hq ht hb
   have hni : (0:Int) < (n:Int) := by omega
   go_enter Tryz.func145, Tryz.ntmps145
   go_wp2_with fail
   go_loopw [26] (fun i wr => ∃ k : Nat, k ≤ n ∧ i = .int .i64 k ∧ Below w.heap.size w wr ∧ w.heap.size < wr.heap.size ∧ wr.cell? ⟨w.heap.size, 0, none⟩ = some (.slice (some ⟨g, 0, none⟩) n c) ∧ wr.frozen? ⟨w.heap.size, 0, none⟩ = false ∧ ∀ j, j < k → ptOk ps j = true) (fun i _ => n - (intOf i).toNat)
   case atStart => exact ⟨0, Nat.zero_le _, rfl, (Below.refl _ _).alloc (Nat.le_refl _) _, by simp, by simp [go_sem], by simp [go_sem], by intro j hj; omega⟩
   case round =>
    obtain ⟨k, hk, rfl, hbw, hsz, hbox, hfz, hall⟩ := hrel
    by_cases hlt : k < n
    ·have hlt' : (k : Int) < n := by omega
     obtain ⟨g', q', hg', hq', d0, d1, d2, d3⟩ := HR.out.q hlt
     simp only [Option.some.injEq, Addr.mk.injEq] at hg'
     obtain ⟨rfl, -⟩ := hg'
     have D0 := (hbw.cell (p := ⟨g, k * 4, none⟩) hg).trans d0
     have D1 := (hbw.cell (p := ⟨g, k * 4 + 1, none⟩) hg).trans d1
     have D2 := (hbw.cell (p := ⟨g, k * 4 + 2, none⟩) hg).trans d2
     have D3 := (hbw.cell (p := ⟨g, k * 4 + 3, none⟩) hg).trans d3
     have hgr : g < wr.heap.size := Nat.lt_of_lt_of_le hg hbw.size
     have HA := Lib.hid hall
     have HB := Lib.hid hbw
     clear d0 d1 d2 d3 hall hbw
     by_cases hk0 : k = 0
     ·have hkn : ¬ ((0:Int) < k) := by omega
      have hkd : decide (0 < k) = false := by simp; omega
      have HO : ptOk ps k = q'.ok := by unfold ptOk; rw [hq']; simp [hk0]
      have HK0 := Lib.hid hk0
      clear hq' hk0
      go_wp2
      refine wp_region_below (by kernel_rfl) (by kernel_rfl) (fun W hW => ?_)
      have W0 : W.cell? ⟨wr.heap.size, 0, none⟩ = some (.int .i64 q'.t) := by rw [hW]; simp [go_sem]
      have W1 : W.cell? ⟨wr.heap.size, 1, none⟩ = some (.int .i64 q'.a) := by rw [hW]; simp [go_sem]
      have W2 : W.cell? ⟨wr.heap.size, 2, none⟩ = some (.int .i64 q'.b) := by rw [hW]; simp [go_sem]
      have W3 : W.cell? ⟨wr.heap.size, 3, none⟩ = some (.int .i64 q'.c) := by rw [hW]; simp [go_sem]
      have W4 : W.cell? ⟨w.heap.size, 0, none⟩ = some (.slice (some ⟨g, 0, none⟩) n c) := by rw [hW]; simp [go_sem, hbox, World.cell?_alloc_some]
      have W9 : W.frozen? ⟨w.heap.size, 0, none⟩ = false := by rw [hW]; simp [go_sem, hfz, hsz, Nat.ne_of_lt]
      have WB : Below w.heap.size w W := by rw [hW]; exact (zAc HB.out (zAa _ _)).drew
      clear D0 D1 D2 D3
      have WS : wr.heap.size < W.heap.size := by rw [hW]; simp
      have HW := Lib.hid hW
      have HWB := Lib.hid WB
      have HO9 := Lib.hid HO
      clear hW WB HO
      have hz0 : g < W.heap.size := by omega
      have hz1 : w.heap.size < W.heap.size := by omega
      ((try dsimp only); repeat (first | (refine Det0.skip ?_ ?_; (focus (rfl; done)); (try simp only [putA, zgd, zgf, zge])) | (refine Det0.pure ?_ ?_ ?_ ?_; rotate_left; (focus (rfl; done)); (focus ((intro w9 hJ); (have hk0 := fun o => hJ.cell (p := ⟨g, o, none⟩) hz0; have hk1 := fun o => hJ.cell (p := ⟨w.heap.size, o, none⟩) hz1; have hk2 := fun o => hJ.cell (p := ⟨wr.heap.size, o, none⟩) WS); go_simp; (first | with_reducible rfl | exact eq_if3 | exact neq_if3 | skip); done)); (try simp only [putA, zgd, zgf, zge])) | (refine Det0.step ?_ ?_ ?_ ?_; rotate_left; (focus (rfl; done)); (focus ((intro w9 K hJ hK); (have hk0 := fun o => hJ.cell (p := ⟨g, o, none⟩) hz0; have hk1 := fun o => hJ.cell (p := ⟨w.heap.size, o, none⟩) hz1; have hk2 := fun o => hJ.cell (p := ⟨wr.heap.size, o, none⟩) WS); go_simp; (first | (go_at_call 60; refine (sTime_any _ _).mono ?_; rintro e w1 ⟨rfl, rfl⟩; exact hK.out _ hJ) | (go_at_call 172; refine (svecOk_raw _ _ _ _).mono ?_; rintro e w1 ⟨rfl, hb1⟩; exact hK.out _ (zAc hJ hb1))); done)); (try simp only [putA, zgd, zgf, zge]))))
      cases hT : timeB q'.t
      ·((try dsimp only); repeat (first | (refine Det0.skip ?_ ?_; (focus (rfl; done)); (try simp only [putA, zgd, zgf, zge])) | (refine Det0.pure ?_ ?_ ?_ ?_; rotate_left; (focus (rfl; done)); (focus ((intro w9 hJ); (have hk0 := fun o => hJ.cell (p := ⟨g, o, none⟩) hz0; have hk1 := fun o => hJ.cell (p := ⟨w.heap.size, o, none⟩) hz1; have hk2 := fun o => hJ.cell (p := ⟨wr.heap.size, o, none⟩) WS); go_simp; (first | with_reducible rfl | exact eq_if3 | exact neq_if3 | skip); done)); (try simp only [putA, zgd, zgf, zge])) | (refine Det0.step ?_ ?_ ?_ ?_; rotate_left; (focus (rfl; done)); (focus ((intro w9 K hJ hK); (have hk0 := fun o => hJ.cell (p := ⟨g, o, none⟩) hz0; have hk1 := fun o => hJ.cell (p := ⟨w.heap.size, o, none⟩) hz1; have hk2 := fun o => hJ.cell (p := ⟨wr.heap.size, o, none⟩) WS); go_simp; (first | (go_at_call 60; refine (sTime_any _ _).mono ?_; rintro e w1 ⟨rfl, rfl⟩; exact hK.out _ hJ) | (go_at_call 172; refine (svecOk_raw _ _ _ _).mono ?_; rintro e w1 ⟨rfl, hb1⟩; exact hK.out _ (zAc hJ hb1))); done)); (try simp only [putA, zgd, zgf, zge]))))
       refine Det0.nil (fun w9 hJ => ?_)
       go_wp2
       go_ret
       exact ⟨zAj (profOk_at (k := k) (by rw [HP.out]; exact hlt) (by rw [HO9.out]; simp only [Q.ok, Q.same, hT, Bool.false_and, Bool.and_false, Bool.not_true, Bool.true_and])).symm, zAc HWB.out hJ⟩
      ((try dsimp only); repeat (first | (refine Det0.skip ?_ ?_; (focus (rfl; done)); (try simp only [putA, zgd, zgf, zge])) | (refine Det0.pure ?_ ?_ ?_ ?_; rotate_left; (focus (rfl; done)); (focus ((intro w9 hJ); (have hk0 := fun o => hJ.cell (p := ⟨g, o, none⟩) hz0; have hk1 := fun o => hJ.cell (p := ⟨w.heap.size, o, none⟩) hz1; have hk2 := fun o => hJ.cell (p := ⟨wr.heap.size, o, none⟩) WS); go_simp; (first | with_reducible rfl | exact eq_if3 | exact neq_if3 | skip); done)); (try simp only [putA, zgd, zgf, zge])) | (refine Det0.step ?_ ?_ ?_ ?_; rotate_left; (focus (rfl; done)); (focus ((intro w9 K hJ hK); (have hk0 := fun o => hJ.cell (p := ⟨g, o, none⟩) hz0; have hk1 := fun o => hJ.cell (p := ⟨w.heap.size, o, none⟩) hz1; have hk2 := fun o => hJ.cell (p := ⟨wr.heap.size, o, none⟩) WS); go_simp; (first | (go_at_call 60; refine (sTime_any _ _).mono ?_; rintro e w1 ⟨rfl, rfl⟩; exact hK.out _ hJ) | (go_at_call 172; refine (svecOk_raw _ _ _ _).mono ?_; rintro e w1 ⟨rfl, hb1⟩; exact hK.out _ (zAc hJ hb1))); done)); (try simp only [putA, zgd, zgf, zge]))))
      cases hV : vecOkB q'.a q'.b q'.c
      ·((try dsimp only); repeat (first | (refine Det0.skip ?_ ?_; (focus (rfl; done)); (try simp only [putA, zgd, zgf, zge])) | (refine Det0.pure ?_ ?_ ?_ ?_; rotate_left; (focus (rfl; done)); (focus ((intro w9 hJ); (have hk0 := fun o => hJ.cell (p := ⟨g, o, none⟩) hz0; have hk1 := fun o => hJ.cell (p := ⟨w.heap.size, o, none⟩) hz1; have hk2 := fun o => hJ.cell (p := ⟨wr.heap.size, o, none⟩) WS); go_simp; (first | with_reducible rfl | exact eq_if3 | exact neq_if3 | skip); done)); (try simp only [putA, zgd, zgf, zge])) | (refine Det0.step ?_ ?_ ?_ ?_; rotate_left; (focus (rfl; done)); (focus ((intro w9 K hJ hK); (have hk0 := fun o => hJ.cell (p := ⟨g, o, none⟩) hz0; have hk1 := fun o => hJ.cell (p := ⟨w.heap.size, o, none⟩) hz1; have hk2 := fun o => hJ.cell (p := ⟨wr.heap.size, o, none⟩) WS); go_simp; (first | (go_at_call 60; refine (sTime_any _ _).mono ?_; rintro e w1 ⟨rfl, rfl⟩; exact hK.out _ hJ) | (go_at_call 172; refine (svecOk_raw _ _ _ _).mono ?_; rintro e w1 ⟨rfl, hb1⟩; exact hK.out _ (zAc hJ hb1))); done)); (try simp only [putA, zgd, zgf, zge]))))
       refine Det0.nil (fun w9 hJ => ?_)
       go_wp2
       go_ret
       exact ⟨zAj (profOk_at (k := k) (by rw [HP.out]; exact hlt) (by rw [HO9.out]; simp only [Q.ok, Q.same, hV, Bool.false_and, Bool.and_false, Bool.not_true, Bool.true_and])).symm, zAc HWB.out hJ⟩
      ·((try dsimp only); repeat (first | (refine Det0.skip ?_ ?_; (focus (rfl; done)); (try simp only [putA, zgd, zgf, zge])) | (refine Det0.pure ?_ ?_ ?_ ?_; rotate_left; (focus (rfl; done)); (focus ((intro w9 hJ); (have hk0 := fun o => hJ.cell (p := ⟨g, o, none⟩) hz0; have hk1 := fun o => hJ.cell (p := ⟨w.heap.size, o, none⟩) hz1; have hk2 := fun o => hJ.cell (p := ⟨wr.heap.size, o, none⟩) WS); go_simp; (first | with_reducible rfl | exact eq_if3 | exact neq_if3 | skip); done)); (try simp only [putA, zgd, zgf, zge])) | (refine Det0.step ?_ ?_ ?_ ?_; rotate_left; (focus (rfl; done)); (focus ((intro w9 K hJ hK); (have hk0 := fun o => hJ.cell (p := ⟨g, o, none⟩) hz0; have hk1 := fun o => hJ.cell (p := ⟨w.heap.size, o, none⟩) hz1; have hk2 := fun o => hJ.cell (p := ⟨wr.heap.size, o, none⟩) WS); go_simp; (first | (go_at_call 60; refine (sTime_any _ _).mono ?_; rintro e w1 ⟨rfl, rfl⟩; exact hK.out _ hJ) | (go_at_call 172; refine (svecOk_raw _ _ _ _).mono ?_; rintro e w1 ⟨rfl, hb1⟩; exact hK.out _ (zAc hJ hb1))); done)); (try simp only [putA, zgd, zgf, zge]))))
       refine Det0.nil (fun w9 hJ => ?_)
       have hk0 := fun o => hJ.cell (p := ⟨w.heap.size, o, none⟩) hz1
       have hk1 := fun o => hJ.frozen (p := ⟨w.heap.size, o, none⟩) hz1
       have hk2 := hJ.size
       go_wp2
       go_roundw
       case rel =>
        refine ⟨k + 1, by omega, by go_num, zAc HWB.out hJ, by omega, by rw [hk0, W4], by rw [hk1, W9], ?_⟩
        intro j hj
        rcases Nat.lt_or_ge j k with h | h
        ·exact HA.out j h
        ·have : j = k := by omega
         rw [this, HO9.out]; simp only [Q.ok, Q.same, hT, hV, Bool.and_true, Bool.true_and, Bool.not_false]
       case measure => simp [intOf]; omega
     ·have hk1 : (0:Int) < k := by omega
      have hkb : (k:Int) - 1 < n := by omega
      have hkn : 0 < k := by omega
      have hkd : decide (0 < k) = true := by simp; omega
      have hkc : k - 1 < n := by omega
      obtain ⟨g'', p, hg'', hp, e0, e1, e2, e3⟩ := HR.out.q hkc
      simp only [Option.some.injEq, Addr.mk.injEq] at hg''
      obtain ⟨rfl, -⟩ := hg''
      have E0 := (HB.out.cell (p := ⟨g, (k - 1) * 4, none⟩) hg).trans e0
      have E1 := (HB.out.cell (p := ⟨g, (k - 1) * 4 + 1, none⟩) hg).trans e1
      have E2 := (HB.out.cell (p := ⟨g, (k - 1) * 4 + 2, none⟩) hg).trans e2
      have E3 := (HB.out.cell (p := ⟨g, (k - 1) * 4 + 3, none⟩) hg).trans e3
      clear e0 e1 e2 e3
      have HO : ptOk ps k = (q'.ok && (decide (p.t < q'.t) && !p.same q')) := by simp [ptOk, hq', hp, hk0]
      clear hq' hp
      go_wp2
      have hwr : IntKind.i64.wrap ((k:Int) - 1) = ((k - 1 : Nat) : Int) := by rw [show ((k - 1 : Nat) : Int) = (k : Int) - 1 by omega]; exact IntWalk.i64_in _ (by omega)
      refine wp_region_below (by kernel_rfl) (by kernel_rfl) (fun W hW => ?_)
      have W0 : W.cell? ⟨wr.heap.size, 0, none⟩ = some (.int .i64 q'.t) := by rw [hW]; simp [go_sem]
      have W1 : W.cell? ⟨wr.heap.size, 1, none⟩ = some (.int .i64 q'.a) := by rw [hW]; simp [go_sem]
      have W2 : W.cell? ⟨wr.heap.size, 2, none⟩ = some (.int .i64 q'.b) := by rw [hW]; simp [go_sem]
      have W3 : W.cell? ⟨wr.heap.size, 3, none⟩ = some (.int .i64 q'.c) := by rw [hW]; simp [go_sem]
      have W4 : W.cell? ⟨w.heap.size, 0, none⟩ = some (.slice (some ⟨g, 0, none⟩) n c) := by rw [hW]; simp [go_sem, hbox, World.cell?_alloc_some]
      have W9 : W.frozen? ⟨w.heap.size, 0, none⟩ = false := by rw [hW]; simp [go_sem, hfz, hsz, Nat.ne_of_lt]
      have WB : Below w.heap.size w W := by rw [hW]; exact (zAc HB.out (zAa _ _)).drew
      have W5 : W.cell? ⟨g, (k - 1) * 4, none⟩ = some (.int .i64 p.t) := by rw [hW]; simp [go_sem, E0, World.cell?_alloc_some]
      have W6 : W.cell? ⟨g, (k - 1) * 4 + 1, none⟩ = some (.int .i64 p.a) := by rw [hW]; simp [go_sem, E1, World.cell?_alloc_some]
      have W7 : W.cell? ⟨g, (k - 1) * 4 + 2, none⟩ = some (.int .i64 p.b) := by rw [hW]; simp [go_sem, E2, World.cell?_alloc_some]
      have W8 : W.cell? ⟨g, (k - 1) * 4 + 3, none⟩ = some (.int .i64 p.c) := by rw [hW]; simp [go_sem, E3, World.cell?_alloc_some]
      clear D0 D1 D2 D3 E0 E1 E2 E3
      have WS : wr.heap.size < W.heap.size := by rw [hW]; simp
      have HW := Lib.hid hW
      have HWB := Lib.hid WB
      have HO9 := Lib.hid HO
      clear hW WB HO
      have hz0 : g < W.heap.size := by omega
      have hz1 : w.heap.size < W.heap.size := by omega
      ((try dsimp only); repeat (first | (refine Det0.skip ?_ ?_; (focus (rfl; done)); (try simp only [putA, zgd, zgf, zge])) | (refine Det0.pure ?_ ?_ ?_ ?_; rotate_left; (focus (rfl; done)); (focus ((intro w9 hJ); (have hk0 := fun o => hJ.cell (p := ⟨g, o, none⟩) hz0; have hk1 := fun o => hJ.cell (p := ⟨w.heap.size, o, none⟩) hz1; have hk2 := fun o => hJ.cell (p := ⟨wr.heap.size, o, none⟩) WS); go_simp; (first | with_reducible rfl | exact eq_if3 | exact neq_if3 | skip); done)); (try simp only [putA, zgd, zgf, zge])) | (refine Det0.step ?_ ?_ ?_ ?_; rotate_left; (focus (rfl; done)); (focus ((intro w9 K hJ hK); (have hk0 := fun o => hJ.cell (p := ⟨g, o, none⟩) hz0; have hk1 := fun o => hJ.cell (p := ⟨w.heap.size, o, none⟩) hz1; have hk2 := fun o => hJ.cell (p := ⟨wr.heap.size, o, none⟩) WS); go_simp; (first | (go_at_call 60; refine (sTime_any _ _).mono ?_; rintro e w1 ⟨rfl, rfl⟩; exact hK.out _ hJ) | (go_at_call 172; refine (svecOk_raw _ _ _ _).mono ?_; rintro e w1 ⟨rfl, hb1⟩; exact hK.out _ (zAc hJ hb1))); done)); (try simp only [putA, zgd, zgf, zge]))))
      cases hT : timeB q'.t
      ·((try dsimp only); repeat (first | (refine Det0.skip ?_ ?_; (focus (rfl; done)); (try simp only [putA, zgd, zgf, zge])) | (refine Det0.pure ?_ ?_ ?_ ?_; rotate_left; (focus (rfl; done)); (focus ((intro w9 hJ); (have hk0 := fun o => hJ.cell (p := ⟨g, o, none⟩) hz0; have hk1 := fun o => hJ.cell (p := ⟨w.heap.size, o, none⟩) hz1; have hk2 := fun o => hJ.cell (p := ⟨wr.heap.size, o, none⟩) WS); go_simp; (first | with_reducible rfl | exact eq_if3 | exact neq_if3 | skip); done)); (try simp only [putA, zgd, zgf, zge])) | (refine Det0.step ?_ ?_ ?_ ?_; rotate_left; (focus (rfl; done)); (focus ((intro w9 K hJ hK); (have hk0 := fun o => hJ.cell (p := ⟨g, o, none⟩) hz0; have hk1 := fun o => hJ.cell (p := ⟨w.heap.size, o, none⟩) hz1; have hk2 := fun o => hJ.cell (p := ⟨wr.heap.size, o, none⟩) WS); go_simp; (first | (go_at_call 60; refine (sTime_any _ _).mono ?_; rintro e w1 ⟨rfl, rfl⟩; exact hK.out _ hJ) | (go_at_call 172; refine (svecOk_raw _ _ _ _).mono ?_; rintro e w1 ⟨rfl, hb1⟩; exact hK.out _ (zAc hJ hb1))); done)); (try simp only [putA, zgd, zgf, zge]))))
       refine Det0.nil (fun w9 hJ => ?_)
       go_wp2
       go_ret
       exact ⟨zAj (profOk_at (k := k) (by rw [HP.out]; exact hlt) (by rw [HO9.out]; simp only [Q.ok, Q.same, hT, Bool.false_and, Bool.and_false, Bool.not_true, Bool.true_and])).symm, zAc HWB.out hJ⟩
      ((try dsimp only); repeat (first | (refine Det0.skip ?_ ?_; (focus (rfl; done)); (try simp only [putA, zgd, zgf, zge])) | (refine Det0.pure ?_ ?_ ?_ ?_; rotate_left; (focus (rfl; done)); (focus ((intro w9 hJ); (have hk0 := fun o => hJ.cell (p := ⟨g, o, none⟩) hz0; have hk1 := fun o => hJ.cell (p := ⟨w.heap.size, o, none⟩) hz1; have hk2 := fun o => hJ.cell (p := ⟨wr.heap.size, o, none⟩) WS); go_simp; (first | with_reducible rfl | exact eq_if3 | exact neq_if3 | skip); done)); (try simp only [putA, zgd, zgf, zge])) | (refine Det0.step ?_ ?_ ?_ ?_; rotate_left; (focus (rfl; done)); (focus ((intro w9 K hJ hK); (have hk0 := fun o => hJ.cell (p := ⟨g, o, none⟩) hz0; have hk1 := fun o => hJ.cell (p := ⟨w.heap.size, o, none⟩) hz1; have hk2 := fun o => hJ.cell (p := ⟨wr.heap.size, o, none⟩) WS); go_simp; (first | (go_at_call 60; refine (sTime_any _ _).mono ?_; rintro e w1 ⟨rfl, rfl⟩; exact hK.out _ hJ) | (go_at_call 172; refine (svecOk_raw _ _ _ _).mono ?_; rintro e w1 ⟨rfl, hb1⟩; exact hK.out _ (zAc hJ hb1))); done)); (try simp only [putA, zgd, zgf, zge]))))
      cases hV : vecOkB q'.a q'.b q'.c
      ·((try dsimp only); repeat (first | (refine Det0.skip ?_ ?_; (focus (rfl; done)); (try simp only [putA, zgd, zgf, zge])) | (refine Det0.pure ?_ ?_ ?_ ?_; rotate_left; (focus (rfl; done)); (focus ((intro w9 hJ); (have hk0 := fun o => hJ.cell (p := ⟨g, o, none⟩) hz0; have hk1 := fun o => hJ.cell (p := ⟨w.heap.size, o, none⟩) hz1; have hk2 := fun o => hJ.cell (p := ⟨wr.heap.size, o, none⟩) WS); go_simp; (first | with_reducible rfl | exact eq_if3 | exact neq_if3 | skip); done)); (try simp only [putA, zgd, zgf, zge])) | (refine Det0.step ?_ ?_ ?_ ?_; rotate_left; (focus (rfl; done)); (focus ((intro w9 K hJ hK); (have hk0 := fun o => hJ.cell (p := ⟨g, o, none⟩) hz0; have hk1 := fun o => hJ.cell (p := ⟨w.heap.size, o, none⟩) hz1; have hk2 := fun o => hJ.cell (p := ⟨wr.heap.size, o, none⟩) WS); go_simp; (first | (go_at_call 60; refine (sTime_any _ _).mono ?_; rintro e w1 ⟨rfl, rfl⟩; exact hK.out _ hJ) | (go_at_call 172; refine (svecOk_raw _ _ _ _).mono ?_; rintro e w1 ⟨rfl, hb1⟩; exact hK.out _ (zAc hJ hb1))); done)); (try simp only [putA, zgd, zgf, zge]))))
       refine Det0.nil (fun w9 hJ => ?_)
       go_wp2
       go_ret
       exact ⟨zAj (profOk_at (k := k) (by rw [HP.out]; exact hlt) (by rw [HO9.out]; simp only [Q.ok, Q.same, hV, Bool.false_and, Bool.and_false, Bool.not_true, Bool.true_and])).symm, zAc HWB.out hJ⟩
      ((try dsimp only); repeat (first | (refine Det0.skip ?_ ?_; (focus (rfl; done)); (try simp only [putA, zgd, zgf, zge])) | (refine Det0.pure ?_ ?_ ?_ ?_; rotate_left; (focus (rfl; done)); (focus ((intro w9 hJ); (have hk0 := fun o => hJ.cell (p := ⟨g, o, none⟩) hz0; have hk1 := fun o => hJ.cell (p := ⟨w.heap.size, o, none⟩) hz1; have hk2 := fun o => hJ.cell (p := ⟨wr.heap.size, o, none⟩) WS); go_simp; (first | with_reducible rfl | exact eq_if3 | exact neq_if3 | skip); done)); (try simp only [putA, zgd, zgf, zge])) | (refine Det0.step ?_ ?_ ?_ ?_; rotate_left; (focus (rfl; done)); (focus ((intro w9 K hJ hK); (have hk0 := fun o => hJ.cell (p := ⟨g, o, none⟩) hz0; have hk1 := fun o => hJ.cell (p := ⟨w.heap.size, o, none⟩) hz1; have hk2 := fun o => hJ.cell (p := ⟨wr.heap.size, o, none⟩) WS); go_simp; (first | (go_at_call 60; refine (sTime_any _ _).mono ?_; rintro e w1 ⟨rfl, rfl⟩; exact hK.out _ hJ) | (go_at_call 172; refine (svecOk_raw _ _ _ _).mono ?_; rintro e w1 ⟨rfl, hb1⟩; exact hK.out _ (zAc hJ hb1))); done)); (try simp only [putA, zgd, zgf, zge]))))
      cases hlo : decide (q'.t ≤ p.t)
      ·have hlo' : decide (p.t < q'.t) = true := by simp at hlo ⊢; omega
       ((try dsimp only); repeat (first | (refine Det0.skip ?_ ?_; (focus (rfl; done)); (try simp only [putA, zgd, zgf, zge])) | (refine Det0.pure ?_ ?_ ?_ ?_; rotate_left; (focus (rfl; done)); (focus ((intro w9 hJ); (have hk0 := fun o => hJ.cell (p := ⟨g, o, none⟩) hz0; have hk1 := fun o => hJ.cell (p := ⟨w.heap.size, o, none⟩) hz1; have hk2 := fun o => hJ.cell (p := ⟨wr.heap.size, o, none⟩) WS); go_simp; (first | with_reducible rfl | exact eq_if3 | exact neq_if3 | skip); done)); (try simp only [putA, zgd, zgf, zge])) | (refine Det0.step ?_ ?_ ?_ ?_; rotate_left; (focus (rfl; done)); (focus ((intro w9 K hJ hK); (have hk0 := fun o => hJ.cell (p := ⟨g, o, none⟩) hz0; have hk1 := fun o => hJ.cell (p := ⟨w.heap.size, o, none⟩) hz1; have hk2 := fun o => hJ.cell (p := ⟨wr.heap.size, o, none⟩) WS); go_simp; (first | (go_at_call 60; refine (sTime_any _ _).mono ?_; rintro e w1 ⟨rfl, rfl⟩; exact hK.out _ hJ) | (go_at_call 172; refine (svecOk_raw _ _ _ _).mono ?_; rintro e w1 ⟨rfl, hb1⟩; exact hK.out _ (zAc hJ hb1))); done)); (try simp only [putA, zgd, zgf, zge]))))
       cases hs : (p.a == q'.a && p.b == q'.b && p.c == q'.c)
       ·((try dsimp only); repeat (first | (refine Det0.skip ?_ ?_; (focus (rfl; done)); (try simp only [putA, zgd, zgf, zge])) | (refine Det0.pure ?_ ?_ ?_ ?_; rotate_left; (focus (rfl; done)); (focus ((intro w9 hJ); (have hk0 := fun o => hJ.cell (p := ⟨g, o, none⟩) hz0; have hk1 := fun o => hJ.cell (p := ⟨w.heap.size, o, none⟩) hz1; have hk2 := fun o => hJ.cell (p := ⟨wr.heap.size, o, none⟩) WS); go_simp; (first | with_reducible rfl | exact eq_if3 | exact neq_if3 | skip); done)); (try simp only [putA, zgd, zgf, zge])) | (refine Det0.step ?_ ?_ ?_ ?_; rotate_left; (focus (rfl; done)); (focus ((intro w9 K hJ hK); (have hk0 := fun o => hJ.cell (p := ⟨g, o, none⟩) hz0; have hk1 := fun o => hJ.cell (p := ⟨w.heap.size, o, none⟩) hz1; have hk2 := fun o => hJ.cell (p := ⟨wr.heap.size, o, none⟩) WS); go_simp; (first | (go_at_call 60; refine (sTime_any _ _).mono ?_; rintro e w1 ⟨rfl, rfl⟩; exact hK.out _ hJ) | (go_at_call 172; refine (svecOk_raw _ _ _ _).mono ?_; rintro e w1 ⟨rfl, hb1⟩; exact hK.out _ (zAc hJ hb1))); done)); (try simp only [putA, zgd, zgf, zge]))))
        refine Det0.nil (fun w9 hJ => ?_)
        have hk0 := fun o => hJ.cell (p := ⟨w.heap.size, o, none⟩) hz1
        have hk1 := fun o => hJ.frozen (p := ⟨w.heap.size, o, none⟩) hz1
        have hk2 := hJ.size
        go_wp2
        go_roundw
        case rel =>
         refine ⟨k + 1, by omega, by go_num, zAc HWB.out hJ, by omega, by rw [hk0, W4], by rw [hk1, W9], ?_⟩
         intro j hj
         rcases Nat.lt_or_ge j k with h | h
         ·exact HA.out j h
         ·have : j = k := by omega
          rw [this, HO9.out]; simp only [Q.ok, Q.same, hT, hV, hlo', hs, Bool.and_true, Bool.true_and, Bool.not_false]
        case measure => simp [intOf]; omega
       ·((try dsimp only); repeat (first | (refine Det0.skip ?_ ?_; (focus (rfl; done)); (try simp only [putA, zgd, zgf, zge])) | (refine Det0.pure ?_ ?_ ?_ ?_; rotate_left; (focus (rfl; done)); (focus ((intro w9 hJ); (have hk0 := fun o => hJ.cell (p := ⟨g, o, none⟩) hz0; have hk1 := fun o => hJ.cell (p := ⟨w.heap.size, o, none⟩) hz1; have hk2 := fun o => hJ.cell (p := ⟨wr.heap.size, o, none⟩) WS); go_simp; (first | with_reducible rfl | exact eq_if3 | exact neq_if3 | skip); done)); (try simp only [putA, zgd, zgf, zge])) | (refine Det0.step ?_ ?_ ?_ ?_; rotate_left; (focus (rfl; done)); (focus ((intro w9 K hJ hK); (have hk0 := fun o => hJ.cell (p := ⟨g, o, none⟩) hz0; have hk1 := fun o => hJ.cell (p := ⟨w.heap.size, o, none⟩) hz1; have hk2 := fun o => hJ.cell (p := ⟨wr.heap.size, o, none⟩) WS); go_simp; (first | (go_at_call 60; refine (sTime_any _ _).mono ?_; rintro e w1 ⟨rfl, rfl⟩; exact hK.out _ hJ) | (go_at_call 172; refine (svecOk_raw _ _ _ _).mono ?_; rintro e w1 ⟨rfl, hb1⟩; exact hK.out _ (zAc hJ hb1))); done)); (try simp only [putA, zgd, zgf, zge]))))
        refine Det0.nil (fun w9 hJ => ?_)
        go_wp2
        go_ret
        exact ⟨zAj (profOk_at (k := k) (by rw [HP.out]; exact hlt) (by rw [HO9.out]; simp only [Q.ok, Q.same, hs, Bool.false_and, Bool.and_false, Bool.not_true, Bool.true_and])).symm, zAc HWB.out hJ⟩
      ·((try dsimp only); repeat (first | (refine Det0.skip ?_ ?_; (focus (rfl; done)); (try simp only [putA, zgd, zgf, zge])) | (refine Det0.pure ?_ ?_ ?_ ?_; rotate_left; (focus (rfl; done)); (focus ((intro w9 hJ); (have hk0 := fun o => hJ.cell (p := ⟨g, o, none⟩) hz0; have hk1 := fun o => hJ.cell (p := ⟨w.heap.size, o, none⟩) hz1; have hk2 := fun o => hJ.cell (p := ⟨wr.heap.size, o, none⟩) WS); go_simp; (first | with_reducible rfl | exact eq_if3 | exact neq_if3 | skip); done)); (try simp only [putA, zgd, zgf, zge])) | (refine Det0.step ?_ ?_ ?_ ?_; rotate_left; (focus (rfl; done)); (focus ((intro w9 K hJ hK); (have hk0 := fun o => hJ.cell (p := ⟨g, o, none⟩) hz0; have hk1 := fun o => hJ.cell (p := ⟨w.heap.size, o, none⟩) hz1; have hk2 := fun o => hJ.cell (p := ⟨wr.heap.size, o, none⟩) WS); go_simp; (first | (go_at_call 60; refine (sTime_any _ _).mono ?_; rintro e w1 ⟨rfl, rfl⟩; exact hK.out _ hJ) | (go_at_call 172; refine (svecOk_raw _ _ _ _).mono ?_; rintro e w1 ⟨rfl, hb1⟩; exact hK.out _ (zAc hJ hb1))); done)); (try simp only [putA, zgd, zgf, zge]))))
       have hlo' : decide (p.t < q'.t) = false := by simp at hlo ⊢; omega
       refine Det0.nil (fun w9 hJ => ?_)
       go_wp2
       go_ret
       exact ⟨zAj (profOk_at (k := k) (by rw [HP.out]; exact hlt) (by rw [HO9.out]; simp only [Q.ok, Q.same, hlo', Bool.false_and, Bool.and_false, Bool.not_true, Bool.true_and])).symm, zAc HWB.out hJ⟩
    ·have hk9 : k = n := by omega
     subst hk9
     have HA := Lib.hid hall
     have HB := Lib.hid hbw
     have hfin : zAx ps = true := profOk_all HP.out HBB.out.1 HBB.out.2 HQ.out HT.out HA.out
     have HF := Lib.hid hfin
     clear hall hbw hfin
     go_wp2
     go_ret
     exact ⟨zAj HF.out.symm, HB.out⟩
  ·have ht' : (q.t == 0) = false := by simp [ht]
   have ht2 : (q.t != 0) = true := by simp [ht]
   have HF := Lib.hid (profOk_head hq ht)
   clear hq hb
   go_enter Tryz.func145, Tryz.ntmps145
   go_wp2_with fail
   go_ret
   exact ⟨zAj HF.out.symm, zAa _ _⟩
 ·have HF := Lib.hid (profOk_len HP.out hb)
  by_cases h0 : n < 1
  ·have hlo1 : (n:Int) < 1 := by omega
   clear hb
   go_enter Tryz.func145, Tryz.ntmps145
   go_wp2
   go_ret
   exact ⟨zAj HF.out.symm, zAa _ _⟩
  ·have hlo1 : ¬ ((n:Int) < 1) := by omega
   have hhi1 : (200:Int) < n := by omega
   clear hb
   go_enter Tryz.func145, Tryz.ntmps145
   go_wp2
   go_ret
   exact ⟨zAj HF.out.symm, zAa _ _⟩
def newP (v : V) : List Q := if v.ok then [⟨0, v.A, v.B, v.C⟩] else []
set_option maxHeartbeats 1000000 in
theorem profNew_any_true (v : V) (w : World) (h : v.ok = true) :
  Calls Tryz.prog 175 #[.agg #[.int .i64 v.A, .int .i64 v.B, .int .i64 v.C]] w fun e w' => ∃ u, e = .returned (.tuple #[.agg #[u], .bool v.ok]) ∧ w'.ownsRow w.heap.size 177 4 u (newP v).length (flat (newP v)) ∧ Below w.heap.size w w' := by
 have h' : vecOkB v.A v.B v.C = true := h
 have H := Lib.hid h
 clear h
 go_enter Tryz.func175, Tryz.ntmps175
 go_wp2_with fail
 refine (vecOk_raw v.A v.B v.C _).mono ?_
 rintro e w1 ⟨rfl, hb1⟩
 have hs1 := hb1.size
 (try simp at hs1)
 have hy10 : w.heap.size < w1.heap.size := by omega
 have hk10 := fun o => hb1.cell (p := ⟨w.heap.size, o, none⟩) zOm
 have hg10 := fun o => hb1.frozen (p := ⟨w.heap.size, o, none⟩) zOm
 have hy11 : w.heap.size + 1 < w1.heap.size := by omega
 have hk11 := fun o => hb1.cell (p := ⟨w.heap.size + 1, o, none⟩) zOm
 have hg11 := fun o => hb1.frozen (p := ⟨w.heap.size + 1, o, none⟩) zOm
 rw [h']
 go_wp2
 (try go_light)
 refine bodyPost_ret (v := .tuple #[.agg #[.slice (some ⟨w1.heap.size, 0, none⟩) 1 1], .bool true]) (by simp [results, Tryz.results175, go_sem, *]) rfl ⟨_, by rw [H.out], ?_, zBe⟩
 have e : newP v = [⟨0, v.A, v.B, v.C⟩] := if_pos H.out
 rw [e]
 refine own_lit (lo := w.heap.size) (cs := [.int .i64 0, .int .i64 v.A, .int .i64 v.B, .int .i64 v.C]) ?_ (by simp) (by decide) (by omega)
 first
  | exact zAk _ (by simp)
  | (rw [Below.heap_setCell _ _ _ _ (by simp <;> omega)]; exact zAk _ (by simp))
set_option maxHeartbeats 1000000 in
theorem profNew_any_false (v : V) (w : World) (h : v.ok = false) :
  Calls Tryz.prog 175 #[.agg #[.int .i64 v.A, .int .i64 v.B, .int .i64 v.C]] w fun e w' => ∃ u, e = .returned (.tuple #[.agg #[u], .bool v.ok]) ∧ w'.ownsRow w.heap.size 177 4 u (newP v).length (flat (newP v)) ∧ Below w.heap.size w w' := by
 have h' : vecOkB v.A v.B v.C = false := h
 have H := Lib.hid h
 clear h
 go_enter Tryz.func175, Tryz.ntmps175
 go_wp2_with fail
 refine (vecOk_raw v.A v.B v.C _).mono ?_
 rintro e w1 ⟨rfl, hb1⟩
 have hs1 := hb1.size
 (try simp at hs1)
 have hy10 : w.heap.size < w1.heap.size := by omega
 have hk10 := fun o => hb1.cell (p := ⟨w.heap.size, o, none⟩) zOm
 have hg10 := fun o => hb1.frozen (p := ⟨w.heap.size, o, none⟩) zOm
 have hy11 : w.heap.size + 1 < w1.heap.size := by omega
 have hk11 := fun o => hb1.cell (p := ⟨w.heap.size + 1, o, none⟩) zOm
 have hg11 := fun o => hb1.frozen (p := ⟨w.heap.size + 1, o, none⟩) zOm
 rw [h']
 go_wp2
 (try go_light)
 refine bodyPost_ret (v := .tuple #[.agg #[.slice none 0 0], .bool false]) (by simp [results, Tryz.results175, go_sem, *]) rfl ⟨_, by rw [H.out], ?_, zBe⟩
 have e : newP v = [] := if_neg (by rw [H.out]; decide)
 rw [e]
 exact own_nil _ _ _ _
theorem profNew_any (v : V) (w : World) :
  Calls Tryz.prog 175 #[.agg #[.int .i64 v.A, .int .i64 v.B, .int .i64 v.C]] w fun e w' => ∃ u, e = .returned (.tuple #[.agg #[u], .bool v.ok]) ∧ w'.ownsRow w.heap.size 177 4 u (newP v).length (flat (newP v)) ∧ Below w.heap.size w w' := by
 cases h : v.ok
 ·rw [← h]; exact profNew_any_false v w h
 ·rw [← h]; exact profNew_any_true v w h
set_option maxHeartbeats 1000000 in
theorem sprofNew_any_true (v : V) (w : World) (h : v.ok = true) :
  Calls Tryz.prog 173 #[.agg #[.int .i64 v.A, .int .i64 v.B, .int .i64 v.C]] w fun e w' => ∃ u, e = .returned (.tuple #[.agg #[u], .bool v.ok]) ∧ w'.ownsRow w.heap.size 177 4 u (newP v).length (flat (newP v)) ∧ Below w.heap.size w w' := by
 have h' : vecOkB v.A v.B v.C = true := h
 have H := Lib.hid h
 clear h
 go_enter Tryz.func173, Tryz.ntmps173
 go_wp2_with fail
 refine (svecOk_raw v.A v.B v.C _).mono ?_
 rintro e w1 ⟨rfl, hb1⟩
 have hs1 := hb1.size
 (try simp at hs1)
 have hy10 : w.heap.size < w1.heap.size := by omega
 have hk10 := fun o => hb1.cell (p := ⟨w.heap.size, o, none⟩) zOm
 have hg10 := fun o => hb1.frozen (p := ⟨w.heap.size, o, none⟩) zOm
 have hy11 : w.heap.size + 1 < w1.heap.size := by omega
 have hk11 := fun o => hb1.cell (p := ⟨w.heap.size + 1, o, none⟩) zOm
 have hg11 := fun o => hb1.frozen (p := ⟨w.heap.size + 1, o, none⟩) zOm
 rw [h']
 go_wp2
 (try go_light)
 refine bodyPost_ret (v := .tuple #[.agg #[.slice (some ⟨w1.heap.size, 0, none⟩) 1 1], .bool true]) (by simp [results, Tryz.results173, go_sem, *]) rfl ⟨_, by rw [H.out], ?_, zBe⟩
 have e : newP v = [⟨0, v.A, v.B, v.C⟩] := if_pos H.out
 rw [e]
 refine own_lit (lo := w.heap.size) (cs := [.int .i64 0, .int .i64 v.A, .int .i64 v.B, .int .i64 v.C]) ?_ (by simp) (by decide) (by omega)
 first
  | exact zAk _ (by simp)
  | (rw [Below.heap_setCell _ _ _ _ (by simp <;> omega)]; exact zAk _ (by simp))
set_option maxHeartbeats 1000000 in
theorem sprofNew_any_false (v : V) (w : World) (h : v.ok = false) :
  Calls Tryz.prog 173 #[.agg #[.int .i64 v.A, .int .i64 v.B, .int .i64 v.C]] w fun e w' => ∃ u, e = .returned (.tuple #[.agg #[u], .bool v.ok]) ∧ w'.ownsRow w.heap.size 177 4 u (newP v).length (flat (newP v)) ∧ Below w.heap.size w w' := by
 have h' : vecOkB v.A v.B v.C = false := h
 have H := Lib.hid h
 clear h
 go_enter Tryz.func173, Tryz.ntmps173
 go_wp2_with fail
 refine (svecOk_raw v.A v.B v.C _).mono ?_
 rintro e w1 ⟨rfl, hb1⟩
 have hs1 := hb1.size
 (try simp at hs1)
 have hy10 : w.heap.size < w1.heap.size := by omega
 have hk10 := fun o => hb1.cell (p := ⟨w.heap.size, o, none⟩) zOm
 have hg10 := fun o => hb1.frozen (p := ⟨w.heap.size, o, none⟩) zOm
 have hy11 : w.heap.size + 1 < w1.heap.size := by omega
 have hk11 := fun o => hb1.cell (p := ⟨w.heap.size + 1, o, none⟩) zOm
 have hg11 := fun o => hb1.frozen (p := ⟨w.heap.size + 1, o, none⟩) zOm
 rw [h']
 go_wp2
 (try go_light)
 refine bodyPost_ret (v := .tuple #[.agg #[.slice none 0 0], .bool false]) (by simp [results, Tryz.results173, go_sem, *]) rfl ⟨_, by rw [H.out], ?_, zBe⟩
 have e : newP v = [] := if_neg (by rw [H.out]; decide)
 rw [e]
 exact own_nil _ _ _ _
theorem sprofNew_any (v : V) (w : World) :
  Calls Tryz.prog 173 #[.agg #[.int .i64 v.A, .int .i64 v.B, .int .i64 v.C]] w fun e w' => ∃ u, e = .returned (.tuple #[.agg #[u], .bool v.ok]) ∧ w'.ownsRow w.heap.size 177 4 u (newP v).length (flat (newP v)) ∧ Below w.heap.size w w' := by
 cases h : v.ok
 ·rw [← h]; exact sprofNew_any_false v w h
 ·rw [← h]; exact sprofNew_any_true v w h
theorem foldl_step {α β : Type} (f : β → α → β) (b : β) {l : List α} {k : Nat} {x : α} (h : l[k]? = some x) : (l.take (k + 1)).foldl f b = f ((l.take k).foldl f b) x := by
 rw [List.take_add_one, h]; simp
theorem take_all {α : Type} {l : List α} {k : Nat} (h : l.length = k) : l.take k = l := List.take_of_length_le (by omega)
set_option maxHeartbeats 4000000 in
theorem free_any (A : Option Addr) (n c : Nat) (ps : List Q) (t : Int) (w : World) (hn : n ≤ 1048576) (hr : Rd w A n 4 (flat ps)) (hl : ∀ g, A = some ⟨g, 0, none⟩ → g < w.heap.size) :
  Calls Tryz.prog 197 #[.agg #[.slice A n c], .int .i64 t] w fun e w' => e = .returned (.agg #[.int .i64 (freeV t ps).A, .int .i64 (freeV t ps).B, .int .i64 (freeV t ps).C]) ∧ Below w.heap.size w w' := by
 have hpl : ps.length = n := by have := hr.1; rw [flat_len] at this; omega
 have hm : n ≤ 9223372036854775807 := by omega
 have HN := Lib.hid hn
 have HR := Lib.hid hr
 have HL := Lib.hid hl
 have HP := Lib.hid hpl
 clear hn hr hl hpl
 go_enter Tryz.func197, Tryz.ntmps197
 go_wp2_with fail
 go_loopw [12] (fun i wr => ∃ k : Nat, k ≤ n ∧ i = .int .i64 k ∧ Below w.heap.size w wr ∧ w.heap.size + 1 + 1 < wr.heap.size ∧ wr.cell? ⟨w.heap.size + 1 + 1, 0, none⟩ = some (.int .i64 ((ps.take k).foldl (freeF t) V.zero).A) ∧ wr.cell? ⟨w.heap.size + 1 + 1, 1, none⟩ = some (.int .i64 ((ps.take k).foldl (freeF t) V.zero).B) ∧ wr.cell? ⟨w.heap.size + 1 + 1, 2, none⟩ = some (.int .i64 ((ps.take k).foldl (freeF t) V.zero).C) ∧ wr.frozen? ⟨w.heap.size + 1 + 1, 0, none⟩ = false ∧ wr.frozen? ⟨w.heap.size + 1 + 1, 1, none⟩ = false ∧ wr.frozen? ⟨w.heap.size + 1 + 1, 2, none⟩ = false ∧ wr.frozen? ⟨w.heap.size + 1, 0, none⟩ = false ∧ wr.frozen? ⟨w.heap.size + 1, 1, none⟩ = false ∧ wr.frozen? ⟨w.heap.size + 1, 2, none⟩ = false ∧ wr.cell? ⟨w.heap.size + 1, 0, none⟩ = some (.int .i64 0) ∧ wr.cell? ⟨w.heap.size + 1, 1, none⟩ = some (.int .i64 0) ∧ wr.cell? ⟨w.heap.size + 1, 2, none⟩ = some (.int .i64 0)) (fun i _ => n - (intOf i).toNat)
 case atStart => refine ⟨0, Nat.zero_le _, rfl, (by repeat (first | exact Below.refl _ _ | assumption | exact zAc (by assumption) (by assumption) | (refine zAc ?_ (zAa _ _)) | (refine zAc ?_ (by assumption)) | (refine Below.setCell ?_ (by simp <;> omega) _) | refine Below.drew ?_)), ?_⟩; (simp [go_sem, V.zero])
 case round =>
  obtain ⟨k, hk, rfl, hbw, hsz, v0, v1, v2, f0, f1, f2, f3, f4, f5, r0, r1, r2⟩ := hrel
  have hsz1 : w.heap.size + 1 < wr.heap.size := by omega
  by_cases hlt : k < n
  ·have hlt' : (k : Int) < n := by omega
   obtain ⟨g, q, rfl, hq, d0, d1, d2, d3⟩ := HR.out.q hlt
   have hg := HL.out g rfl
   have D0 := (hbw.cell (p := ⟨g, k * 4, none⟩) hg).trans d0
   have D1 := (hbw.cell (p := ⟨g, k * 4 + 1, none⟩) hg).trans d1
   have D2 := (hbw.cell (p := ⟨g, k * 4 + 2, none⟩) hg).trans d2
   have D3 := (hbw.cell (p := ⟨g, k * 4 + 3, none⟩) hg).trans d3
   have hgr : g < wr.heap.size := Nat.lt_of_lt_of_le hg hbw.size
   have hst := foldl_step (freeF t) V.zero hq
   have HS := Lib.hid hst
   have HB := Lib.hid hbw
   clear d0 d1 d2 d3 hst hq hbw
   by_cases hle : q.t ≤ t
   ·have hfr : freeF t ((ps.take k).foldl (freeF t) V.zero) q = q.v := if_pos hle
    have HF := Lib.hid hfr
    clear hfr
    go_wp2
    go_roundw
    case rel =>
     refine ⟨k + 1, by omega, by go_num, ?_, ?_⟩
     ·have := HB.out; repeat (first | exact Below.refl _ _ | assumption | exact zAc (by assumption) (by assumption) | (refine zAc ?_ (zAa _ _)) | (refine zAc ?_ (by assumption)) | (refine Below.setCell ?_ (by simp <;> omega) _) | refine Below.drew ?_)
     ·rw [HS.out, HF.out]; simp [go_sem, Q.v, *]
    case measure => simp [intOf]; omega
   ·have hfr : freeF t ((ps.take k).foldl (freeF t) V.zero) q = (ps.take k).foldl (freeF t) V.zero := if_neg hle
    have hle' : t < q.t := by omega
    have HF := Lib.hid hfr
    clear hfr hle
    go_wp2
    go_roundw
    case rel =>
     refine ⟨k + 1, by omega, by go_num, ?_, ?_⟩
     ·have := HB.out; repeat (first | exact Below.refl _ _ | assumption | exact zAc (by assumption) (by assumption) | (refine zAc ?_ (zAa _ _)) | (refine zAc ?_ (by assumption)) | (refine Below.setCell ?_ (by simp <;> omega) _) | refine Below.drew ?_)
     ·rw [HS.out, HF.out]; simp [go_sem, *]
    case measure => simp [intOf]; omega
  ·have hk9 : k = n := by omega
   subst hk9
   rw [take_all HP.out] at v0 v1 v2
   have HB := Lib.hid hbw
   clear hbw
   go_wp2
   (try go_light)
   refine bodyPost_ret (v := .agg #[.int .i64 (freeV t ps).A, .int .i64 (freeV t ps).B, .int .i64 (freeV t ps).C]) (by simp [results, Tryz.results197, go_sem, freeV, *]) rfl ⟨rfl, ?_⟩
   have := HB.out; repeat (first | exact Below.refl _ _ | assumption | exact zAc (by assumption) (by assumption) | (refine zAc ?_ (zAa _ _)) | (refine zAc ?_ (by assumption)) | (refine Below.setCell ?_ (by simp <;> omega) _) | refine Below.drew ?_)
set_option maxHeartbeats 4000000 in
theorem sfree_any (A : Option Addr) (n c : Nat) (ps : List Q) (t : Int) (w : World) (hn : n ≤ 1048576) (hr : Rd w A n 4 (flat ps)) (hl : ∀ g, A = some ⟨g, 0, none⟩ → g < w.heap.size) :
  Calls Tryz.prog 239 #[.agg #[.slice A n c], .int .i64 t] w fun e w' => e = .returned (.agg #[.int .i64 (freeV t ps).A, .int .i64 (freeV t ps).B, .int .i64 (freeV t ps).C]) ∧ Below w.heap.size w w' := by
 have hpl : ps.length = n := by have := hr.1; rw [flat_len] at this; omega
 have hm : n ≤ 9223372036854775807 := by omega
 have HN := Lib.hid hn
 have HR := Lib.hid hr
 have HL := Lib.hid hl
 have HP := Lib.hid hpl
 clear hn hr hl hpl
 go_enter Tryz.func239, Tryz.ntmps239
 go_wp2_with fail
 go_loopw [12] (fun i wr => ∃ k : Nat, k ≤ n ∧ i = .int .i64 k ∧ Below w.heap.size w wr ∧ w.heap.size + 1 + 1 < wr.heap.size ∧ wr.cell? ⟨w.heap.size + 1 + 1, 0, none⟩ = some (.int .i64 ((ps.take k).foldl (freeF t) V.zero).A) ∧ wr.cell? ⟨w.heap.size + 1 + 1, 1, none⟩ = some (.int .i64 ((ps.take k).foldl (freeF t) V.zero).B) ∧ wr.cell? ⟨w.heap.size + 1 + 1, 2, none⟩ = some (.int .i64 ((ps.take k).foldl (freeF t) V.zero).C) ∧ wr.frozen? ⟨w.heap.size + 1 + 1, 0, none⟩ = false ∧ wr.frozen? ⟨w.heap.size + 1 + 1, 1, none⟩ = false ∧ wr.frozen? ⟨w.heap.size + 1 + 1, 2, none⟩ = false ∧ wr.frozen? ⟨w.heap.size + 1, 0, none⟩ = false ∧ wr.frozen? ⟨w.heap.size + 1, 1, none⟩ = false ∧ wr.frozen? ⟨w.heap.size + 1, 2, none⟩ = false ∧ wr.cell? ⟨w.heap.size + 1, 0, none⟩ = some (.int .i64 0) ∧ wr.cell? ⟨w.heap.size + 1, 1, none⟩ = some (.int .i64 0) ∧ wr.cell? ⟨w.heap.size + 1, 2, none⟩ = some (.int .i64 0)) (fun i _ => n - (intOf i).toNat)
 case atStart => refine ⟨0, Nat.zero_le _, rfl, (by repeat (first | exact Below.refl _ _ | assumption | exact zAc (by assumption) (by assumption) | (refine zAc ?_ (zAa _ _)) | (refine zAc ?_ (by assumption)) | (refine Below.setCell ?_ (by simp <;> omega) _) | refine Below.drew ?_)), ?_⟩; (simp [go_sem, V.zero])
 case round =>
  obtain ⟨k, hk, rfl, hbw, hsz, v0, v1, v2, f0, f1, f2, f3, f4, f5, r0, r1, r2⟩ := hrel
  have hsz1 : w.heap.size + 1 < wr.heap.size := by omega
  by_cases hlt : k < n
  ·have hlt' : (k : Int) < n := by omega
   obtain ⟨g, q, rfl, hq, d0, d1, d2, d3⟩ := HR.out.q hlt
   have hg := HL.out g rfl
   have D0 := (hbw.cell (p := ⟨g, k * 4, none⟩) hg).trans d0
   have D1 := (hbw.cell (p := ⟨g, k * 4 + 1, none⟩) hg).trans d1
   have D2 := (hbw.cell (p := ⟨g, k * 4 + 2, none⟩) hg).trans d2
   have D3 := (hbw.cell (p := ⟨g, k * 4 + 3, none⟩) hg).trans d3
   have hgr : g < wr.heap.size := Nat.lt_of_lt_of_le hg hbw.size
   have hst := foldl_step (freeF t) V.zero hq
   have HS := Lib.hid hst
   have HB := Lib.hid hbw
   clear d0 d1 d2 d3 hst hq hbw
   by_cases hle : q.t ≤ t
   ·have hfr : freeF t ((ps.take k).foldl (freeF t) V.zero) q = q.v := if_pos hle
    have HF := Lib.hid hfr
    clear hfr
    go_wp2
    go_roundw
    case rel =>
     refine ⟨k + 1, by omega, by go_num, ?_, ?_⟩
     ·have := HB.out; repeat (first | exact Below.refl _ _ | assumption | exact zAc (by assumption) (by assumption) | (refine zAc ?_ (zAa _ _)) | (refine zAc ?_ (by assumption)) | (refine Below.setCell ?_ (by simp <;> omega) _) | refine Below.drew ?_)
     ·rw [HS.out, HF.out]; simp [go_sem, Q.v, *]
    case measure => simp [intOf]; omega
   ·have hfr : freeF t ((ps.take k).foldl (freeF t) V.zero) q = (ps.take k).foldl (freeF t) V.zero := if_neg hle
    have hle' : t < q.t := by omega
    have HF := Lib.hid hfr
    clear hfr hle
    go_wp2
    go_roundw
    case rel =>
     refine ⟨k + 1, by omega, by go_num, ?_, ?_⟩
     ·have := HB.out; repeat (first | exact Below.refl _ _ | assumption | exact zAc (by assumption) (by assumption) | (refine zAc ?_ (zAa _ _)) | (refine zAc ?_ (by assumption)) | (refine Below.setCell ?_ (by simp <;> omega) _) | refine Below.drew ?_)
     ·rw [HS.out, HF.out]; simp [go_sem, *]
    case measure => simp [intOf]; omega
  ·have hk9 : k = n := by omega
   subst hk9
   rw [take_all HP.out] at v0 v1 v2
   have HB := Lib.hid hbw
   clear hbw
   go_wp2
   (try go_light)
   refine bodyPost_ret (v := .agg #[.int .i64 (freeV t ps).A, .int .i64 (freeV t ps).B, .int .i64 (freeV t ps).C]) (by simp [results, Tryz.results239, go_sem, freeV, *]) rfl ⟨rfl, ?_⟩
   have := HB.out; repeat (first | exact Below.refl _ _ | assumption | exact zAc (by assumption) (by assumption) | (refine zAc ?_ (zAa _ _)) | (refine zAc ?_ (by assumption)) | (refine Below.setCell ?_ (by simp <;> omega) _) | refine Below.drew ?_)
end Go.Proofs.YtnphjhbfpoekpaaGreat
