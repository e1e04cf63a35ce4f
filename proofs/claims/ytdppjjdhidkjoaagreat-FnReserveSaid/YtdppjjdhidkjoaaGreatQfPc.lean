/-
  Contracts of SameProf.
-/
import Derived.Test.YtdppjjdhidkjoaaGreatA4Pc
import Derived.Test.YtdppjjdhidkjoaaGreatA3Pc
namespace Go.Proofs.YtdppjjdhidkjoaaGreat
set_option linter.unusedSimpArgs false
set_option linter.unusedVariables false
set_option linter.unnecessarySimpa false
open Go.RowKit
def eqQ (p q : Q) : Bool := p.t == q.t && p.a == q.a && p.b == q.b && p.c == q.c
theorem eqQ_iff {p q : Q} : eqQ p q = true ↔ p = q := by
  cases p; cases q; simp [eqQ, and_assoc]
def eqL (a b : List Q) : Bool := decide (a.length = b.length) && (List.range a.length).all fun k => match a[k]?, b[k]? with
  | some p, some q => eqQ p q
  | _, _ => true
theorem eqL_len {a b : List Q} (h : a.length ≠ b.length) : eqL a b = false := by unfold eqL; simp [h]
theorem eqL_at {a b : List Q} {k : Nat} {p q : Q} (hp : a[k]? = some p) (hq : b[k]? = some q) (h : eqQ p q = false) : eqL a b = false := by
  unfold eqL
  have hk : k < a.length := (List.getElem?_eq_some_iff.1 hp).1
  have : ((List.range a.length).all fun k => match a[k]?, b[k]? with
    | some p, some q => eqQ p q
    | _, _ => true) = false := by
    rw [List.all_eq_false]
    exact ⟨k, List.mem_range.2 hk, by simp [hp, hq, h]⟩
  rw [this, Bool.and_false]
theorem eqL_all {a b : List Q} (hl : a.length = b.length) (h : ∀ (k : Nat) p q, a[k]? = some p → b[k]? = some q → eqQ p q = true) : eqL a b = true := by
  unfold eqL
  rw [decide_eq_true hl, Bool.true_and, List.all_eq_true]
  intro k hk
  cases hp : a[k]? with
  | none => rfl
  | some p =>
    cases hq : b[k]? with
    | none => rfl
    | some q => exact h k p q hp hq
theorem eqL_self (a : List Q) : eqL a a = true := eqL_all rfl fun k p q hp hq => by
  rw [hp] at hq
  rw [Option.some.inj hq]; exact eqQ_iff.2 rfl
def sameB (a b : List Q) : Bool := profOkB a && profOkB b && eqL a b
theorem neq_if4 {a b c d x y z u : Int} {w : World} : (if a = x then if b = y then if c = z then if d = u then Result.ok (Next.value (Value.bool false)) w else Result.ok (Next.value (Value.bool true)) w else Result.ok (Next.value (Value.bool true)) w else Result.ok (Next.value (Value.bool true)) w else Result.ok (Next.value (Value.bool true)) w) = Result.ok (Next.value (Value.bool (!(a == x && b == y && c == z && d == u)))) w := by
  by_cases h1 : a = x <;> by_cases h2 : b = y <;> by_cases h3 : c = z <;> by_cases h4 : d = u <;> simp [h1, h2, h3, h4]

set_option maxHeartbeats 4000000 in
theorem slEq_any (A B : Option Addr) (n c m d : Nat) (ps qs : List Q) (w : World) (hn : n ≤ 1048576) (hm : m ≤ 1048576) (ha : Rd w A n 4 (flat ps)) (hb : Rd w B m 4 (flat qs)) (hl : ∀ g, A = some ⟨g, 0, none⟩ → g < w.heap.size) (hl' : ∀ g, B = some ⟨g, 0, none⟩ → g < w.heap.size) :
    Calls Tryz.prog 118 #[.slice A n c, .slice B m d] w fun e w' => e = .returned (.bool (eqL ps qs)) ∧ Below w.heap.size w w' := by
  have hpl : ps.length = n := by have := ha.1; rw [flat_len] at this; omega
  have hql : qs.length = m := by have := hb.1; rw [flat_len] at this; omega
  have HN : n ≤ 9223372036854775807 := by omega
  have HM : m ≤ 9223372036854775807 := by omega
  have HA := Lib.hid ha
  have HB := Lib.hid hb
  have HL := Lib.hid hl
  have HL' := Lib.hid hl'
  have HP := Lib.hid hpl
  have HQ := Lib.hid hql
  clear hn hm ha hb hl hl' hpl hql
  by_cases hnm : n = m
  · subst hnm
    go_enter Tryz.func118, Tryz.ntmps118
    go_wp2
    go_loopw [13] (fun i wr => ∃ k : Nat, k ≤ n ∧ i = .int .i64 k ∧ Below w.heap.size w wr ∧ Hid (∀ j p q, j < k → ps[j]? = some p → qs[j]? = some q → eqQ p q = true)) (fun i _ => n - (intOf i).toNat)
    case atStart => exact ⟨0, Nat.zero_le _, rfl, Below.refl _ _, Lib.hid fun j p q hj => absurd hj (by omega)⟩
    case round =>
      obtain ⟨k, hk, rfl, hbw, hall⟩ := hrel
      by_cases hlt : k < n
      · obtain ⟨g, q, rfl, hq, c0, c1, c2, c3⟩ := HA.out.q hlt
        obtain ⟨g', q', rfl, hq', d0, d1, d2, d3⟩ := HB.out.q hlt
        have hg := HL.out g rfl
        have hg' := HL'.out g' rfl
        have C0 := (hbw.cell (p := ⟨g, k * 4, none⟩) hg).trans c0
        have C1 := (hbw.cell (p := ⟨g, k * 4 + 1, none⟩) hg).trans c1
        have C2 := (hbw.cell (p := ⟨g, k * 4 + 2, none⟩) hg).trans c2
        have C3 := (hbw.cell (p := ⟨g, k * 4 + 3, none⟩) hg).trans c3
        have D0 := (hbw.cell (p := ⟨g', k * 4, none⟩) hg').trans d0
        have D1 := (hbw.cell (p := ⟨g', k * 4 + 1, none⟩) hg').trans d1
        have D2 := (hbw.cell (p := ⟨g', k * 4 + 2, none⟩) hg').trans d2
        have D3 := (hbw.cell (p := ⟨g', k * 4 + 3, none⟩) hg').trans d3
        have hgr0 : g < wr.heap.size := Nat.lt_of_lt_of_le hg hbw.size
        have hgr0' : g' < wr.heap.size := Nat.lt_of_lt_of_le hg' hbw.size
        have HQ1 := Lib.hid hq
        have HQ2 := Lib.hid hq'
        clear c0 c1 c2 c3 d0 d1 d2 d3 hq hq'
        have hlt' : (k : Int) < n := by omega
        have hlk : k < n := hlt
        go_wp2
        refine wp_region_below (by kernel_rfl) (by kernel_rfl) (fun W hW => ?_)
        have hgr : g < W.heap.size := by rw [hW]; exact hgr0
        have hgr' : g' < W.heap.size := by rw [hW]; exact hgr0'
        have E0 : W.cell? ⟨g, k * 4, none⟩ = some (.int .i64 q.t) := by rw [hW]; exact C0
        have E1 : W.cell? ⟨g, k * 4 + 1, none⟩ = some (.int .i64 q.a) := by rw [hW]; exact C1
        have E2 : W.cell? ⟨g, k * 4 + 2, none⟩ = some (.int .i64 q.b) := by rw [hW]; exact C2
        have E3 : W.cell? ⟨g, k * 4 + 3, none⟩ = some (.int .i64 q.c) := by rw [hW]; exact C3
        have F0 : W.cell? ⟨g', k * 4, none⟩ = some (.int .i64 q'.t) := by rw [hW]; exact D0
        have F1 : W.cell? ⟨g', k * 4 + 1, none⟩ = some (.int .i64 q'.a) := by rw [hW]; exact D1
        have F2 : W.cell? ⟨g', k * 4 + 2, none⟩ = some (.int .i64 q'.b) := by rw [hW]; exact D2
        have F3 : W.cell? ⟨g', k * 4 + 3, none⟩ = some (.int .i64 q'.c) := by rw [hW]; exact D3
        have HBW := Lib.hid hbw
        have hWB : Below wr.heap.size wr W := by rw [hW]; exact (Below.refl _ _).drew
        have HWB := Lib.hid hWB
        clear hW hWB hbw C0 C1 C2 C3 D0 D1 D2 D3
        ((try dsimp only); repeat (first | (refine Det0.skip ?_ ?_; (focus (rfl; done)); (try simp only [putA, List.setIfInBounds_toArray, List.set_cons_zero, List.set_cons_succ])) | (refine Det0.pure ?_ ?_ ?_ ?_; rotate_left; (focus (rfl; done)); (focus ((intro w9 hJ); (have hk0 := fun o => hJ.cell (p := ⟨g, o, none⟩) hgr; have hk1 := fun o => hJ.cell (p := ⟨g', o, none⟩) hgr'); go_simp; (first | with_reducible rfl | exact eq_if3 | exact neq_if3 | exact neq_if4 | skip); done)); (try simp only [putA, List.setIfInBounds_toArray, List.set_cons_zero, List.set_cons_succ])) | (refine Det0.step ?_ ?_ ?_ ?_; rotate_left; (focus (rfl; done)); (focus ((intro w9 K hJ hK); (have hk0 := fun o => hJ.cell (p := ⟨g, o, none⟩) hgr; have hk1 := fun o => hJ.cell (p := ⟨g', o, none⟩) hgr'); go_simp; (fail); done)); (try simp only [putA, List.setIfInBounds_toArray, List.set_cons_zero, List.set_cons_succ]))))
        refine Det0.nil (fun w9 hJ => ?_)
        have HJ := Lib.hid (bstep (bstep HBW.out HWB.out) hJ)
        clear hJ
        cases he : eqQ q q'
        · have he' : (q.t == q'.t && q.a == q'.a && q.b == q'.b && q.c == q'.c) = false := he
          rw [he']
          have HF := Lib.hid (eqL_at HQ1.out HQ2.out he)
          clear he he'
          go_wp2
          go_ret
          exact ⟨ret_bool HF.out.symm, HJ.out⟩
        · have he' : (q.t == q'.t && q.a == q'.a && q.b == q'.b && q.c == q'.c) = true := he
          rw [he']
          have HE := Lib.hid he
          clear he he'
          go_wp2
          go_roundw
          case rel =>
            refine ⟨k + 1, by omega, by go_num, HJ.out, Lib.hid fun j p r hj hp hr => ?_⟩
            by_cases hjk : j < k
            · exact hall.out j p r hjk hp hr
            · have : j = k := by omega
              subst this
              rw [HQ1.out] at hp
              rw [HQ2.out] at hr
              rw [← Option.some.inj hp, ← Option.some.inj hr]
              exact HE.out
          case measure => simp [intOf]; omega
      · have hk9 : k = n := by omega
        subst hk9
        have HF := Lib.hid (eqL_all (by rw [HP.out, HQ.out]) fun j p q hp hq => hall.out j p q (by have := (List.getElem?_eq_some_iff.1 hp).1; rw [HP.out] at this; exact this) hp hq)
        go_wp2
        go_ret
        exact ⟨ret_bool HF.out.symm, hbw⟩
  · have HF := Lib.hid (eqL_len (a := ps) (b := qs) (by rw [HP.out, HQ.out]; exact hnm))
    have hne : ((n : Int) == m) = false := by simp; omega
    have hne' : ((n : Int) != m) = true := by simp; omega
    go_enter Tryz.func118, Tryz.ntmps118
    go_wp2
    go_ret
    exact ⟨ret_bool HF.out.symm, Below.refl _ _⟩

set_option maxHeartbeats 4000000 in
theorem sameProf_any (A B : Option Addr) (n c m d : Nat) (ps qs : List Q) (w : World) (hn : n ≤ 1048576) (hm : m ≤ 1048576) (ha : Rd w A n 4 (flat ps)) (hb : Rd w B m 4 (flat qs)) (hl : ∀ g, A = some ⟨g, 0, none⟩ → g < w.heap.size) (hl2 : ∀ g, B = some ⟨g, 0, none⟩ → g < w.heap.size) :
    Calls Tryz.prog 34 #[.agg #[.slice A n c], .agg #[.slice B m d]] w fun e w' => e = .returned (.bool (sameB ps qs)) ∧ Below w.heap.size w w' := by
  have hpl : ps.length = n := by have := ha.1; rw [flat_len] at this; omega
  have hql : qs.length = m := by have := hb.1; rw [flat_len] at this; omega
  have hn9 : n ≤ 9223372036854775807 := by omega
  have hm9 : m ≤ 9223372036854775807 := by omega
  have HN := Lib.hid hn
  have HM := Lib.hid hm
  have HA := Lib.hid ha
  have HB := Lib.hid hb
  have HL := Lib.hid hl
  have HL2 := Lib.hid hl2
  have HP := Lib.hid hpl
  have HQ := Lib.hid hql
  clear hn hm ha hb hl hl2 hpl hql
  cases hp : profOkB ps
  · have HF : Hid (sameB ps qs = false) := Lib.hid (by unfold sameB; rw [hp]; rfl)
    go_enter Tryz.func34, Tryz.ntmps34
    go_wp2_with fail
    refine (profOk_any A n c ps _ HN.out (HA.out.below HL.out (by repeat (first | exact Below.refl _ _ | assumption | (refine bstep ?_ (below_drewN _ _)) | exact bstep (by assumption) (by assumption) | (refine bstep ?_ (below_alloc _ _)) | (refine bstep ?_ (by assumption)) | (refine Below.setCell ?_ (by simp <;> omega) _) | refine Below.drew ?_))) (lt_below HL.out (by repeat (first | exact Below.refl _ _ | assumption | (refine bstep ?_ (below_drewN _ _)) | exact bstep (by assumption) (by assumption) | (refine bstep ?_ (below_alloc _ _)) | (refine bstep ?_ (by assumption)) | (refine Below.setCell ?_ (by simp <;> omega) _) | refine Below.drew ?_)))).mono ?_
    rintro e w1 ⟨rfl, hb1⟩
    rw [hp]
    have hs1 := hb1.size
    (try simp at hs1)
    have hy10 : w.heap.size < w1.heap.size := (by omega)
    have hy11 : w.heap.size + 1 < w1.heap.size := (by omega)
    have hk10 := fun o => hb1.cell (p := ⟨w.heap.size, o, none⟩) (by first | omega | (simp <;> omega))
    have hk11 := fun o => hb1.cell (p := ⟨w.heap.size + 1, o, none⟩) (by first | omega | (simp <;> omega))
    go_wp2
    go_ret
    exact ⟨ret_bool HF.out.symm, (by repeat (first | exact Below.refl _ _ | assumption | (refine bstep ?_ (below_drewN _ _)) | exact bstep (by assumption) (by assumption) | (refine bstep ?_ (below_alloc _ _)) | (refine bstep ?_ (by assumption)) | (refine Below.setCell ?_ (by simp <;> omega) _) | refine Below.drew ?_))⟩
  · cases hq : profOkB qs
    · have HF : Hid (sameB ps qs = false) := Lib.hid (by unfold sameB; rw [hp, hq]; rfl)
      go_enter Tryz.func34, Tryz.ntmps34
      go_wp2_with fail
      refine (profOk_any A n c ps _ HN.out (HA.out.below HL.out (by repeat (first | exact Below.refl _ _ | assumption | (refine bstep ?_ (below_drewN _ _)) | exact bstep (by assumption) (by assumption) | (refine bstep ?_ (below_alloc _ _)) | (refine bstep ?_ (by assumption)) | (refine Below.setCell ?_ (by simp <;> omega) _) | refine Below.drew ?_))) (lt_below HL.out (by repeat (first | exact Below.refl _ _ | assumption | (refine bstep ?_ (below_drewN _ _)) | exact bstep (by assumption) (by assumption) | (refine bstep ?_ (below_alloc _ _)) | (refine bstep ?_ (by assumption)) | (refine Below.setCell ?_ (by simp <;> omega) _) | refine Below.drew ?_)))).mono ?_
      rintro e w1 ⟨rfl, hb1⟩
      rw [hp]
      have hs1 := hb1.size
      (try simp at hs1)
      have hy10 : w.heap.size < w1.heap.size := (by omega)
      have hy11 : w.heap.size + 1 < w1.heap.size := (by omega)
      have hk10 := fun o => hb1.cell (p := ⟨w.heap.size, o, none⟩) (by first | omega | (simp <;> omega))
      have hk11 := fun o => hb1.cell (p := ⟨w.heap.size + 1, o, none⟩) (by first | omega | (simp <;> omega))
      go_wp2_with fail
      refine (profOk_any B m d qs _ HM.out (HB.out.below HL2.out (by repeat (first | exact Below.refl _ _ | assumption | (refine bstep ?_ (below_drewN _ _)) | exact bstep (by assumption) (by assumption) | (refine bstep ?_ (below_alloc _ _)) | (refine bstep ?_ (by assumption)) | (refine Below.setCell ?_ (by simp <;> omega) _) | refine Below.drew ?_))) (lt_below HL2.out (by repeat (first | exact Below.refl _ _ | assumption | (refine bstep ?_ (below_drewN _ _)) | exact bstep (by assumption) (by assumption) | (refine bstep ?_ (below_alloc _ _)) | (refine bstep ?_ (by assumption)) | (refine Below.setCell ?_ (by simp <;> omega) _) | refine Below.drew ?_)))).mono ?_
      rintro e w2 ⟨rfl, hb2⟩
      rw [hq]
      have hs2 := hb2.size
      (try simp at hs2)
      have hy20 : w.heap.size < w2.heap.size := (by omega)
      have hy21 : w.heap.size + 1 < w2.heap.size := (by omega)
      have hk20 := fun o => hb2.cell (p := ⟨w.heap.size, o, none⟩) (by first | omega | (simp <;> omega))
      have hk21 := fun o => hb2.cell (p := ⟨w.heap.size + 1, o, none⟩) (by first | omega | (simp <;> omega))
      go_wp2
      go_ret
      exact ⟨ret_bool HF.out.symm, (by repeat (first | exact Below.refl _ _ | assumption | (refine bstep ?_ (below_drewN _ _)) | exact bstep (by assumption) (by assumption) | (refine bstep ?_ (below_alloc _ _)) | (refine bstep ?_ (by assumption)) | (refine Below.setCell ?_ (by simp <;> omega) _) | refine Below.drew ?_))⟩
    · have HF : Hid (sameB ps qs = eqL ps qs) := Lib.hid (by unfold sameB; rw [hp, hq]; rfl)
      go_enter Tryz.func34, Tryz.ntmps34
      go_wp2_with fail
      refine (profOk_any A n c ps _ HN.out (HA.out.below HL.out (by repeat (first | exact Below.refl _ _ | assumption | (refine bstep ?_ (below_drewN _ _)) | exact bstep (by assumption) (by assumption) | (refine bstep ?_ (below_alloc _ _)) | (refine bstep ?_ (by assumption)) | (refine Below.setCell ?_ (by simp <;> omega) _) | refine Below.drew ?_))) (lt_below HL.out (by repeat (first | exact Below.refl _ _ | assumption | (refine bstep ?_ (below_drewN _ _)) | exact bstep (by assumption) (by assumption) | (refine bstep ?_ (below_alloc _ _)) | (refine bstep ?_ (by assumption)) | (refine Below.setCell ?_ (by simp <;> omega) _) | refine Below.drew ?_)))).mono ?_
      rintro e w1 ⟨rfl, hb1⟩
      rw [hp]
      have hs1 := hb1.size
      (try simp at hs1)
      have hy10 : w.heap.size < w1.heap.size := (by omega)
      have hy11 : w.heap.size + 1 < w1.heap.size := (by omega)
      have hk10 := fun o => hb1.cell (p := ⟨w.heap.size, o, none⟩) (by first | omega | (simp <;> omega))
      have hk11 := fun o => hb1.cell (p := ⟨w.heap.size + 1, o, none⟩) (by first | omega | (simp <;> omega))
      go_wp2_with fail
      refine (profOk_any B m d qs _ HM.out (HB.out.below HL2.out (by repeat (first | exact Below.refl _ _ | assumption | (refine bstep ?_ (below_drewN _ _)) | exact bstep (by assumption) (by assumption) | (refine bstep ?_ (below_alloc _ _)) | (refine bstep ?_ (by assumption)) | (refine Below.setCell ?_ (by simp <;> omega) _) | refine Below.drew ?_))) (lt_below HL2.out (by repeat (first | exact Below.refl _ _ | assumption | (refine bstep ?_ (below_drewN _ _)) | exact bstep (by assumption) (by assumption) | (refine bstep ?_ (below_alloc _ _)) | (refine bstep ?_ (by assumption)) | (refine Below.setCell ?_ (by simp <;> omega) _) | refine Below.drew ?_)))).mono ?_
      rintro e w2 ⟨rfl, hb2⟩
      rw [hq]
      have hs2 := hb2.size
      (try simp at hs2)
      have hy20 : w.heap.size < w2.heap.size := (by omega)
      have hy21 : w.heap.size + 1 < w2.heap.size := (by omega)
      have hk20 := fun o => hb2.cell (p := ⟨w.heap.size, o, none⟩) (by first | omega | (simp <;> omega))
      have hk21 := fun o => hb2.cell (p := ⟨w.heap.size + 1, o, none⟩) (by first | omega | (simp <;> omega))
      go_wp2_with fail
      refine (slEq_any A B n c m d ps qs _ HN.out HM.out (HA.out.below HL.out (by repeat (first | exact Below.refl _ _ | assumption | (refine bstep ?_ (below_drewN _ _)) | exact bstep (by assumption) (by assumption) | (refine bstep ?_ (below_alloc _ _)) | (refine bstep ?_ (by assumption)) | (refine Below.setCell ?_ (by simp <;> omega) _) | refine Below.drew ?_))) (HB.out.below HL2.out (by repeat (first | exact Below.refl _ _ | assumption | (refine bstep ?_ (below_drewN _ _)) | exact bstep (by assumption) (by assumption) | (refine bstep ?_ (below_alloc _ _)) | (refine bstep ?_ (by assumption)) | (refine Below.setCell ?_ (by simp <;> omega) _) | refine Below.drew ?_))) (lt_below HL.out (by repeat (first | exact Below.refl _ _ | assumption | (refine bstep ?_ (below_drewN _ _)) | exact bstep (by assumption) (by assumption) | (refine bstep ?_ (below_alloc _ _)) | (refine bstep ?_ (by assumption)) | (refine Below.setCell ?_ (by simp <;> omega) _) | refine Below.drew ?_))) (lt_below HL2.out (by repeat (first | exact Below.refl _ _ | assumption | (refine bstep ?_ (below_drewN _ _)) | exact bstep (by assumption) (by assumption) | (refine bstep ?_ (below_alloc _ _)) | (refine bstep ?_ (by assumption)) | (refine Below.setCell ?_ (by simp <;> omega) _) | refine Below.drew ?_)))).mono ?_
      rintro e w3 ⟨rfl, hb3⟩
      go_wp2
      go_ret
      exact ⟨ret_bool HF.out.symm, (by repeat (first | exact Below.refl _ _ | assumption | (refine bstep ?_ (below_drewN _ _)) | exact bstep (by assumption) (by assumption) | (refine bstep ?_ (below_alloc _ _)) | (refine bstep ?_ (by assumption)) | (refine Below.setCell ?_ (by simp <;> omega) _) | refine Below.drew ?_))⟩

end Go.Proofs.YtdppjjdhidkjoaaGreat
