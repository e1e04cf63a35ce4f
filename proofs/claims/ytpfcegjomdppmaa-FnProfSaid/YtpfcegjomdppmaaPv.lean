/-
  A profile that is changed over a span: adding (reference).
-/
import Derived.Test.YtpfcegjomdppmaaPu
namespace Go.Proofs.Ytpfcegjomdppmaa
set_option linter.unusedSimpArgs false
set_option linter.unusedVariables false
set_option linter.unnecessarySimpa false
open Go.RowKit

set_option maxHeartbeats 8000000 in
set_option maxRecDepth 20000 in
theorem schange_add (A : Option Addr) (n c : Nat) (ps : List Q) (lo hi : Int) (v : V) (w : World) (hn : n ≤ 1048576) (hr : Rd w A n 4 (flat ps)) (hl : ∀ g, A = some ⟨g, 0, none⟩ → g < w.heap.size) (hok : profOkB ps = true) (hsp : spanB lo hi = true) :
    Calls Try.prog 93 #[.agg #[.slice A n c], .int .i64 lo, .int .i64 hi, .agg #[.int .i64 v.A, .int .i64 v.B, .int .i64 v.C], .bool true] w fun e w' => ∃ u, e = .returned (.tuple #[.agg #[u], .bool (cgB ps lo hi (fun y => addV y v) (fun y => addB y v))]) ∧ w'.ownsRow w.heap.size 138 4 u (cgV ps lo hi (fun y => addV y v) (fun y => addB y v)).length (flat (cgV ps lo hi (fun y => addV y v) (fun y => addB y v))) ∧ Below w.heap.size w w' := by
  have hn2 : n ≤ 200 := by
    have h1 := (profOk_parts hok).2.1
    have h2 : ps.length = n := by have := hr.1; rw [flat_len] at this; omega
    omega
  have HOK := Lib.hid hok
  have HSP := Lib.hid hsp
  clear hok hsp
  have hpl : ps.length = n := by have := hr.1; rw [flat_len] at this; omega
  have hm : n ≤ 9223372036854775807 := by omega
  have HN := Lib.hid hn
  have HR := Lib.hid hr
  have HL := Lib.hid hl
  have HP := Lib.hid hpl
  clear hn hr hl hpl
  obtain ⟨FF, hFF⟩ : ∃ FF : V → V, FF = fun y => addV y v := ⟨_, rfl⟩
  obtain ⟨FB, hFB⟩ : ∃ FB : V → Bool, FB = fun y => addB y v := ⟨_, rfl⟩
  rw [← hFF, ← hFB]
  have HFF := Lib.hid hFF
  have HFB := Lib.hid hFB
  clear hFF hFB
  go_enter Try.func93, Try.ntmps93
  go_wp2_with fail
  refine (stimes_any A n c ps lo hi _ HN.out (HR.out.below HL.out (by repeat (first | exact Below.refl _ _ | assumption | (refine bstep ?_ (below_drewN _ _)) | exact bstep (by assumption) (by assumption) | (refine bstep ?_ (below_alloc _ _)) | (refine bstep ?_ (by assumption)) | (refine Below.setCell ?_ (by simp <;> omega) _) | refine Below.drew ?_))) (lt_below HL.out (by repeat (first | exact Below.refl _ _ | assumption | (refine bstep ?_ (below_drewN _ _)) | exact bstep (by assumption) (by assumption) | (refine bstep ?_ (below_alloc _ _)) | (refine bstep ?_ (by assumption)) | (refine Below.setCell ?_ (by simp <;> omega) _) | refine Below.drew ?_)))).mono ?_
  rintro e w1 ⟨u1, rfl, own1, hb1⟩
  have hs1 := hb1.size
  (try simp at hs1)
  obtain ⟨LO, hLO⟩ : ∃ b, b = w.heap.size + 1 + 1 + 1 + 1 := ⟨_, rfl⟩
  obtain ⟨BB, hBB⟩ : ∃ b, b = w.heap.size + 1 + 1 + 1 := ⟨_, rfl⟩
  have hTL := Nat.le_trans (timesL_len ps lo hi) (show ps.length + 2 ≤ n + 2 by have := HP.out; omega)
  have H00 : PB w w1 (w.heap.size + 1 + 1) BB LO u1 (timesL ps lo hi) [] := by
    subst hLO hBB
    refine ⟨⟨none, 0, bx_below (heap_at _ (by simp)) hb1, own_nil _ _ _ _⟩, own_mono own1 (by simp), bx_below (bx_alloc (heap_at _ (by simp)) _) hb1, ?_, by omega⟩
    exact bstep (by repeat (first | exact Below.refl _ _ | assumption | (refine bstep ?_ (below_drewN _ _)) | exact bstep (by assumption) (by assumption) | (refine bstep ?_ (below_alloc _ _)) | (refine bstep ?_ (by assumption)) | (refine Below.setCell ?_ (by simp <;> omega) _) | refine Below.drew ?_)) hb1
  have H01 : P2 w1 (w.heap.size) (w.heap.size + 1) A n c v := ⟨bx_below (bx_alloc (bx_alloc (bx_alloc (heap_at _ (by simp)) _) _) _) hb1, bx_below (bx_alloc (bx_alloc (heap_at _ (by simp)) _) _) hb1⟩
  have T0 := Lib.hid H00
  have P0 := Lib.hid H01
  clear H00 H01
  obtain ⟨A1, c1, rfl, rd1⟩ := own_rd own1
  clear rd1 own1 hb1 hs1
  rw [← hBB]
  have hBB9 : w.heap.size + 1 + 1 + 1 ≤ BB ∧ BB ≤ w.heap.size + 1 + 1 + 1 := by omega
  have hLO9 : w.heap.size ≤ LO ∧ LO ≤ w.heap.size + 1 + 1 + 1 + 1 := by omega
  clear hLO hBB
  obtain ⟨TL, hTLe⟩ : ∃ l, l = timesL ps lo hi := ⟨_, rfl⟩
  rw [← hTLe] at T0 hTL ⊢
  have HTL := Lib.hid hTLe
  clear hTLe
  go_wp2
  go_loopw [24] (fun i wr => ∃ (k : Nat) (out : List Q), k ≤ TL.length ∧ i = .int .i64 k ∧ out.length ≤ k ∧ Hid (out = chL (valAt ps lo hi FF) (TL.take k)) ∧ Hid (okTo ps lo hi FB (TL.take k)) ∧ PB w wr (w.heap.size + 1 + 1) BB LO (.slice A1 TL.length c1) TL out ∧ P2 wr (w.heap.size) (w.heap.size + 1) A n c v) (fun i _ => TL.length - (intOf i).toNat)
  case atStart => exact ⟨0, [], Nat.zero_le _, rfl, Nat.le_refl _, Lib.hid rfl, Lib.hid (fun t ht => by simp at ht), T0.out, P0.out⟩
  case round =>
    clear T0 P0
    obtain ⟨k, out, hk, rfl, hol, HO, HOK2, T', P'⟩ := hrel
    have T := Lib.hid T'
    have P := Lib.hid P'
    clear T' P'
    by_cases hlt : k < TL.length
    · have hlt' : (k : Int) < TL.length := by omega
      obtain ⟨g, x, rfl, hx, cx9⟩ := Rd.int (own_rdd' T.out.tm) hlt
      have hgl := own_blk T.out.tm g rfl
      have HX := Lib.hid hx
      clear hx
      have p0 := bx_cell P.out.pa 0 rfl
      simp only [List.getElem_toArray, List.getElem_cons_zero, List.getElem_cons_succ] at p0
      have hbw := T.out.bel
      have HBW := Lib.hid hbw
      clear hbw
      go_wp2_with fail
      refine (sfree_any A n c ps x _ HN.out (HR.out.below HL.out HBW.out) (lt_below HL.out HBW.out)).mono ?_
      rintro e w2 ⟨rfl, hb2⟩
      have T2 := Lib.hid (T.out.bel' hb2)
      have P2' := Lib.hid (P.out.bel' hb2)
      clear hb2 T P p0 cx9 hgl
      obtain ⟨fv, hfv⟩ : ∃ y, y = freeV x ps := ⟨_, rfl⟩
      rw [← hfv]
      have HFV := Lib.hid hfv
      clear hfv
      by_cases hin : lo ≤ x ∧ x < hi
      · obtain ⟨hin1, hin2⟩ := hin
        have v0 := bx_cell P2'.out.pv 0 rfl
        have v1 := bx_cell P2'.out.pv 1 rfl
        have v2 := bx_cell P2'.out.pv 2 rfl
        simp only [List.getElem_toArray, List.getElem_cons_zero, List.getElem_cons_succ] at v0 v1 v2
        have hlv := heap_lt P2'.out.pv
        go_wp2_with fail
        refine (sadd_raw fv v _).mono ?_
        rintro e w3 ⟨rfl, hb3⟩
        have hs3 := hb3.size
        (try simp at hs3)
        have hy3 : w2.heap.size < w3.heap.size := by omega
        have hk3 := fun o => hb3.cell (p := ⟨w2.heap.size, o, none⟩) (by simp)
        have hg3 := fun o => hb3.frozen (p := ⟨w2.heap.size, o, none⟩) (by simp)
        have T3 := Lib.hid ((T2.out.bel' (below_alloc _ _)).bel' hb3)
        have hrb := heap_lt T2.out.res
        clear v0 v1 v2 hlv
        cases hok : addB fv v
        · have HBF : Hid (cgB ps lo hi FF FB = false) := Lib.hid (by
            unfold cgB
            rw [chg_bad (k := k) (x := x) (by rw [← HTL.out]; exact HX.out) hin1 hin2 (by rw [HFB.out, ← HFV.out]; exact hok)]; rfl)
          clear hok
          have r0 := bx_cell T3.out.res 0 rfl
          have rf := bx_frz T3.out.res
          simp only [List.getElem_toArray, List.getElem_cons_zero, List.getElem_cons_succ] at r0
          go_wp2
          (try go_light)
          refine bodyPost_ret (v := .tuple #[.agg #[.slice none 0 0], .bool false]) (by simp [results, Try.results93, go_sem, *]) rfl ?_
          refine ⟨_, by rw [HBF.out], ?_, ?_⟩
          · unfold cgV; rw [HBF.out]; exact own_nil _ _ _ _
          · exact (by repeat (first | exact T2.out.bel | (with_reducible refine Below.setCell ?_ (by have hq2 := T2.out.bel.size; simp <;> omega) _) | (with_reducible refine bstep ?_ hb3) | (with_reducible refine bstep ?_ (below_alloc _ _))))
        · have HVA : Hid (valAt ps lo hi FF x = addV fv v) := Lib.hid (by rw [valAt_in hin1 hin2, HFF.out, ← HFV.out])
          have HOKN : Hid (okTo ps lo hi FB (TL.take (k + 1))) := Lib.hid (okTo_snoc HOK2.out HX.out (fun _ _ => by rw [HFB.out, ← HFV.out]; exact hok))
          clear hok
          go_upto_region 13 with fail
          have hch : Below w2.heap.size w2 (((w3.setCell ⟨w2.heap.size, 0, none⟩ (.int .i64 (addV fv v).A)).setCell ⟨w2.heap.size, 1, none⟩ (.int .i64 (addV fv v).B)).setCell ⟨w2.heap.size, 2, none⟩ (.int .i64 (addV fv v).C)) := (by repeat (first | exact Below.refl _ _ | (with_reducible refine Below.setCell ?_ (by simp <;> omega) _) | (with_reducible refine bstep ?_ hb3) | (with_reducible refine bstep ?_ (below_alloc _ _))))
          have T5 := Lib.hid (T2.out.bel' hch)
          have P5 := Lib.hid (P2'.out.bel' hch)
          have e0 : (((w3.setCell ⟨w2.heap.size, 0, none⟩ (.int .i64 (addV fv v).A)).setCell ⟨w2.heap.size, 1, none⟩ (.int .i64 (addV fv v).B)).setCell ⟨w2.heap.size, 2, none⟩ (.int .i64 (addV fv v).C)).cell? ⟨w2.heap.size, 0, none⟩ = some (.int .i64 (addV fv v).A) := by simp [go_sem, *]
          have e1 : (((w3.setCell ⟨w2.heap.size, 0, none⟩ (.int .i64 (addV fv v).A)).setCell ⟨w2.heap.size, 1, none⟩ (.int .i64 (addV fv v).B)).setCell ⟨w2.heap.size, 2, none⟩ (.int .i64 (addV fv v).C)).cell? ⟨w2.heap.size, 1, none⟩ = some (.int .i64 (addV fv v).B) := by simp [go_sem, *]
          have e2 : (((w3.setCell ⟨w2.heap.size, 0, none⟩ (.int .i64 (addV fv v).A)).setCell ⟨w2.heap.size, 1, none⟩ (.int .i64 (addV fv v).B)).setCell ⟨w2.heap.size, 2, none⟩ (.int .i64 (addV fv v).C)).cell? ⟨w2.heap.size, 2, none⟩ = some (.int .i64 (addV fv v).C) := by simp [go_sem, *]
          have hbt : w2.heap.size < (((w3.setCell ⟨w2.heap.size, 0, none⟩ (.int .i64 (addV fv v).A)).setCell ⟨w2.heap.size, 1, none⟩ (.int .i64 (addV fv v).B)).setCell ⟨w2.heap.size, 2, none⟩ (.int .i64 (addV fv v).C)).heap.size := by simp; omega
          clear hch hk3 hg3 hb3 T2 T3 P2' hrb hy3 hs3
          generalize (((w3.setCell ⟨w2.heap.size, 0, none⟩ (.int .i64 (addV fv v).A)).setCell ⟨w2.heap.size, 1, none⟩ (.int .i64 (addV fv v).B)).setCell ⟨w2.heap.size, 2, none⟩ (.int .i64 (addV fv v).C)) = w5 at *
          generalize addV fv v = nv at *
          generalize w2.heap.size = bt at *
          obtain ⟨X, cx, h1, h2⟩ := T5.out.bx
          have k0 := bx_cell h1 0 rfl
          have kf := bx_frz h1
          have hlb := heap_lt h1
          simp only [List.getElem_toArray, List.getElem_cons_zero, List.getElem_cons_succ] at k0
          have H1 := Lib.hid h1
          have H2 := Lib.hid h2
          clear h1 h2
          have HPU : Hid (chL (valAt ps lo hi FF) (TL.take (k + 1)) = push out x (nv)) := Lib.hid (by rw [take_snoc' HX.out, chL_snoc, ← HO.out, HVA.out])
          have hlt0 := hol
          cases hgl : out.getLast? with
          | none =>
            have hnil : out = [] := List.getLast?_eq_none_iff.1 hgl
            subst hnil
            clear hgl
            simp only [List.length_nil] at k0 hol
            go_wp2_with fail
            go_quiet (fail)
            obtain ⟨i0, hi9, hz0, hz1, hz2⟩ := info_parts infoPt
            go_wp2_with (at_builtin; refine wpList_append_own _ rfl _ _ 51 rfl (LO) 138 i0 (.agg #[.int .i64 0, .int .i64 0, .int .i64 0, .int .i64 0]) 4 32 Try.underlying51 hi9 hz0 hz1 hz2 rfl (by decide) _ _ _ rfl (own_bel (own_bel H2.out (below_drewN w5 _)) (below_alloc _ _)) ⟨w5.heap.size, 0, none⟩ 1 1 [.int .i64 x, .int .i64 (nv).A, .int .i64 (nv).B, .int .i64 (nv).C] rfl rfl ?ca1 ?ca2 ?ca3 ?ca4 ?ca5 ?_)
            try case ca1 => exact news9 (w := w5.drewN _) (cs := #[.int .i64 x, .int .i64 (nv).A, .int .i64 (nv).B, .int .i64 (nv).C]) rfl
            try case ca1 =>
              intro j y hy
              match j, hy with
              | 0, hy => (simp at hy; subst hy; simp [Addr.add])
              | 1, hy => (simp at hy; subst hy; simp [Addr.add])
              | 2, hy => (simp at hy; subst hy; simp [Addr.add])
              | 3, hy => (simp at hy; subst hy; simp [Addr.add])
            try case ca2 => simp [Value.oneCell']
            case ca3 => unfold maxLen; skip; omega
            case ca4 => skip; omega
            try case ca5 => first | omega | (simp <;> omega)
            intro v6 w6 own6 hg6 _
            have T7' := (T5.out.bel' (bstep (below_drewN w5 nq) (below_alloc (w5.drewN nq) (.cells #[.int .i64 x, .int .i64 (nv).A, .int .i64 (nv).B, .int .i64 (nv).C] 138)))).put (q := mkQ x (nv)) (bx_below H1.out (bstep (below_drewN w5 nq) (below_alloc (w5.drewN nq) (.cells #[.int .i64 x, .int .i64 (nv).A, .int .i64 (nv).B, .int .i64 (nv).C] 138)))) (own_bel H2.out (bstep (below_drewN w5 nq) (below_alloc (w5.drewN nq) (.cells #[.int .i64 x, .int .i64 (nv).A, .int .i64 (nv).B, .int .i64 (nv).C] 138)))) own6 hg6
            have P7' := (P5.out.bel' (bstep (below_drewN w5 nq) (below_alloc (w5.drewN nq) (.cells #[.int .i64 x, .int .i64 (nv).A, .int .i64 (nv).B, .int .i64 (nv).C] 138)))).put (x := v6) (own_bel H2.out (bstep (below_drewN w5 nq) (below_alloc (w5.drewN nq) (.cells #[.int .i64 x, .int .i64 (nv).A, .int .i64 (nv).B, .int .i64 (nv).C] 138)))) hg6 (b := BB) (by omega)
            obtain ⟨X6, c6, rfl, rd6⟩ := own_rd own6
            have e6 := bx_grown (bx_below H1.out (bstep (below_drewN w5 nq) (below_alloc (w5.drewN nq) (.cells #[.int .i64 x, .int .i64 (nv).A, .int .i64 (nv).B, .int .i64 (nv).C] 138)))) hg6 (own_ne (own_bel H2.out (bstep (below_drewN w5 nq) (below_alloc (w5.drewN nq) (.cells #[.int .i64 x, .int .i64 (nv).A, .int .i64 (nv).B, .int .i64 (nv).C] 138)))) (bx_below H1.out (bstep (below_drewN w5 nq) (below_alloc (w5.drewN nq) (.cells #[.int .i64 x, .int .i64 (nv).A, .int .i64 (nv).B, .int .i64 (nv).C] 138)))) (by decide))
            have g0 := bx_cell e6 0 rfl
            have gf := bx_frz e6
            simp only [List.getElem_toArray, List.getElem_cons_zero, List.getElem_cons_succ] at g0
            have T7 := Lib.hid T7'
            have P7 := Lib.hid P7'
            clear T7' P7' rd6 own6 hi9 hz0 hz1 hz2 k0 kf hg6 e6 e0 e1 e2
            go_wp2
            go_roundw
            case rel => exact ⟨k + 1, ([] : List Q) ++ [mkQ x (nv)], by omega, by go_num, by first | (simp; done) | (simp; omega), Lib.hid (by rw [HPU.out, push_nil]), HOKN, T7.out, P7.out⟩
            case measure => simp [intOf]; omega
          | some q =>
            obtain ⟨m, hm⟩ : ∃ m, out.length = m + 1 := by
              cases out with
              | nil => simp at hgl
              | cons a r => exact ⟨r.length, rfl⟩
            have hql : out[m]? = some q := by
              rw [List.getLast?_eq_getElem?, hm] at hgl; simpa using hgl
            have H2m : Hid (w5.ownsRow LO 138 4 (.slice X (m + 1) cx) (m + 1) (flat out)) := Lib.hid (by have := H2.out; rwa [hm] at this)
            obtain ⟨g1, q', rfl, hq', d0, d1, d2, d3⟩ := Rd.q (own_rdd' H2m.out) (k := m) (by omega)
            have hqq : q' = q := by rw [hql] at hq'; exact (Option.some.inj hq').symm
            subst hqq
            have hg1 := own_blk H2m.out g1 rfl
            rw [hm] at k0 hol
            have HM := Lib.hid hm
            have HGL := Lib.hid hgl
            clear hm hql hq' hgl d0
            have hm1 : (m : Int) < (m : Int) + 1 := by omega
            have hm2 : ¬ ((m : Int) + 1 = 0) := by omega
            have hm3 : ((m : Int) + 1 == 0) = false := by simp; omega
            have hm4 : IntKind.i64.wrap ((m : Int) + 1 - 1) = (m : Int) := by rw [IntWalk.i64_in _ (by omega)]; omega
            have hm5 : (0 : Int) ≤ (m : Int) := by omega
            by_cases ha : q'.a = (nv).A
            · by_cases hb : q'.b = (nv).B
              · by_cases hc : q'.c = (nv).C
                · have HSM : Hid (push out x (nv) = out) := Lib.hid (push_same HGL.out ha hb hc)
                  go_wp2_with fail
                  go_quiet (fail)
                  go_wp2
                  go_roundw
                  case rel => exact ⟨k + 1, out, by omega, by go_num, by have := HM.out; omega, Lib.hid (by rw [HPU.out, HSM.out]), HOKN, T5.out.bel' (below_drewN _ _), P5.out.bel' (below_drewN _ _)⟩
                  case measure => simp [intOf]; omega
                · skip
                  go_wp2_with fail
                  go_quiet (fail)
                  obtain ⟨i0, hi9, hz0, hz1, hz2⟩ := info_parts infoPt
                  go_wp2_with (at_builtin; refine wpList_append_own _ rfl _ _ 51 rfl (LO) 138 i0 (.agg #[.int .i64 0, .int .i64 0, .int .i64 0, .int .i64 0]) 4 32 Try.underlying51 hi9 hz0 hz1 hz2 rfl (by decide) _ _ _ rfl (own_bel (own_bel H2m.out (below_drewN w5 _)) (below_alloc _ _)) ⟨w5.heap.size, 0, none⟩ 1 1 [.int .i64 x, .int .i64 (nv).A, .int .i64 (nv).B, .int .i64 (nv).C] rfl rfl ?cb1 ?cb2 ?cb3 ?cb4 ?cb5 ?_)
                  try case cb1 => exact news9 (w := w5.drewN _) (cs := #[.int .i64 x, .int .i64 (nv).A, .int .i64 (nv).B, .int .i64 (nv).C]) rfl
                  try case cb1 =>
                    intro j y hy
                    match j, hy with
                    | 0, hy => (simp at hy; subst hy; simp [Addr.add])
                    | 1, hy => (simp at hy; subst hy; simp [Addr.add])
                    | 2, hy => (simp at hy; subst hy; simp [Addr.add])
                    | 3, hy => (simp at hy; subst hy; simp [Addr.add])
                  try case cb2 => simp [Value.oneCell']
                  case cb3 => unfold maxLen; skip; omega
                  case cb4 => skip; omega
                  try case cb5 => first | omega | (simp <;> omega)
                  intro v6 w6 own6 hg6 _
                  rw [← HM.out] at own6 hg6
                  have T7' := (T5.out.bel' (bstep (below_drewN w5 nq) (below_alloc (w5.drewN nq) (.cells #[.int .i64 x, .int .i64 (nv).A, .int .i64 (nv).B, .int .i64 (nv).C] 138)))).put (q := mkQ x (nv)) (bx_below H1.out (bstep (below_drewN w5 nq) (below_alloc (w5.drewN nq) (.cells #[.int .i64 x, .int .i64 (nv).A, .int .i64 (nv).B, .int .i64 (nv).C] 138)))) (own_bel H2.out (bstep (below_drewN w5 nq) (below_alloc (w5.drewN nq) (.cells #[.int .i64 x, .int .i64 (nv).A, .int .i64 (nv).B, .int .i64 (nv).C] 138)))) own6 hg6
                  have P7' := (P5.out.bel' (bstep (below_drewN w5 nq) (below_alloc (w5.drewN nq) (.cells #[.int .i64 x, .int .i64 (nv).A, .int .i64 (nv).B, .int .i64 (nv).C] 138)))).put (x := v6) (own_bel H2.out (bstep (below_drewN w5 nq) (below_alloc (w5.drewN nq) (.cells #[.int .i64 x, .int .i64 (nv).A, .int .i64 (nv).B, .int .i64 (nv).C] 138)))) hg6 (b := BB) (by omega)
                  obtain ⟨X6, c6, rfl, rd6⟩ := own_rd own6
                  have e6 := bx_grown (bx_below H1.out (bstep (below_drewN w5 nq) (below_alloc (w5.drewN nq) (.cells #[.int .i64 x, .int .i64 (nv).A, .int .i64 (nv).B, .int .i64 (nv).C] 138)))) hg6 (own_ne (own_bel H2.out (bstep (below_drewN w5 nq) (below_alloc (w5.drewN nq) (.cells #[.int .i64 x, .int .i64 (nv).A, .int .i64 (nv).B, .int .i64 (nv).C] 138)))) (bx_below H1.out (bstep (below_drewN w5 nq) (below_alloc (w5.drewN nq) (.cells #[.int .i64 x, .int .i64 (nv).A, .int .i64 (nv).B, .int .i64 (nv).C] 138)))) (by decide))
                  have g0 := bx_cell e6 0 rfl
                  have gf := bx_frz e6
                  simp only [List.getElem_toArray, List.getElem_cons_zero, List.getElem_cons_succ] at g0
                  have T7 := Lib.hid T7'
                  have P7 := Lib.hid P7'
                  clear T7' P7' rd6 own6 hi9 hz0 hz1 hz2 k0 kf hg6 e6 e0 e1 e2
                  go_wp2
                  go_roundw
                  case rel => exact ⟨k + 1, out ++ [mkQ x (nv)], by omega, by go_num, by first | (simp; done) | (simp; omega), Lib.hid (by rw [HPU.out, push_diff HGL.out (fun h => hc h.2.2)]), HOKN, T7.out, P7.out⟩
                  case measure => simp [intOf]; omega
              · skip
                go_wp2_with fail
                go_quiet (fail)
                obtain ⟨i0, hi9, hz0, hz1, hz2⟩ := info_parts infoPt
                go_wp2_with (at_builtin; refine wpList_append_own _ rfl _ _ 51 rfl (LO) 138 i0 (.agg #[.int .i64 0, .int .i64 0, .int .i64 0, .int .i64 0]) 4 32 Try.underlying51 hi9 hz0 hz1 hz2 rfl (by decide) _ _ _ rfl (own_bel (own_bel H2m.out (below_drewN w5 _)) (below_alloc _ _)) ⟨w5.heap.size, 0, none⟩ 1 1 [.int .i64 x, .int .i64 (nv).A, .int .i64 (nv).B, .int .i64 (nv).C] rfl rfl ?cc1 ?cc2 ?cc3 ?cc4 ?cc5 ?_)
                try case cc1 => exact news9 (w := w5.drewN _) (cs := #[.int .i64 x, .int .i64 (nv).A, .int .i64 (nv).B, .int .i64 (nv).C]) rfl
                try case cc1 =>
                  intro j y hy
                  match j, hy with
                  | 0, hy => (simp at hy; subst hy; simp [Addr.add])
                  | 1, hy => (simp at hy; subst hy; simp [Addr.add])
                  | 2, hy => (simp at hy; subst hy; simp [Addr.add])
                  | 3, hy => (simp at hy; subst hy; simp [Addr.add])
                try case cc2 => simp [Value.oneCell']
                case cc3 => unfold maxLen; skip; omega
                case cc4 => skip; omega
                try case cc5 => first | omega | (simp <;> omega)
                intro v6 w6 own6 hg6 _
                rw [← HM.out] at own6 hg6
                have T7' := (T5.out.bel' (bstep (below_drewN w5 nq) (below_alloc (w5.drewN nq) (.cells #[.int .i64 x, .int .i64 (nv).A, .int .i64 (nv).B, .int .i64 (nv).C] 138)))).put (q := mkQ x (nv)) (bx_below H1.out (bstep (below_drewN w5 nq) (below_alloc (w5.drewN nq) (.cells #[.int .i64 x, .int .i64 (nv).A, .int .i64 (nv).B, .int .i64 (nv).C] 138)))) (own_bel H2.out (bstep (below_drewN w5 nq) (below_alloc (w5.drewN nq) (.cells #[.int .i64 x, .int .i64 (nv).A, .int .i64 (nv).B, .int .i64 (nv).C] 138)))) own6 hg6
                have P7' := (P5.out.bel' (bstep (below_drewN w5 nq) (below_alloc (w5.drewN nq) (.cells #[.int .i64 x, .int .i64 (nv).A, .int .i64 (nv).B, .int .i64 (nv).C] 138)))).put (x := v6) (own_bel H2.out (bstep (below_drewN w5 nq) (below_alloc (w5.drewN nq) (.cells #[.int .i64 x, .int .i64 (nv).A, .int .i64 (nv).B, .int .i64 (nv).C] 138)))) hg6 (b := BB) (by omega)
                obtain ⟨X6, c6, rfl, rd6⟩ := own_rd own6
                have e6 := bx_grown (bx_below H1.out (bstep (below_drewN w5 nq) (below_alloc (w5.drewN nq) (.cells #[.int .i64 x, .int .i64 (nv).A, .int .i64 (nv).B, .int .i64 (nv).C] 138)))) hg6 (own_ne (own_bel H2.out (bstep (below_drewN w5 nq) (below_alloc (w5.drewN nq) (.cells #[.int .i64 x, .int .i64 (nv).A, .int .i64 (nv).B, .int .i64 (nv).C] 138)))) (bx_below H1.out (bstep (below_drewN w5 nq) (below_alloc (w5.drewN nq) (.cells #[.int .i64 x, .int .i64 (nv).A, .int .i64 (nv).B, .int .i64 (nv).C] 138)))) (by decide))
                have g0 := bx_cell e6 0 rfl
                have gf := bx_frz e6
                simp only [List.getElem_toArray, List.getElem_cons_zero, List.getElem_cons_succ] at g0
                have T7 := Lib.hid T7'
                have P7 := Lib.hid P7'
                clear T7' P7' rd6 own6 hi9 hz0 hz1 hz2 k0 kf hg6 e6 e0 e1 e2
                go_wp2
                go_roundw
                case rel => exact ⟨k + 1, out ++ [mkQ x (nv)], by omega, by go_num, by first | (simp; done) | (simp; omega), Lib.hid (by rw [HPU.out, push_diff HGL.out (fun h => hb h.2.1)]), HOKN, T7.out, P7.out⟩
                case measure => simp [intOf]; omega
            · skip
              go_wp2_with fail
              go_quiet (fail)
              obtain ⟨i0, hi9, hz0, hz1, hz2⟩ := info_parts infoPt
              go_wp2_with (at_builtin; refine wpList_append_own _ rfl _ _ 51 rfl (LO) 138 i0 (.agg #[.int .i64 0, .int .i64 0, .int .i64 0, .int .i64 0]) 4 32 Try.underlying51 hi9 hz0 hz1 hz2 rfl (by decide) _ _ _ rfl (own_bel (own_bel H2m.out (below_drewN w5 _)) (below_alloc _ _)) ⟨w5.heap.size, 0, none⟩ 1 1 [.int .i64 x, .int .i64 (nv).A, .int .i64 (nv).B, .int .i64 (nv).C] rfl rfl ?cd1 ?cd2 ?cd3 ?cd4 ?cd5 ?_)
              try case cd1 => exact news9 (w := w5.drewN _) (cs := #[.int .i64 x, .int .i64 (nv).A, .int .i64 (nv).B, .int .i64 (nv).C]) rfl
              try case cd1 =>
                intro j y hy
                match j, hy with
                | 0, hy => (simp at hy; subst hy; simp [Addr.add])
                | 1, hy => (simp at hy; subst hy; simp [Addr.add])
                | 2, hy => (simp at hy; subst hy; simp [Addr.add])
                | 3, hy => (simp at hy; subst hy; simp [Addr.add])
              try case cd2 => simp [Value.oneCell']
              case cd3 => unfold maxLen; skip; omega
              case cd4 => skip; omega
              try case cd5 => first | omega | (simp <;> omega)
              intro v6 w6 own6 hg6 _
              rw [← HM.out] at own6 hg6
              have T7' := (T5.out.bel' (bstep (below_drewN w5 nq) (below_alloc (w5.drewN nq) (.cells #[.int .i64 x, .int .i64 (nv).A, .int .i64 (nv).B, .int .i64 (nv).C] 138)))).put (q := mkQ x (nv)) (bx_below H1.out (bstep (below_drewN w5 nq) (below_alloc (w5.drewN nq) (.cells #[.int .i64 x, .int .i64 (nv).A, .int .i64 (nv).B, .int .i64 (nv).C] 138)))) (own_bel H2.out (bstep (below_drewN w5 nq) (below_alloc (w5.drewN nq) (.cells #[.int .i64 x, .int .i64 (nv).A, .int .i64 (nv).B, .int .i64 (nv).C] 138)))) own6 hg6
              have P7' := (P5.out.bel' (bstep (below_drewN w5 nq) (below_alloc (w5.drewN nq) (.cells #[.int .i64 x, .int .i64 (nv).A, .int .i64 (nv).B, .int .i64 (nv).C] 138)))).put (x := v6) (own_bel H2.out (bstep (below_drewN w5 nq) (below_alloc (w5.drewN nq) (.cells #[.int .i64 x, .int .i64 (nv).A, .int .i64 (nv).B, .int .i64 (nv).C] 138)))) hg6 (b := BB) (by omega)
              obtain ⟨X6, c6, rfl, rd6⟩ := own_rd own6
              have e6 := bx_grown (bx_below H1.out (bstep (below_drewN w5 nq) (below_alloc (w5.drewN nq) (.cells #[.int .i64 x, .int .i64 (nv).A, .int .i64 (nv).B, .int .i64 (nv).C] 138)))) hg6 (own_ne (own_bel H2.out (bstep (below_drewN w5 nq) (below_alloc (w5.drewN nq) (.cells #[.int .i64 x, .int .i64 (nv).A, .int .i64 (nv).B, .int .i64 (nv).C] 138)))) (bx_below H1.out (bstep (below_drewN w5 nq) (below_alloc (w5.drewN nq) (.cells #[.int .i64 x, .int .i64 (nv).A, .int .i64 (nv).B, .int .i64 (nv).C] 138)))) (by decide))
              have g0 := bx_cell e6 0 rfl
              have gf := bx_frz e6
              simp only [List.getElem_toArray, List.getElem_cons_zero, List.getElem_cons_succ] at g0
              have T7 := Lib.hid T7'
              have P7 := Lib.hid P7'
              clear T7' P7' rd6 own6 hi9 hz0 hz1 hz2 k0 kf hg6 e6 e0 e1 e2
              go_wp2
              go_roundw
              case rel => exact ⟨k + 1, out ++ [mkQ x (nv)], by omega, by go_num, by first | (simp; done) | (simp; omega), Lib.hid (by rw [HPU.out, push_diff HGL.out (fun h => ha h.1)]), HOKN, T7.out, P7.out⟩
              case measure => simp [intOf]; omega
      · have HVA : Hid (valAt ps lo hi FF x = fv) := Lib.hid (by rw [valAt_out hin, ← HFV.out])
        have HOKN : Hid (okTo ps lo hi FB (TL.take (k + 1))) := Lib.hid (okTo_snoc HOK2.out HX.out (fun h1 h2 => absurd ⟨h1, h2⟩ hin))
        have T5 := Lib.hid (T2.out.bel' (below_alloc w2 (.cells #[.int .i64 fv.A, .int .i64 fv.B, .int .i64 fv.C] 57)))
        have P5 := Lib.hid (P2'.out.bel' (below_alloc w2 (.cells #[.int .i64 fv.A, .int .i64 fv.B, .int .i64 fv.C] 57)))
        have e0 : (w2.alloc (.cells #[.int .i64 fv.A, .int .i64 fv.B, .int .i64 fv.C] 57)).cell? ⟨w2.heap.size, 0, none⟩ = some (.int .i64 fv.A) := by simp [go_sem]
        have e1 : (w2.alloc (.cells #[.int .i64 fv.A, .int .i64 fv.B, .int .i64 fv.C] 57)).cell? ⟨w2.heap.size, 1, none⟩ = some (.int .i64 fv.B) := by simp [go_sem]
        have e2 : (w2.alloc (.cells #[.int .i64 fv.A, .int .i64 fv.B, .int .i64 fv.C] 57)).cell? ⟨w2.heap.size, 2, none⟩ = some (.int .i64 fv.C) := by simp [go_sem]
        have hbt : w2.heap.size < (w2.alloc (.cells #[.int .i64 fv.A, .int .i64 fv.B, .int .i64 fv.C] 57)).heap.size := by simp
        by_cases hin1 : lo ≤ x
        · have hin2 : ¬ x < hi := fun h => hin ⟨hin1, h⟩
          clear hin
          go_upto_region 13 with fail
          clear T2 P2'
          generalize w2.alloc (.cells #[.int .i64 fv.A, .int .i64 fv.B, .int .i64 fv.C] 57) = w5 at *
          generalize w2.heap.size = bt at *
          obtain ⟨X, cx, h1, h2⟩ := T5.out.bx
          have k0 := bx_cell h1 0 rfl
          have kf := bx_frz h1
          have hlb := heap_lt h1
          simp only [List.getElem_toArray, List.getElem_cons_zero, List.getElem_cons_succ] at k0
          have H1 := Lib.hid h1
          have H2 := Lib.hid h2
          clear h1 h2
          have HPU : Hid (chL (valAt ps lo hi FF) (TL.take (k + 1)) = push out x (fv)) := Lib.hid (by rw [take_snoc' HX.out, chL_snoc, ← HO.out, HVA.out])
          have hlt0 := hol
          cases hgl : out.getLast? with
          | none =>
            have hnil : out = [] := List.getLast?_eq_none_iff.1 hgl
            subst hnil
            clear hgl
            simp only [List.length_nil] at k0 hol
            go_wp2_with fail
            go_quiet (fail)
            obtain ⟨i0, hi9, hz0, hz1, hz2⟩ := info_parts infoPt
            go_wp2_with (at_builtin; refine wpList_append_own _ rfl _ _ 51 rfl (LO) 138 i0 (.agg #[.int .i64 0, .int .i64 0, .int .i64 0, .int .i64 0]) 4 32 Try.underlying51 hi9 hz0 hz1 hz2 rfl (by decide) _ _ _ rfl (own_bel (own_bel H2.out (below_drewN w5 _)) (below_alloc _ _)) ⟨w5.heap.size, 0, none⟩ 1 1 [.int .i64 x, .int .i64 (fv).A, .int .i64 (fv).B, .int .i64 (fv).C] rfl rfl ?ca1 ?ca2 ?ca3 ?ca4 ?ca5 ?_)
            try case ca1 => exact news9 (w := w5.drewN _) (cs := #[.int .i64 x, .int .i64 (fv).A, .int .i64 (fv).B, .int .i64 (fv).C]) rfl
            try case ca1 =>
              intro j y hy
              match j, hy with
              | 0, hy => (simp at hy; subst hy; simp [Addr.add])
              | 1, hy => (simp at hy; subst hy; simp [Addr.add])
              | 2, hy => (simp at hy; subst hy; simp [Addr.add])
              | 3, hy => (simp at hy; subst hy; simp [Addr.add])
            try case ca2 => simp [Value.oneCell']
            case ca3 => unfold maxLen; skip; omega
            case ca4 => skip; omega
            try case ca5 => first | omega | (simp <;> omega)
            intro v6 w6 own6 hg6 _
            have T7' := (T5.out.bel' (bstep (below_drewN w5 nq) (below_alloc (w5.drewN nq) (.cells #[.int .i64 x, .int .i64 (fv).A, .int .i64 (fv).B, .int .i64 (fv).C] 138)))).put (q := mkQ x (fv)) (bx_below H1.out (bstep (below_drewN w5 nq) (below_alloc (w5.drewN nq) (.cells #[.int .i64 x, .int .i64 (fv).A, .int .i64 (fv).B, .int .i64 (fv).C] 138)))) (own_bel H2.out (bstep (below_drewN w5 nq) (below_alloc (w5.drewN nq) (.cells #[.int .i64 x, .int .i64 (fv).A, .int .i64 (fv).B, .int .i64 (fv).C] 138)))) own6 hg6
            have P7' := (P5.out.bel' (bstep (below_drewN w5 nq) (below_alloc (w5.drewN nq) (.cells #[.int .i64 x, .int .i64 (fv).A, .int .i64 (fv).B, .int .i64 (fv).C] 138)))).put (x := v6) (own_bel H2.out (bstep (below_drewN w5 nq) (below_alloc (w5.drewN nq) (.cells #[.int .i64 x, .int .i64 (fv).A, .int .i64 (fv).B, .int .i64 (fv).C] 138)))) hg6 (b := BB) (by omega)
            obtain ⟨X6, c6, rfl, rd6⟩ := own_rd own6
            have e6 := bx_grown (bx_below H1.out (bstep (below_drewN w5 nq) (below_alloc (w5.drewN nq) (.cells #[.int .i64 x, .int .i64 (fv).A, .int .i64 (fv).B, .int .i64 (fv).C] 138)))) hg6 (own_ne (own_bel H2.out (bstep (below_drewN w5 nq) (below_alloc (w5.drewN nq) (.cells #[.int .i64 x, .int .i64 (fv).A, .int .i64 (fv).B, .int .i64 (fv).C] 138)))) (bx_below H1.out (bstep (below_drewN w5 nq) (below_alloc (w5.drewN nq) (.cells #[.int .i64 x, .int .i64 (fv).A, .int .i64 (fv).B, .int .i64 (fv).C] 138)))) (by decide))
            have g0 := bx_cell e6 0 rfl
            have gf := bx_frz e6
            simp only [List.getElem_toArray, List.getElem_cons_zero, List.getElem_cons_succ] at g0
            have T7 := Lib.hid T7'
            have P7 := Lib.hid P7'
            clear T7' P7' rd6 own6 hi9 hz0 hz1 hz2 k0 kf hg6 e6 e0 e1 e2
            go_wp2
            go_roundw
            case rel => exact ⟨k + 1, ([] : List Q) ++ [mkQ x (fv)], by omega, by go_num, by first | (simp; done) | (simp; omega), Lib.hid (by rw [HPU.out, push_nil]), HOKN, T7.out, P7.out⟩
            case measure => simp [intOf]; omega
          | some q =>
            obtain ⟨m, hm⟩ : ∃ m, out.length = m + 1 := by
              cases out with
              | nil => simp at hgl
              | cons a r => exact ⟨r.length, rfl⟩
            have hql : out[m]? = some q := by
              rw [List.getLast?_eq_getElem?, hm] at hgl; simpa using hgl
            have H2m : Hid (w5.ownsRow LO 138 4 (.slice X (m + 1) cx) (m + 1) (flat out)) := Lib.hid (by have := H2.out; rwa [hm] at this)
            obtain ⟨g1, q', rfl, hq', d0, d1, d2, d3⟩ := Rd.q (own_rdd' H2m.out) (k := m) (by omega)
            have hqq : q' = q := by rw [hql] at hq'; exact (Option.some.inj hq').symm
            subst hqq
            have hg1 := own_blk H2m.out g1 rfl
            rw [hm] at k0 hol
            have HM := Lib.hid hm
            have HGL := Lib.hid hgl
            clear hm hql hq' hgl d0
            have hm1 : (m : Int) < (m : Int) + 1 := by omega
            have hm2 : ¬ ((m : Int) + 1 = 0) := by omega
            have hm3 : ((m : Int) + 1 == 0) = false := by simp; omega
            have hm4 : IntKind.i64.wrap ((m : Int) + 1 - 1) = (m : Int) := by rw [IntWalk.i64_in _ (by omega)]; omega
            have hm5 : (0 : Int) ≤ (m : Int) := by omega
            by_cases ha : q'.a = (fv).A
            · by_cases hb : q'.b = (fv).B
              · by_cases hc : q'.c = (fv).C
                · have HSM : Hid (push out x (fv) = out) := Lib.hid (push_same HGL.out ha hb hc)
                  go_wp2_with fail
                  go_quiet (fail)
                  go_wp2
                  go_roundw
                  case rel => exact ⟨k + 1, out, by omega, by go_num, by have := HM.out; omega, Lib.hid (by rw [HPU.out, HSM.out]), HOKN, T5.out.bel' (below_drewN _ _), P5.out.bel' (below_drewN _ _)⟩
                  case measure => simp [intOf]; omega
                · skip
                  go_wp2_with fail
                  go_quiet (fail)
                  obtain ⟨i0, hi9, hz0, hz1, hz2⟩ := info_parts infoPt
                  go_wp2_with (at_builtin; refine wpList_append_own _ rfl _ _ 51 rfl (LO) 138 i0 (.agg #[.int .i64 0, .int .i64 0, .int .i64 0, .int .i64 0]) 4 32 Try.underlying51 hi9 hz0 hz1 hz2 rfl (by decide) _ _ _ rfl (own_bel (own_bel H2m.out (below_drewN w5 _)) (below_alloc _ _)) ⟨w5.heap.size, 0, none⟩ 1 1 [.int .i64 x, .int .i64 (fv).A, .int .i64 (fv).B, .int .i64 (fv).C] rfl rfl ?cb1 ?cb2 ?cb3 ?cb4 ?cb5 ?_)
                  try case cb1 => exact news9 (w := w5.drewN _) (cs := #[.int .i64 x, .int .i64 (fv).A, .int .i64 (fv).B, .int .i64 (fv).C]) rfl
                  try case cb1 =>
                    intro j y hy
                    match j, hy with
                    | 0, hy => (simp at hy; subst hy; simp [Addr.add])
                    | 1, hy => (simp at hy; subst hy; simp [Addr.add])
                    | 2, hy => (simp at hy; subst hy; simp [Addr.add])
                    | 3, hy => (simp at hy; subst hy; simp [Addr.add])
                  try case cb2 => simp [Value.oneCell']
                  case cb3 => unfold maxLen; skip; omega
                  case cb4 => skip; omega
                  try case cb5 => first | omega | (simp <;> omega)
                  intro v6 w6 own6 hg6 _
                  rw [← HM.out] at own6 hg6
                  have T7' := (T5.out.bel' (bstep (below_drewN w5 nq) (below_alloc (w5.drewN nq) (.cells #[.int .i64 x, .int .i64 (fv).A, .int .i64 (fv).B, .int .i64 (fv).C] 138)))).put (q := mkQ x (fv)) (bx_below H1.out (bstep (below_drewN w5 nq) (below_alloc (w5.drewN nq) (.cells #[.int .i64 x, .int .i64 (fv).A, .int .i64 (fv).B, .int .i64 (fv).C] 138)))) (own_bel H2.out (bstep (below_drewN w5 nq) (below_alloc (w5.drewN nq) (.cells #[.int .i64 x, .int .i64 (fv).A, .int .i64 (fv).B, .int .i64 (fv).C] 138)))) own6 hg6
                  have P7' := (P5.out.bel' (bstep (below_drewN w5 nq) (below_alloc (w5.drewN nq) (.cells #[.int .i64 x, .int .i64 (fv).A, .int .i64 (fv).B, .int .i64 (fv).C] 138)))).put (x := v6) (own_bel H2.out (bstep (below_drewN w5 nq) (below_alloc (w5.drewN nq) (.cells #[.int .i64 x, .int .i64 (fv).A, .int .i64 (fv).B, .int .i64 (fv).C] 138)))) hg6 (b := BB) (by omega)
                  obtain ⟨X6, c6, rfl, rd6⟩ := own_rd own6
                  have e6 := bx_grown (bx_below H1.out (bstep (below_drewN w5 nq) (below_alloc (w5.drewN nq) (.cells #[.int .i64 x, .int .i64 (fv).A, .int .i64 (fv).B, .int .i64 (fv).C] 138)))) hg6 (own_ne (own_bel H2.out (bstep (below_drewN w5 nq) (below_alloc (w5.drewN nq) (.cells #[.int .i64 x, .int .i64 (fv).A, .int .i64 (fv).B, .int .i64 (fv).C] 138)))) (bx_below H1.out (bstep (below_drewN w5 nq) (below_alloc (w5.drewN nq) (.cells #[.int .i64 x, .int .i64 (fv).A, .int .i64 (fv).B, .int .i64 (fv).C] 138)))) (by decide))
                  have g0 := bx_cell e6 0 rfl
                  have gf := bx_frz e6
                  simp only [List.getElem_toArray, List.getElem_cons_zero, List.getElem_cons_succ] at g0
                  have T7 := Lib.hid T7'
                  have P7 := Lib.hid P7'
                  clear T7' P7' rd6 own6 hi9 hz0 hz1 hz2 k0 kf hg6 e6 e0 e1 e2
                  go_wp2
                  go_roundw
                  case rel => exact ⟨k + 1, out ++ [mkQ x (fv)], by omega, by go_num, by first | (simp; done) | (simp; omega), Lib.hid (by rw [HPU.out, push_diff HGL.out (fun h => hc h.2.2)]), HOKN, T7.out, P7.out⟩
                  case measure => simp [intOf]; omega
              · skip
                go_wp2_with fail
                go_quiet (fail)
                obtain ⟨i0, hi9, hz0, hz1, hz2⟩ := info_parts infoPt
                go_wp2_with (at_builtin; refine wpList_append_own _ rfl _ _ 51 rfl (LO) 138 i0 (.agg #[.int .i64 0, .int .i64 0, .int .i64 0, .int .i64 0]) 4 32 Try.underlying51 hi9 hz0 hz1 hz2 rfl (by decide) _ _ _ rfl (own_bel (own_bel H2m.out (below_drewN w5 _)) (below_alloc _ _)) ⟨w5.heap.size, 0, none⟩ 1 1 [.int .i64 x, .int .i64 (fv).A, .int .i64 (fv).B, .int .i64 (fv).C] rfl rfl ?cc1 ?cc2 ?cc3 ?cc4 ?cc5 ?_)
                try case cc1 => exact news9 (w := w5.drewN _) (cs := #[.int .i64 x, .int .i64 (fv).A, .int .i64 (fv).B, .int .i64 (fv).C]) rfl
                try case cc1 =>
                  intro j y hy
                  match j, hy with
                  | 0, hy => (simp at hy; subst hy; simp [Addr.add])
                  | 1, hy => (simp at hy; subst hy; simp [Addr.add])
                  | 2, hy => (simp at hy; subst hy; simp [Addr.add])
                  | 3, hy => (simp at hy; subst hy; simp [Addr.add])
                try case cc2 => simp [Value.oneCell']
                case cc3 => unfold maxLen; skip; omega
                case cc4 => skip; omega
                try case cc5 => first | omega | (simp <;> omega)
                intro v6 w6 own6 hg6 _
                rw [← HM.out] at own6 hg6
                have T7' := (T5.out.bel' (bstep (below_drewN w5 nq) (below_alloc (w5.drewN nq) (.cells #[.int .i64 x, .int .i64 (fv).A, .int .i64 (fv).B, .int .i64 (fv).C] 138)))).put (q := mkQ x (fv)) (bx_below H1.out (bstep (below_drewN w5 nq) (below_alloc (w5.drewN nq) (.cells #[.int .i64 x, .int .i64 (fv).A, .int .i64 (fv).B, .int .i64 (fv).C] 138)))) (own_bel H2.out (bstep (below_drewN w5 nq) (below_alloc (w5.drewN nq) (.cells #[.int .i64 x, .int .i64 (fv).A, .int .i64 (fv).B, .int .i64 (fv).C] 138)))) own6 hg6
                have P7' := (P5.out.bel' (bstep (below_drewN w5 nq) (below_alloc (w5.drewN nq) (.cells #[.int .i64 x, .int .i64 (fv).A, .int .i64 (fv).B, .int .i64 (fv).C] 138)))).put (x := v6) (own_bel H2.out (bstep (below_drewN w5 nq) (below_alloc (w5.drewN nq) (.cells #[.int .i64 x, .int .i64 (fv).A, .int .i64 (fv).B, .int .i64 (fv).C] 138)))) hg6 (b := BB) (by omega)
                obtain ⟨X6, c6, rfl, rd6⟩ := own_rd own6
                have e6 := bx_grown (bx_below H1.out (bstep (below_drewN w5 nq) (below_alloc (w5.drewN nq) (.cells #[.int .i64 x, .int .i64 (fv).A, .int .i64 (fv).B, .int .i64 (fv).C] 138)))) hg6 (own_ne (own_bel H2.out (bstep (below_drewN w5 nq) (below_alloc (w5.drewN nq) (.cells #[.int .i64 x, .int .i64 (fv).A, .int .i64 (fv).B, .int .i64 (fv).C] 138)))) (bx_below H1.out (bstep (below_drewN w5 nq) (below_alloc (w5.drewN nq) (.cells #[.int .i64 x, .int .i64 (fv).A, .int .i64 (fv).B, .int .i64 (fv).C] 138)))) (by decide))
                have g0 := bx_cell e6 0 rfl
                have gf := bx_frz e6
                simp only [List.getElem_toArray, List.getElem_cons_zero, List.getElem_cons_succ] at g0
                have T7 := Lib.hid T7'
                have P7 := Lib.hid P7'
                clear T7' P7' rd6 own6 hi9 hz0 hz1 hz2 k0 kf hg6 e6 e0 e1 e2
                go_wp2
                go_roundw
                case rel => exact ⟨k + 1, out ++ [mkQ x (fv)], by omega, by go_num, by first | (simp; done) | (simp; omega), Lib.hid (by rw [HPU.out, push_diff HGL.out (fun h => hb h.2.1)]), HOKN, T7.out, P7.out⟩
                case measure => simp [intOf]; omega
            · skip
              go_wp2_with fail
              go_quiet (fail)
              obtain ⟨i0, hi9, hz0, hz1, hz2⟩ := info_parts infoPt
              go_wp2_with (at_builtin; refine wpList_append_own _ rfl _ _ 51 rfl (LO) 138 i0 (.agg #[.int .i64 0, .int .i64 0, .int .i64 0, .int .i64 0]) 4 32 Try.underlying51 hi9 hz0 hz1 hz2 rfl (by decide) _ _ _ rfl (own_bel (own_bel H2m.out (below_drewN w5 _)) (below_alloc _ _)) ⟨w5.heap.size, 0, none⟩ 1 1 [.int .i64 x, .int .i64 (fv).A, .int .i64 (fv).B, .int .i64 (fv).C] rfl rfl ?cd1 ?cd2 ?cd3 ?cd4 ?cd5 ?_)
              try case cd1 => exact news9 (w := w5.drewN _) (cs := #[.int .i64 x, .int .i64 (fv).A, .int .i64 (fv).B, .int .i64 (fv).C]) rfl
              try case cd1 =>
                intro j y hy
                match j, hy with
                | 0, hy => (simp at hy; subst hy; simp [Addr.add])
                | 1, hy => (simp at hy; subst hy; simp [Addr.add])
                | 2, hy => (simp at hy; subst hy; simp [Addr.add])
                | 3, hy => (simp at hy; subst hy; simp [Addr.add])
              try case cd2 => simp [Value.oneCell']
              case cd3 => unfold maxLen; skip; omega
              case cd4 => skip; omega
              try case cd5 => first | omega | (simp <;> omega)
              intro v6 w6 own6 hg6 _
              rw [← HM.out] at own6 hg6
              have T7' := (T5.out.bel' (bstep (below_drewN w5 nq) (below_alloc (w5.drewN nq) (.cells #[.int .i64 x, .int .i64 (fv).A, .int .i64 (fv).B, .int .i64 (fv).C] 138)))).put (q := mkQ x (fv)) (bx_below H1.out (bstep (below_drewN w5 nq) (below_alloc (w5.drewN nq) (.cells #[.int .i64 x, .int .i64 (fv).A, .int .i64 (fv).B, .int .i64 (fv).C] 138)))) (own_bel H2.out (bstep (below_drewN w5 nq) (below_alloc (w5.drewN nq) (.cells #[.int .i64 x, .int .i64 (fv).A, .int .i64 (fv).B, .int .i64 (fv).C] 138)))) own6 hg6
              have P7' := (P5.out.bel' (bstep (below_drewN w5 nq) (below_alloc (w5.drewN nq) (.cells #[.int .i64 x, .int .i64 (fv).A, .int .i64 (fv).B, .int .i64 (fv).C] 138)))).put (x := v6) (own_bel H2.out (bstep (below_drewN w5 nq) (below_alloc (w5.drewN nq) (.cells #[.int .i64 x, .int .i64 (fv).A, .int .i64 (fv).B, .int .i64 (fv).C] 138)))) hg6 (b := BB) (by omega)
              obtain ⟨X6, c6, rfl, rd6⟩ := own_rd own6
              have e6 := bx_grown (bx_below H1.out (bstep (below_drewN w5 nq) (below_alloc (w5.drewN nq) (.cells #[.int .i64 x, .int .i64 (fv).A, .int .i64 (fv).B, .int .i64 (fv).C] 138)))) hg6 (own_ne (own_bel H2.out (bstep (below_drewN w5 nq) (below_alloc (w5.drewN nq) (.cells #[.int .i64 x, .int .i64 (fv).A, .int .i64 (fv).B, .int .i64 (fv).C] 138)))) (bx_below H1.out (bstep (below_drewN w5 nq) (below_alloc (w5.drewN nq) (.cells #[.int .i64 x, .int .i64 (fv).A, .int .i64 (fv).B, .int .i64 (fv).C] 138)))) (by decide))
              have g0 := bx_cell e6 0 rfl
              have gf := bx_frz e6
              simp only [List.getElem_toArray, List.getElem_cons_zero, List.getElem_cons_succ] at g0
              have T7 := Lib.hid T7'
              have P7 := Lib.hid P7'
              clear T7' P7' rd6 own6 hi9 hz0 hz1 hz2 k0 kf hg6 e6 e0 e1 e2
              go_wp2
              go_roundw
              case rel => exact ⟨k + 1, out ++ [mkQ x (fv)], by omega, by go_num, by first | (simp; done) | (simp; omega), Lib.hid (by rw [HPU.out, push_diff HGL.out (fun h => ha h.1)]), HOKN, T7.out, P7.out⟩
              case measure => simp [intOf]; omega
        · clear hin
          go_upto_region 13 with fail
          clear T2 P2'
          generalize w2.alloc (.cells #[.int .i64 fv.A, .int .i64 fv.B, .int .i64 fv.C] 57) = w5 at *
          generalize w2.heap.size = bt at *
          obtain ⟨X, cx, h1, h2⟩ := T5.out.bx
          have k0 := bx_cell h1 0 rfl
          have kf := bx_frz h1
          have hlb := heap_lt h1
          simp only [List.getElem_toArray, List.getElem_cons_zero, List.getElem_cons_succ] at k0
          have H1 := Lib.hid h1
          have H2 := Lib.hid h2
          clear h1 h2
          have HPU : Hid (chL (valAt ps lo hi FF) (TL.take (k + 1)) = push out x (fv)) := Lib.hid (by rw [take_snoc' HX.out, chL_snoc, ← HO.out, HVA.out])
          have hlt0 := hol
          cases hgl : out.getLast? with
          | none =>
            have hnil : out = [] := List.getLast?_eq_none_iff.1 hgl
            subst hnil
            clear hgl
            simp only [List.length_nil] at k0 hol
            go_wp2_with fail
            go_quiet (fail)
            obtain ⟨i0, hi9, hz0, hz1, hz2⟩ := info_parts infoPt
            go_wp2_with (at_builtin; refine wpList_append_own _ rfl _ _ 51 rfl (LO) 138 i0 (.agg #[.int .i64 0, .int .i64 0, .int .i64 0, .int .i64 0]) 4 32 Try.underlying51 hi9 hz0 hz1 hz2 rfl (by decide) _ _ _ rfl (own_bel (own_bel H2.out (below_drewN w5 _)) (below_alloc _ _)) ⟨w5.heap.size, 0, none⟩ 1 1 [.int .i64 x, .int .i64 (fv).A, .int .i64 (fv).B, .int .i64 (fv).C] rfl rfl ?ca1 ?ca2 ?ca3 ?ca4 ?ca5 ?_)
            try case ca1 => exact news9 (w := w5.drewN _) (cs := #[.int .i64 x, .int .i64 (fv).A, .int .i64 (fv).B, .int .i64 (fv).C]) rfl
            try case ca1 =>
              intro j y hy
              match j, hy with
              | 0, hy => (simp at hy; subst hy; simp [Addr.add])
              | 1, hy => (simp at hy; subst hy; simp [Addr.add])
              | 2, hy => (simp at hy; subst hy; simp [Addr.add])
              | 3, hy => (simp at hy; subst hy; simp [Addr.add])
            try case ca2 => simp [Value.oneCell']
            case ca3 => unfold maxLen; skip; omega
            case ca4 => skip; omega
            try case ca5 => first | omega | (simp <;> omega)
            intro v6 w6 own6 hg6 _
            have T7' := (T5.out.bel' (bstep (below_drewN w5 nq) (below_alloc (w5.drewN nq) (.cells #[.int .i64 x, .int .i64 (fv).A, .int .i64 (fv).B, .int .i64 (fv).C] 138)))).put (q := mkQ x (fv)) (bx_below H1.out (bstep (below_drewN w5 nq) (below_alloc (w5.drewN nq) (.cells #[.int .i64 x, .int .i64 (fv).A, .int .i64 (fv).B, .int .i64 (fv).C] 138)))) (own_bel H2.out (bstep (below_drewN w5 nq) (below_alloc (w5.drewN nq) (.cells #[.int .i64 x, .int .i64 (fv).A, .int .i64 (fv).B, .int .i64 (fv).C] 138)))) own6 hg6
            have P7' := (P5.out.bel' (bstep (below_drewN w5 nq) (below_alloc (w5.drewN nq) (.cells #[.int .i64 x, .int .i64 (fv).A, .int .i64 (fv).B, .int .i64 (fv).C] 138)))).put (x := v6) (own_bel H2.out (bstep (below_drewN w5 nq) (below_alloc (w5.drewN nq) (.cells #[.int .i64 x, .int .i64 (fv).A, .int .i64 (fv).B, .int .i64 (fv).C] 138)))) hg6 (b := BB) (by omega)
            obtain ⟨X6, c6, rfl, rd6⟩ := own_rd own6
            have e6 := bx_grown (bx_below H1.out (bstep (below_drewN w5 nq) (below_alloc (w5.drewN nq) (.cells #[.int .i64 x, .int .i64 (fv).A, .int .i64 (fv).B, .int .i64 (fv).C] 138)))) hg6 (own_ne (own_bel H2.out (bstep (below_drewN w5 nq) (below_alloc (w5.drewN nq) (.cells #[.int .i64 x, .int .i64 (fv).A, .int .i64 (fv).B, .int .i64 (fv).C] 138)))) (bx_below H1.out (bstep (below_drewN w5 nq) (below_alloc (w5.drewN nq) (.cells #[.int .i64 x, .int .i64 (fv).A, .int .i64 (fv).B, .int .i64 (fv).C] 138)))) (by decide))
            have g0 := bx_cell e6 0 rfl
            have gf := bx_frz e6
            simp only [List.getElem_toArray, List.getElem_cons_zero, List.getElem_cons_succ] at g0
            have T7 := Lib.hid T7'
            have P7 := Lib.hid P7'
            clear T7' P7' rd6 own6 hi9 hz0 hz1 hz2 k0 kf hg6 e6 e0 e1 e2
            go_wp2
            go_roundw
            case rel => exact ⟨k + 1, ([] : List Q) ++ [mkQ x (fv)], by omega, by go_num, by first | (simp; done) | (simp; omega), Lib.hid (by rw [HPU.out, push_nil]), HOKN, T7.out, P7.out⟩
            case measure => simp [intOf]; omega
          | some q =>
            obtain ⟨m, hm⟩ : ∃ m, out.length = m + 1 := by
              cases out with
              | nil => simp at hgl
              | cons a r => exact ⟨r.length, rfl⟩
            have hql : out[m]? = some q := by
              rw [List.getLast?_eq_getElem?, hm] at hgl; simpa using hgl
            have H2m : Hid (w5.ownsRow LO 138 4 (.slice X (m + 1) cx) (m + 1) (flat out)) := Lib.hid (by have := H2.out; rwa [hm] at this)
            obtain ⟨g1, q', rfl, hq', d0, d1, d2, d3⟩ := Rd.q (own_rdd' H2m.out) (k := m) (by omega)
            have hqq : q' = q := by rw [hql] at hq'; exact (Option.some.inj hq').symm
            subst hqq
            have hg1 := own_blk H2m.out g1 rfl
            rw [hm] at k0 hol
            have HM := Lib.hid hm
            have HGL := Lib.hid hgl
            clear hm hql hq' hgl d0
            have hm1 : (m : Int) < (m : Int) + 1 := by omega
            have hm2 : ¬ ((m : Int) + 1 = 0) := by omega
            have hm3 : ((m : Int) + 1 == 0) = false := by simp; omega
            have hm4 : IntKind.i64.wrap ((m : Int) + 1 - 1) = (m : Int) := by rw [IntWalk.i64_in _ (by omega)]; omega
            have hm5 : (0 : Int) ≤ (m : Int) := by omega
            by_cases ha : q'.a = (fv).A
            · by_cases hb : q'.b = (fv).B
              · by_cases hc : q'.c = (fv).C
                · have HSM : Hid (push out x (fv) = out) := Lib.hid (push_same HGL.out ha hb hc)
                  go_wp2_with fail
                  go_quiet (fail)
                  go_wp2
                  go_roundw
                  case rel => exact ⟨k + 1, out, by omega, by go_num, by have := HM.out; omega, Lib.hid (by rw [HPU.out, HSM.out]), HOKN, T5.out.bel' (below_drewN _ _), P5.out.bel' (below_drewN _ _)⟩
                  case measure => simp [intOf]; omega
                · skip
                  go_wp2_with fail
                  go_quiet (fail)
                  obtain ⟨i0, hi9, hz0, hz1, hz2⟩ := info_parts infoPt
                  go_wp2_with (at_builtin; refine wpList_append_own _ rfl _ _ 51 rfl (LO) 138 i0 (.agg #[.int .i64 0, .int .i64 0, .int .i64 0, .int .i64 0]) 4 32 Try.underlying51 hi9 hz0 hz1 hz2 rfl (by decide) _ _ _ rfl (own_bel (own_bel H2m.out (below_drewN w5 _)) (below_alloc _ _)) ⟨w5.heap.size, 0, none⟩ 1 1 [.int .i64 x, .int .i64 (fv).A, .int .i64 (fv).B, .int .i64 (fv).C] rfl rfl ?cb1 ?cb2 ?cb3 ?cb4 ?cb5 ?_)
                  try case cb1 => exact news9 (w := w5.drewN _) (cs := #[.int .i64 x, .int .i64 (fv).A, .int .i64 (fv).B, .int .i64 (fv).C]) rfl
                  try case cb1 =>
                    intro j y hy
                    match j, hy with
                    | 0, hy => (simp at hy; subst hy; simp [Addr.add])
                    | 1, hy => (simp at hy; subst hy; simp [Addr.add])
                    | 2, hy => (simp at hy; subst hy; simp [Addr.add])
                    | 3, hy => (simp at hy; subst hy; simp [Addr.add])
                  try case cb2 => simp [Value.oneCell']
                  case cb3 => unfold maxLen; skip; omega
                  case cb4 => skip; omega
                  try case cb5 => first | omega | (simp <;> omega)
                  intro v6 w6 own6 hg6 _
                  rw [← HM.out] at own6 hg6
                  have T7' := (T5.out.bel' (bstep (below_drewN w5 nq) (below_alloc (w5.drewN nq) (.cells #[.int .i64 x, .int .i64 (fv).A, .int .i64 (fv).B, .int .i64 (fv).C] 138)))).put (q := mkQ x (fv)) (bx_below H1.out (bstep (below_drewN w5 nq) (below_alloc (w5.drewN nq) (.cells #[.int .i64 x, .int .i64 (fv).A, .int .i64 (fv).B, .int .i64 (fv).C] 138)))) (own_bel H2.out (bstep (below_drewN w5 nq) (below_alloc (w5.drewN nq) (.cells #[.int .i64 x, .int .i64 (fv).A, .int .i64 (fv).B, .int .i64 (fv).C] 138)))) own6 hg6
                  have P7' := (P5.out.bel' (bstep (below_drewN w5 nq) (below_alloc (w5.drewN nq) (.cells #[.int .i64 x, .int .i64 (fv).A, .int .i64 (fv).B, .int .i64 (fv).C] 138)))).put (x := v6) (own_bel H2.out (bstep (below_drewN w5 nq) (below_alloc (w5.drewN nq) (.cells #[.int .i64 x, .int .i64 (fv).A, .int .i64 (fv).B, .int .i64 (fv).C] 138)))) hg6 (b := BB) (by omega)
                  obtain ⟨X6, c6, rfl, rd6⟩ := own_rd own6
                  have e6 := bx_grown (bx_below H1.out (bstep (below_drewN w5 nq) (below_alloc (w5.drewN nq) (.cells #[.int .i64 x, .int .i64 (fv).A, .int .i64 (fv).B, .int .i64 (fv).C] 138)))) hg6 (own_ne (own_bel H2.out (bstep (below_drewN w5 nq) (below_alloc (w5.drewN nq) (.cells #[.int .i64 x, .int .i64 (fv).A, .int .i64 (fv).B, .int .i64 (fv).C] 138)))) (bx_below H1.out (bstep (below_drewN w5 nq) (below_alloc (w5.drewN nq) (.cells #[.int .i64 x, .int .i64 (fv).A, .int .i64 (fv).B, .int .i64 (fv).C] 138)))) (by decide))
                  have g0 := bx_cell e6 0 rfl
                  have gf := bx_frz e6
                  simp only [List.getElem_toArray, List.getElem_cons_zero, List.getElem_cons_succ] at g0
                  have T7 := Lib.hid T7'
                  have P7 := Lib.hid P7'
                  clear T7' P7' rd6 own6 hi9 hz0 hz1 hz2 k0 kf hg6 e6 e0 e1 e2
                  go_wp2
                  go_roundw
                  case rel => exact ⟨k + 1, out ++ [mkQ x (fv)], by omega, by go_num, by first | (simp; done) | (simp; omega), Lib.hid (by rw [HPU.out, push_diff HGL.out (fun h => hc h.2.2)]), HOKN, T7.out, P7.out⟩
                  case measure => simp [intOf]; omega
              · skip
                go_wp2_with fail
                go_quiet (fail)
                obtain ⟨i0, hi9, hz0, hz1, hz2⟩ := info_parts infoPt
                go_wp2_with (at_builtin; refine wpList_append_own _ rfl _ _ 51 rfl (LO) 138 i0 (.agg #[.int .i64 0, .int .i64 0, .int .i64 0, .int .i64 0]) 4 32 Try.underlying51 hi9 hz0 hz1 hz2 rfl (by decide) _ _ _ rfl (own_bel (own_bel H2m.out (below_drewN w5 _)) (below_alloc _ _)) ⟨w5.heap.size, 0, none⟩ 1 1 [.int .i64 x, .int .i64 (fv).A, .int .i64 (fv).B, .int .i64 (fv).C] rfl rfl ?cc1 ?cc2 ?cc3 ?cc4 ?cc5 ?_)
                try case cc1 => exact news9 (w := w5.drewN _) (cs := #[.int .i64 x, .int .i64 (fv).A, .int .i64 (fv).B, .int .i64 (fv).C]) rfl
                try case cc1 =>
                  intro j y hy
                  match j, hy with
                  | 0, hy => (simp at hy; subst hy; simp [Addr.add])
                  | 1, hy => (simp at hy; subst hy; simp [Addr.add])
                  | 2, hy => (simp at hy; subst hy; simp [Addr.add])
                  | 3, hy => (simp at hy; subst hy; simp [Addr.add])
                try case cc2 => simp [Value.oneCell']
                case cc3 => unfold maxLen; skip; omega
                case cc4 => skip; omega
                try case cc5 => first | omega | (simp <;> omega)
                intro v6 w6 own6 hg6 _
                rw [← HM.out] at own6 hg6
                have T7' := (T5.out.bel' (bstep (below_drewN w5 nq) (below_alloc (w5.drewN nq) (.cells #[.int .i64 x, .int .i64 (fv).A, .int .i64 (fv).B, .int .i64 (fv).C] 138)))).put (q := mkQ x (fv)) (bx_below H1.out (bstep (below_drewN w5 nq) (below_alloc (w5.drewN nq) (.cells #[.int .i64 x, .int .i64 (fv).A, .int .i64 (fv).B, .int .i64 (fv).C] 138)))) (own_bel H2.out (bstep (below_drewN w5 nq) (below_alloc (w5.drewN nq) (.cells #[.int .i64 x, .int .i64 (fv).A, .int .i64 (fv).B, .int .i64 (fv).C] 138)))) own6 hg6
                have P7' := (P5.out.bel' (bstep (below_drewN w5 nq) (below_alloc (w5.drewN nq) (.cells #[.int .i64 x, .int .i64 (fv).A, .int .i64 (fv).B, .int .i64 (fv).C] 138)))).put (x := v6) (own_bel H2.out (bstep (below_drewN w5 nq) (below_alloc (w5.drewN nq) (.cells #[.int .i64 x, .int .i64 (fv).A, .int .i64 (fv).B, .int .i64 (fv).C] 138)))) hg6 (b := BB) (by omega)
                obtain ⟨X6, c6, rfl, rd6⟩ := own_rd own6
                have e6 := bx_grown (bx_below H1.out (bstep (below_drewN w5 nq) (below_alloc (w5.drewN nq) (.cells #[.int .i64 x, .int .i64 (fv).A, .int .i64 (fv).B, .int .i64 (fv).C] 138)))) hg6 (own_ne (own_bel H2.out (bstep (below_drewN w5 nq) (below_alloc (w5.drewN nq) (.cells #[.int .i64 x, .int .i64 (fv).A, .int .i64 (fv).B, .int .i64 (fv).C] 138)))) (bx_below H1.out (bstep (below_drewN w5 nq) (below_alloc (w5.drewN nq) (.cells #[.int .i64 x, .int .i64 (fv).A, .int .i64 (fv).B, .int .i64 (fv).C] 138)))) (by decide))
                have g0 := bx_cell e6 0 rfl
                have gf := bx_frz e6
                simp only [List.getElem_toArray, List.getElem_cons_zero, List.getElem_cons_succ] at g0
                have T7 := Lib.hid T7'
                have P7 := Lib.hid P7'
                clear T7' P7' rd6 own6 hi9 hz0 hz1 hz2 k0 kf hg6 e6 e0 e1 e2
                go_wp2
                go_roundw
                case rel => exact ⟨k + 1, out ++ [mkQ x (fv)], by omega, by go_num, by first | (simp; done) | (simp; omega), Lib.hid (by rw [HPU.out, push_diff HGL.out (fun h => hb h.2.1)]), HOKN, T7.out, P7.out⟩
                case measure => simp [intOf]; omega
            · skip
              go_wp2_with fail
              go_quiet (fail)
              obtain ⟨i0, hi9, hz0, hz1, hz2⟩ := info_parts infoPt
              go_wp2_with (at_builtin; refine wpList_append_own _ rfl _ _ 51 rfl (LO) 138 i0 (.agg #[.int .i64 0, .int .i64 0, .int .i64 0, .int .i64 0]) 4 32 Try.underlying51 hi9 hz0 hz1 hz2 rfl (by decide) _ _ _ rfl (own_bel (own_bel H2m.out (below_drewN w5 _)) (below_alloc _ _)) ⟨w5.heap.size, 0, none⟩ 1 1 [.int .i64 x, .int .i64 (fv).A, .int .i64 (fv).B, .int .i64 (fv).C] rfl rfl ?cd1 ?cd2 ?cd3 ?cd4 ?cd5 ?_)
              try case cd1 => exact news9 (w := w5.drewN _) (cs := #[.int .i64 x, .int .i64 (fv).A, .int .i64 (fv).B, .int .i64 (fv).C]) rfl
              try case cd1 =>
                intro j y hy
                match j, hy with
                | 0, hy => (simp at hy; subst hy; simp [Addr.add])
                | 1, hy => (simp at hy; subst hy; simp [Addr.add])
                | 2, hy => (simp at hy; subst hy; simp [Addr.add])
                | 3, hy => (simp at hy; subst hy; simp [Addr.add])
              try case cd2 => simp [Value.oneCell']
              case cd3 => unfold maxLen; skip; omega
              case cd4 => skip; omega
              try case cd5 => first | omega | (simp <;> omega)
              intro v6 w6 own6 hg6 _
              rw [← HM.out] at own6 hg6
              have T7' := (T5.out.bel' (bstep (below_drewN w5 nq) (below_alloc (w5.drewN nq) (.cells #[.int .i64 x, .int .i64 (fv).A, .int .i64 (fv).B, .int .i64 (fv).C] 138)))).put (q := mkQ x (fv)) (bx_below H1.out (bstep (below_drewN w5 nq) (below_alloc (w5.drewN nq) (.cells #[.int .i64 x, .int .i64 (fv).A, .int .i64 (fv).B, .int .i64 (fv).C] 138)))) (own_bel H2.out (bstep (below_drewN w5 nq) (below_alloc (w5.drewN nq) (.cells #[.int .i64 x, .int .i64 (fv).A, .int .i64 (fv).B, .int .i64 (fv).C] 138)))) own6 hg6
              have P7' := (P5.out.bel' (bstep (below_drewN w5 nq) (below_alloc (w5.drewN nq) (.cells #[.int .i64 x, .int .i64 (fv).A, .int .i64 (fv).B, .int .i64 (fv).C] 138)))).put (x := v6) (own_bel H2.out (bstep (below_drewN w5 nq) (below_alloc (w5.drewN nq) (.cells #[.int .i64 x, .int .i64 (fv).A, .int .i64 (fv).B, .int .i64 (fv).C] 138)))) hg6 (b := BB) (by omega)
              obtain ⟨X6, c6, rfl, rd6⟩ := own_rd own6
              have e6 := bx_grown (bx_below H1.out (bstep (below_drewN w5 nq) (below_alloc (w5.drewN nq) (.cells #[.int .i64 x, .int .i64 (fv).A, .int .i64 (fv).B, .int .i64 (fv).C] 138)))) hg6 (own_ne (own_bel H2.out (bstep (below_drewN w5 nq) (below_alloc (w5.drewN nq) (.cells #[.int .i64 x, .int .i64 (fv).A, .int .i64 (fv).B, .int .i64 (fv).C] 138)))) (bx_below H1.out (bstep (below_drewN w5 nq) (below_alloc (w5.drewN nq) (.cells #[.int .i64 x, .int .i64 (fv).A, .int .i64 (fv).B, .int .i64 (fv).C] 138)))) (by decide))
              have g0 := bx_cell e6 0 rfl
              have gf := bx_frz e6
              simp only [List.getElem_toArray, List.getElem_cons_zero, List.getElem_cons_succ] at g0
              have T7 := Lib.hid T7'
              have P7 := Lib.hid P7'
              clear T7' P7' rd6 own6 hi9 hz0 hz1 hz2 k0 kf hg6 e6 e0 e1 e2
              go_wp2
              go_roundw
              case rel => exact ⟨k + 1, out ++ [mkQ x (fv)], by omega, by go_num, by first | (simp; done) | (simp; omega), Lib.hid (by rw [HPU.out, push_diff HGL.out (fun h => ha h.1)]), HOKN, T7.out, P7.out⟩
              case measure => simp [intOf]; omega
    · have hkT : k = TL.length := by omega
      have hlt' : ¬ (k : Int) < TL.length := by omega
      have HCB : Hid (chgB ps lo hi FB = true) := Lib.hid (okTo_all (by
        have := HOK2.out
        rwa [hkT, List.take_length, HTL.out] at this))
      have HCV : Hid (out = chgV ps lo hi FF) := Lib.hid (by
        have := HO.out
        rw [hkT, List.take_length, HTL.out] at this
        exact this)
      have HPO : Hid (profOkB out = decide (out.length ≤ 200)) := Lib.hid (by
        rw [HCV.out]
        exact chg_ok HOK.out HSP.out HCB.out (fun y hy => by rw [HFB.out] at hy; rw [HFF.out]; exact (add_ok hy).1))
      clear hkT
      obtain ⟨X, cx, h1, h2⟩ := T.out.bx
      have k0 := bx_cell h1 0 rfl
      have kf := bx_frz h1
      simp only [List.getElem_toArray, List.getElem_cons_zero, List.getElem_cons_succ] at k0
      have H1 := Lib.hid h1
      have H2 := Lib.hid h2
      clear h1 h2
      go_wp2_with fail
      refine (sprofOk_any X out.length cx out _ (by omega) (own_rdd' H2.out) (own_blk H2.out)).mono ?_
      rintro e w2 ⟨rfl, hb2⟩
      have T2 := Lib.hid (T.out.bel' hb2)
      have K1 := Lib.hid (bx_below H1.out hb2)
      have K2 := Lib.hid (own_bel H2.out hb2)
      clear k0 kf H1 H2
      have k0 := bx_cell K1.out 0 rfl
      have kf := bx_frz K1.out
      simp only [List.getElem_toArray, List.getElem_cons_zero, List.getElem_cons_succ] at k0
      cases hpo : profOkB out
      · have HBF : Hid (cgB ps lo hi FF FB = false) := Lib.hid (by
          have := HPO.out
          rw [hpo] at this
          unfold cgB; rw [← HCV.out, ← this, Bool.and_false])
        clear hpo
        have r0 := bx_cell T2.out.res 0 rfl
        have rf := bx_frz T2.out.res
        simp only [List.getElem_toArray, List.getElem_cons_zero, List.getElem_cons_succ] at r0
        go_wp2
        (try go_light)
        refine bodyPost_ret (v := .tuple #[.agg #[.slice none 0 0], .bool false]) (by simp [results, Try.results93, go_sem, *]) rfl ?_
        refine ⟨_, by rw [HBF.out], ?_, ?_⟩
        · unfold cgV; rw [HBF.out]; exact own_nil _ _ _ _
        · exact T2.out.bel.setCell (by simp <;> omega) _
      · have HBF : Hid (cgB ps lo hi FF FB = true) := Lib.hid (by
          have := HPO.out
          rw [hpo] at this
          unfold cgB; rw [← HCV.out, ← this, HCB.out]; rfl)
        clear hpo
        have r0 := bx_cell T2.out.res 0 rfl
        have rf := bx_frz T2.out.res
        simp only [List.getElem_toArray, List.getElem_cons_zero, List.getElem_cons_succ] at r0
        go_wp2
        (try go_light)
        refine bodyPost_ret (v := .tuple #[.agg #[.slice X out.length cx], .bool true]) (by simp [results, Try.results93, go_sem, *]) rfl ?_
        refine ⟨_, by rw [HBF.out], ?_, ?_⟩
        · unfold cgV; rw [HBF.out, if_pos rfl, ← HCV.out]
          exact own_mono (own_set K2.out (own_ne K2.out T2.out.res (by decide)) _) T2.out.hb.2.2.2
        · exact T2.out.bel.setCell (by simp <;> omega) _
end Go.Proofs.Ytpfcegjomdppmaa
