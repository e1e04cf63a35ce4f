/-
  A profile that is changed over a span (the program).
-/
import Derived.Test.YtpfcegjomdppmaaPq
import Derived.Test.YtpfcegjomdppmaaPu
import Derived.Test.YtpfcegjomdppmaaA4
import Derived.Deep.QuietTactic
import Derived.BigQuiet
import Derived.Deep.AppendLies
namespace Go.Proofs.Ytpfcegjomdppmaa
set_option linter.unusedSimpArgs false
set_option linter.unusedVariables false
set_option linter.unnecessarySimpa false
open Go.RowKit
/-- One box more that stays as it is. -/
structure P1 (wr : World) (ba : Nat) (A : Option Addr) (n c : Nat) : Prop where
  pa : wr.heap[ba]? = some (.cells #[.slice A n c] 53 (0, 0))
theorem P1.bel' {wr w' : World} {ba : Nat} {A : Option Addr} {n c : Nat} (h : P1 wr ba A n c) (hb : Below wr.heap.size wr w') : P1 w' ba A n c := ⟨bx_below h.pa hb⟩
theorem P1.put {wr w1 : World} {ba b lo : Nat} {A : Option Addr} {n c : Nat} (h : P1 wr ba A n c) {u : Value} {m : Nat} {xs : List Value} {x : Value} (h2 : wr.ownsRow lo 138 4 u m xs) (hg : wr.grownBy w1 u.ownBlock) (hb : ba ≠ b) : P1 (w1.setCell ⟨b, 0, none⟩ x) ba A n c :=
  ⟨bx_set (bx_grown h.pa hg (fun k hk => own_ne h2 h.pa (by decide) k hk)) hb _⟩
theorem mem_times {ps : List Q} {lo hi : Int} (x : Int) : x ∈ lo :: hi :: ps.map (·.t) ↔ x = hi ∨ x = lo ∨ ∃ q ∈ ps, q.t = x := by
  simp only [List.mem_cons, List.mem_map]
  constructor
  · rintro (h | h | h)
    · exact Or.inr (Or.inl h)
    · exact Or.inl h
    · exact Or.inr (Or.inr h)
  · rintro (h | h | h)
    · exact Or.inr (Or.inl h)
    · exact Or.inl h
    · exact Or.inr (Or.inr h)
theorem times_comp {ps : List Q} (hn : Norm ps) (lo hi : Int) : compZ (sortZ (lo :: hi :: ps.map (·.t))) = timesL ps lo hi := compact_times hn mem_times

set_option maxHeartbeats 8000000 in
set_option maxRecDepth 20000 in
theorem changed_any (A : Option Addr) (n c : Nat) (ps : List Q) (lo hi : Int) (FF : V → V) (FB : V → Bool) (g0 : Nat) (lb : Array Value) (w : World) (hn : n ≤ 1048576) (hr : Rd w A n 4 (flat ps)) (hl : ∀ g, A = some ⟨g, 0, none⟩ → g < w.heap.size) (hok : profOkB ps = true)
    (eg : ∀ args w, (callFunc g0 args).run Try.prog w = .ok (.enter g0 args) w)
    (hp : ∀ (y : V) (W : World), Below w.heap.size w W → Calls Try.prog g0 (#[.agg #[.int .i64 y.A, .int .i64 y.B, .int .i64 y.C]] ++ lb) W fun e W' => e = .returned (.tuple #[.agg #[.int .i64 (FF y).A, .int .i64 (FF y).B, .int .i64 (FF y).C], .bool (FB y)]) ∧ Below W.heap.size W W') :
    Calls Try.prog 95 #[.agg #[.slice A n c], .int .i64 lo, .int .i64 hi, .func (.func g0) #[] lb] w fun e w' => ∃ u, e = .returned (.tuple #[.agg #[u], .bool (cgB ps lo hi FF FB)]) ∧ w'.ownsRow w.heap.size 138 4 u (cgV ps lo hi FF FB).length (flat (cgV ps lo hi FF FB)) ∧ Below w.heap.size w w' := by
  have hn2 : n ≤ 200 := by
    have h1 := (profOk_parts hok).2.1
    have h2 : ps.length = n := by have := hr.1; rw [flat_len] at this; omega
    omega
  have HNO := Lib.hid (profOk_norm hok)
  have HPF := Lib.hid hp
  clear hok hp
  have hpl : ps.length = n := by have := hr.1; rw [flat_len] at this; omega
  have hm : n ≤ 9223372036854775807 := by omega
  have HN := Lib.hid hn
  have HR := Lib.hid hr
  have HL := Lib.hid hl
  have HP := Lib.hid hpl
  clear hn hr hl hpl
  go_enter Try.func95, Try.ntmps95
  go_wp2
  go_loopw [10, 26] (fun v i wr => ∃ (k : Nat) (X : Option Addr) (cx : Nat), k ≤ n ∧ i = .int .i64 k ∧ v = .slice X (k + 2) cx ∧ wr.ownsRow (w.heap.size + 1 + 1) 3 1 (.slice X (k + 2) cx) (k + 2) (ints (lo :: hi :: (ps.take k).map (·.t))) ∧ Below w.heap.size w wr ∧ w.heap.size + 1 + 1 ≤ wr.heap.size ∧ wr.heap[w.heap.size + 1]? = some (.cells #[.slice none 0 0] 53 (0, 0)) ∧ P1 wr (w.heap.size) A n c) (fun _ i _ => n - (intOf i).toNat)
  case atStart =>
    refine ⟨0, _, 2, Nat.zero_le _, rfl, rfl, ?_, (by repeat (first | exact Below.refl _ _ | assumption | (refine bstep ?_ (below_drewN _ _)) | exact bstep (by assumption) (by assumption) | (refine bstep ?_ (below_alloc _ _)) | (refine bstep ?_ (by assumption)) | (refine Below.setCell ?_ (by simp <;> omega) _) | refine Below.drew ?_)), (by first | omega | (simp <;> omega)), ?_, ⟨?_⟩⟩
    · exact own_lit (cs := [.int .i64 lo, .int .i64 hi]) (heap_at _ (by simp)) rfl (by decide) (by omega)
    · exact bx_alloc (heap_at _ (by simp)) _
    · exact bx_alloc (bx_alloc (heap_at _ (by simp)) _) _
  case round =>
    obtain ⟨k, X, cx, hk, rfl, rfl, hown, hbw, hsz, hres, hpa⟩ := hrel
    have HB := Lib.hid hbw
    have HW := Lib.hid hown
    have HRS := Lib.hid hres
    have HPA := Lib.hid hpa
    by_cases hlt : k < n
    · have hlt' : (k : Int) < n := by omega
      obtain ⟨g, q, rfl, hq, d0, d1, d2, d3⟩ := HR.out.q hlt
      have hg := HL.out g rfl
      have D0 := (hbw.cell (p := ⟨g, k * 4, none⟩) hg).trans d0
      have D1 := (hbw.cell (p := ⟨g, k * 4 + 1, none⟩) hg).trans d1
      have D2 := (hbw.cell (p := ⟨g, k * 4 + 2, none⟩) hg).trans d2
      have D3 := (hbw.cell (p := ⟨g, k * 4 + 3, none⟩) hg).trans d3
      have hgr : g < wr.heap.size := Nat.lt_of_lt_of_le hg hbw.size
      have HS := Lib.hid (take_snoc' hq)
      clear d0 d1 d2 d3 hq hbw hown hres hpa
      obtain ⟨i0, hi9, hz0, hz1, hz2⟩ := info_parts infoI
      go_wp2_with (at_builtin; refine wpList_append_own _ rfl _ _ 23 rfl (w.heap.size + 1 + 1) 3 i0 (.int .i64 0) 1 8 Try.underlying23 hi9 hz0 hz1 hz2 rfl (by decide) _ _ _ rfl ((HW.out.alloc _).alloc _) ⟨wr.heap.size + 1, 0, none⟩ 1 1 [.int .i64 q.t] rfl rfl ?c1 ?c2 ?c3 ?c4 ?c5 ?_)
      try case c1 =>
        intro j y hy
        match j, hy with
        | 0, hy => (simp at hy; subst hy; simp [Addr.add])
      try case c2 => simp [Value.oneCell']
      case c3 => unfold maxLen; have := HN.out; omega
      case c4 => have := HN.out; omega
      try case c5 => first | omega | (simp <;> omega)
      intro v' w1 hown1 hg1 _
      obtain ⟨X', cx', rfl, _⟩ := own_rd hown1
      have hH1 := Below.grown ((HB.out.alloc HB.out.size _).alloc (by simp; have := HB.out.size; omega) _) hg1 (by simp; have := HB.out.size; omega) (fun k hk => by have := own_ge HW.out k hk; omega)
      have hR1 := bx_grown (bx_alloc (bx_alloc HRS.out _) _) hg1 (fun k hk => by have := own_ge HW.out k hk; omega)
      have hP1 := bx_grown (bx_alloc (bx_alloc HPA.out.pa _) _) hg1 (fun k hk => by have := own_ge HW.out k hk; omega)
      have hS1 : w.heap.size + 1 + 1 ≤ w1.heap.size := by have := hg1.size; simp at this; omega
      have HO1 := Lib.hid hown1
      have HB1 := Lib.hid hH1
      have HR1 := Lib.hid hR1
      have HP1 := Lib.hid hP1
      clear hown1 hg1 hH1 hR1 hP1 hz0 hz1 hz2 hi9
      go_wp2
      go_roundw
      case rel =>
        refine ⟨k + 1, X', cx', by omega, by go_num, ?_, ?_, HB1.out, hS1, HR1.out, ⟨HP1.out⟩⟩
        · first | rfl | (congr 1; omega)
        · have := HO1.out
          rw [HS.out, List.map_append, List.map_singleton]
          simpa [ints, Nat.add_right_comm] using this
      case measure => simp [intOf]; omega
    · have hkn : n = k := by omega
      subst hkn
      have hk9 : ps.take n = ps := take_all (by have := HP.out; omega)
      rw [hk9] at hown
      clear hk9
      have HW := Lib.hid hown
      obtain ⟨i0, hi0⟩ : ∃ g, X = some ⟨g, 0, none⟩ := by
        rcases hown.2 with ⟨h0, h1⟩ | ⟨g, cap, cur, hv, _⟩
        · omega
        · injection hv with h1 h2 h3; exact ⟨g, h1⟩
      subst hi0
      have hg0 := own_ge hown i0 rfl
      have hgl := own_blk hown i0 rfl
      clear hown hbw hres hpa
      go_wp2_with fail
      refine (sort_own HW.out (by omega)).mono ?_
      rintro e w2 ⟨rfl, own2, hg2⟩
      have hB2 := Below.grown HB.out hg2 HB.out.size (fun j hj => by cases hj; omega)
      have hs2 := hg2.size
      have HO2 := Lib.hid own2
      have HB2 := Lib.hid hB2
      have HR2 := Lib.hid (bx_grown HRS.out hg2 (fun j hj => by cases hj; omega))
      have HP2 := Lib.hid (bx_grown HPA.out.pa hg2 (fun j hj => by cases hj; omega))
      clear own2 hg2 hB2 HB HW HRS HPA
      go_wp2_with fail
      refine (compact_own (own_bel HO2.out (below_alloc _ _)) (by omega)).mono ?_
      rintro e w3 ⟨rfl, own3, hg3⟩
      obtain ⟨BB, hBB⟩ : ∃ b, b = w2.heap.size := ⟨_, rfl⟩
      obtain ⟨LO, hLO⟩ : ∃ b, b = w.heap.size + 1 + 1 := ⟨_, rfl⟩
      obtain ⟨TL, hTLe⟩ : ∃ l, l = timesL ps lo hi := ⟨_, rfl⟩
      have hTC : compZ (sortZ (lo :: hi :: ps.map (·.t))) = TL := by rw [hTLe]; exact times_comp HNO.out lo hi
      rw [hTC] at own3 ⊢
      have hTL : TL.length ≤ n + 2 := by rw [hTLe]; exact Nat.le_trans (timesL_len ps lo hi) (by have := HP.out; omega)
      have HTL := Lib.hid hTLe
      have hB3 := Below.grown (HB2.out.alloc HB2.out.size _) hg3 (by simp; have := HB2.out.size; omega) (fun j hj => by cases hj; omega)
      have H00 : PB w w3 (w.heap.size + 1) BB LO (.slice (some ⟨i0, 0, none⟩) TL.length cx) TL [] := by
        subst hBB hLO
        refine ⟨⟨none, 0, bx_grown (heap_at _ (by simp)) hg3 (fun j hj => by cases hj; omega), own_nil _ _ _ _⟩, own3, bx_grown (bx_alloc HR2.out _) hg3 (fun j hj => by cases hj; omega), hB3, by omega⟩
      have H01 : P1 w3 (w.heap.size) A n c := ⟨bx_grown (bx_alloc HP2.out _) hg3 (fun j hj => by cases hj; omega)⟩
      have T0 := Lib.hid H00
      have P0 := Lib.hid H01
      rw [← hBB]
      have hBB9 : w.heap.size + 1 + 1 ≤ BB := by omega
      have hLO9 : w.heap.size + 1 + 1 ≤ LO ∧ LO ≤ w.heap.size + 1 + 1 := by omega
      clear H00 H01 hTC hTLe hB3 own3 hg3 HO2 HB2 HR2 HP2 hs2 hBB hg0 hgl hsz hLO
      go_wp2
      go_loopw [42] (fun i wr => ∃ (k : Nat) (out : List Q), k ≤ TL.length ∧ i = .int .i64 k ∧ out.length ≤ k ∧ Hid (out = chL (valAt ps lo hi FF) (TL.take k)) ∧ Hid (okTo ps lo hi FB (TL.take k)) ∧ PB w wr (w.heap.size + 1) BB LO (.slice (some ⟨i0, 0, none⟩) TL.length cx) TL out ∧ P1 wr (w.heap.size) A n c) (fun i _ => TL.length - (intOf i).toNat)
      case atStart => exact ⟨0, [], Nat.zero_le _, rfl, Nat.le_refl _, Lib.hid rfl, Lib.hid (fun t ht => by simp at ht), T0.out, P0.out⟩
      case round =>
        clear T0 P0
        obtain ⟨k, out, hk, rfl, hol, HO, HOK2, T', P'⟩ := hrel
        have T := Lib.hid T'
        have P := Lib.hid P'
        clear T' P'
        by_cases hlt : k < TL.length
        · have hlt' : (k : Int) < TL.length := by omega
          obtain ⟨g, x, hgi, hx, cx9⟩ := Rd.int (own_rdd' T.out.tm) hlt
          obtain rfl : i0 = g := by injection hgi with h1; injection h1
          have hgl := own_blk T.out.tm i0 rfl
          have HX := Lib.hid hx
          clear hx hgi
          have p0 := bx_cell P.out.pa 0 rfl
          simp only [List.getElem_toArray, List.getElem_cons_zero, List.getElem_cons_succ] at p0
          have hbw := T.out.bel
          have HBW := Lib.hid hbw
          clear hbw
          go_wp2_with fail
          refine (free_any A n c ps x _ HN.out (HR.out.below HL.out HBW.out) (lt_below HL.out HBW.out)).mono ?_
          rintro e w2 ⟨rfl, hb2⟩
          have T2 := Lib.hid (T.out.bel' hb2)
          have P2' := Lib.hid (P.out.bel' hb2)
          clear hb2 T P p0 cx9 hgl
          obtain ⟨fv, hfv⟩ : ∃ y, y = freeV x ps := ⟨_, rfl⟩
          rw [← hfv]
          have HFV := Lib.hid hfv
          clear hfv
          by_cases hin : lo ≤ x ∧ x < hi
          · obtain ⟨hin1, hin2⟩ := hin
            have hcall := HPF.out fv (w2.alloc (.cells #[.int .i64 fv.A, .int .i64 fv.B, .int .i64 fv.C] 57)) (bstep T2.out.bel (below_alloc _ _))
            have HC := Lib.hid hcall
            clear hcall
            go_wp2_with fail
            refine (HC.out).mono ?_
            rintro e w3 ⟨rfl, hb3⟩
            have hs3 := hb3.size
            (try simp at hs3)
            have hy3 : w2.heap.size < w3.heap.size := by omega
            have hk3 := fun o => hb3.cell (p := ⟨w2.heap.size, o, none⟩) (by simp)
            have hg3 := fun o => hb3.frozen (p := ⟨w2.heap.size, o, none⟩) (by simp)
            have T3 := Lib.hid ((T2.out.bel' (below_alloc _ _)).bel' hb3)
            have hrb := heap_lt T2.out.res
            have hrb3 : w.heap.size + 1 < w3.heap.size := by omega
            clear HC
            cases hok : FB fv
            · have HBF : Hid (cgB ps lo hi FF FB = false) := Lib.hid (by
                unfold cgB
                rw [chg_bad (k := k) (x := x) (by rw [← HTL.out]; exact HX.out) hin1 hin2 (by rw [← HFV.out]; exact hok)]; rfl)
              clear hok
              have r0 := bx_cell T3.out.res 0 rfl
              have rf := bx_frz T3.out.res
              simp only [List.getElem_toArray, List.getElem_cons_zero, List.getElem_cons_succ] at r0
              go_wp2
              (try go_light)
              refine bodyPost_ret (v := .tuple #[.agg #[.slice none 0 0], .bool false]) (by simp [results, Try.results95, go_sem, *]) rfl ?_
              refine ⟨_, by rw [HBF.out], ?_, ?_⟩
              · unfold cgV; rw [HBF.out]; exact own_nil _ _ _ _
              · exact (by repeat (first | exact T2.out.bel | (with_reducible refine Below.setCell ?_ (by have hq2 := T2.out.bel.size; simp <;> omega) _) | (with_reducible refine bstep ?_ hb3) | (with_reducible refine bstep ?_ (below_alloc _ _))))
            · have HVA : Hid (valAt ps lo hi FF x = FF fv) := Lib.hid (by rw [valAt_in hin1 hin2, ← HFV.out])
              have HOKN : Hid (okTo ps lo hi FB (TL.take (k + 1))) := Lib.hid (okTo_snoc HOK2.out HX.out (fun _ _ => by rw [← HFV.out]; exact hok))
              clear hok
              generalize hnv : FF fv = nv at *
              go_upto_region 18 with fail
              skip
              have hch : Below w2.heap.size w2 ((((w3.setCell ⟨w2.heap.size, 0, none⟩ (.int .i64 nv.A)).setCell ⟨w2.heap.size, 1, none⟩ (.int .i64 nv.B)).setCell ⟨w2.heap.size, 2, none⟩ (.int .i64 nv.C)).alloc (.cells #[.int .i64 nv.A, .int .i64 nv.B, .int .i64 nv.C] 57)) := (by repeat (first | exact Below.refl _ _ | (with_reducible refine Below.setCell ?_ (by simp <;> omega) _) | (with_reducible refine bstep ?_ hb3) | (with_reducible refine bstep ?_ (below_alloc _ _))))
              have T5 := Lib.hid (T2.out.bel' hch)
              have P5 := Lib.hid (P2'.out.bel' hch)
              have e0 : ((((w3.setCell ⟨w2.heap.size, 0, none⟩ (.int .i64 nv.A)).setCell ⟨w2.heap.size, 1, none⟩ (.int .i64 nv.B)).setCell ⟨w2.heap.size, 2, none⟩ (.int .i64 nv.C)).alloc (.cells #[.int .i64 nv.A, .int .i64 nv.B, .int .i64 nv.C] 57)).cell? ⟨w2.heap.size, 0, none⟩ = some (.int .i64 nv.A) := by simp [go_sem, *, World.cell?_alloc_some, World.cell?_setCell_far, Nat.lt_add_right, Nat.ne_of_gt]
              have e1 : ((((w3.setCell ⟨w2.heap.size, 0, none⟩ (.int .i64 nv.A)).setCell ⟨w2.heap.size, 1, none⟩ (.int .i64 nv.B)).setCell ⟨w2.heap.size, 2, none⟩ (.int .i64 nv.C)).alloc (.cells #[.int .i64 nv.A, .int .i64 nv.B, .int .i64 nv.C] 57)).cell? ⟨w2.heap.size, 1, none⟩ = some (.int .i64 nv.B) := by simp [go_sem, *, World.cell?_alloc_some, World.cell?_setCell_far, Nat.lt_add_right, Nat.ne_of_gt]
              have e2 : ((((w3.setCell ⟨w2.heap.size, 0, none⟩ (.int .i64 nv.A)).setCell ⟨w2.heap.size, 1, none⟩ (.int .i64 nv.B)).setCell ⟨w2.heap.size, 2, none⟩ (.int .i64 nv.C)).alloc (.cells #[.int .i64 nv.A, .int .i64 nv.B, .int .i64 nv.C] 57)).cell? ⟨w2.heap.size, 2, none⟩ = some (.int .i64 nv.C) := by simp [go_sem, *, World.cell?_alloc_some, World.cell?_setCell_far, Nat.lt_add_right, Nat.ne_of_gt]
              have hbt : w2.heap.size < ((((w3.setCell ⟨w2.heap.size, 0, none⟩ (.int .i64 nv.A)).setCell ⟨w2.heap.size, 1, none⟩ (.int .i64 nv.B)).setCell ⟨w2.heap.size, 2, none⟩ (.int .i64 nv.C)).alloc (.cells #[.int .i64 nv.A, .int .i64 nv.B, .int .i64 nv.C] 57)).heap.size := by simp; omega
              clear hch hk3 hg3 hb3 T2 T3 P2' hrb hrb3 hy3 hs3
              generalize ((((w3.setCell ⟨w2.heap.size, 0, none⟩ (.int .i64 nv.A)).setCell ⟨w2.heap.size, 1, none⟩ (.int .i64 nv.B)).setCell ⟨w2.heap.size, 2, none⟩ (.int .i64 nv.C)).alloc (.cells #[.int .i64 nv.A, .int .i64 nv.B, .int .i64 nv.C] 57)) = w5 at *
              generalize w2.heap.size = bt at *
              obtain ⟨X, cx, h1, h2⟩ := T5.out.bx
              have k0 := bx_cell h1 0 rfl
              have kf := bx_frz h1
              have hlb := heap_lt h1
              simp only [List.getElem_toArray, List.getElem_cons_zero, List.getElem_cons_succ] at k0
              have H1 := Lib.hid h1
              have H2 := Lib.hid h2
              clear h1 h2
              have HPU : Hid (chL (valAt ps lo hi FF) (TL.take (k + 1)) = push out x (nv)) := Lib.hid (by rw [take_snoc' HX.out, chL_snoc, ← HO.out, HVA.out])
              have hlt0 := hol
              cases hgl : out.getLast? with
              | none =>
                have hnil : out = [] := List.getLast?_eq_none_iff.1 hgl
                subst hnil
                clear hgl
                simp only [List.length_nil] at k0 hol
                go_wp2_with fail
                go_quiet (fail)
                obtain ⟨i0, hi9, hz0, hz1, hz2⟩ := info_parts infoPt
                go_wp2_with (at_builtin; refine wpList_append_own _ rfl _ _ 51 rfl (LO) 138 i0 (.agg #[.int .i64 0, .int .i64 0, .int .i64 0, .int .i64 0]) 4 32 Try.underlying51 hi9 hz0 hz1 hz2 rfl (by decide) _ _ _ rfl (own_bel (own_bel H2.out (below_drewN w5 _)) (below_alloc _ _)) ⟨w5.heap.size, 0, none⟩ 1 1 [.int .i64 x, .int .i64 (nv).A, .int .i64 (nv).B, .int .i64 (nv).C] rfl rfl ?ca1 ?ca2 ?ca3 ?ca4 ?ca5 ?_)
                try case ca1 => exact news9 (w := w5.drewN _) (cs := #[.int .i64 x, .int .i64 (nv).A, .int .i64 (nv).B, .int .i64 (nv).C]) rfl
                try case ca1 =>
                  intro j y hy
                  match j, hy with
                  | 0, hy => (simp at hy; subst hy; simp [Addr.add])
                  | 1, hy => (simp at hy; subst hy; simp [Addr.add])
                  | 2, hy => (simp at hy; subst hy; simp [Addr.add])
                  | 3, hy => (simp at hy; subst hy; simp [Addr.add])
                try case ca2 => simp [Value.oneCell']
                case ca3 => unfold maxLen; skip; omega
                case ca4 => skip; omega
                try case ca5 => first | omega | (simp <;> omega)
                intro v6 w6 own6 hg6 _
                have T7' := (T5.out.bel' (bstep (below_drewN w5 nq) (below_alloc (w5.drewN nq) (.cells #[.int .i64 x, .int .i64 (nv).A, .int .i64 (nv).B, .int .i64 (nv).C] 138)))).put (q := mkQ x (nv)) (bx_below H1.out (bstep (below_drewN w5 nq) (below_alloc (w5.drewN nq) (.cells #[.int .i64 x, .int .i64 (nv).A, .int .i64 (nv).B, .int .i64 (nv).C] 138)))) (own_bel H2.out (bstep (below_drewN w5 nq) (below_alloc (w5.drewN nq) (.cells #[.int .i64 x, .int .i64 (nv).A, .int .i64 (nv).B, .int .i64 (nv).C] 138)))) own6 hg6
                have P7' := (P5.out.bel' (bstep (below_drewN w5 nq) (below_alloc (w5.drewN nq) (.cells #[.int .i64 x, .int .i64 (nv).A, .int .i64 (nv).B, .int .i64 (nv).C] 138)))).put (x := v6) (own_bel H2.out (bstep (below_drewN w5 nq) (below_alloc (w5.drewN nq) (.cells #[.int .i64 x, .int .i64 (nv).A, .int .i64 (nv).B, .int .i64 (nv).C] 138)))) hg6 (b := BB) (by omega)
                obtain ⟨X6, c6, rfl, rd6⟩ := own_rd own6
                have e6 := bx_grown (bx_below H1.out (bstep (below_drewN w5 nq) (below_alloc (w5.drewN nq) (.cells #[.int .i64 x, .int .i64 (nv).A, .int .i64 (nv).B, .int .i64 (nv).C] 138)))) hg6 (own_ne (own_bel H2.out (bstep (below_drewN w5 nq) (below_alloc (w5.drewN nq) (.cells #[.int .i64 x, .int .i64 (nv).A, .int .i64 (nv).B, .int .i64 (nv).C] 138)))) (bx_below H1.out (bstep (below_drewN w5 nq) (below_alloc (w5.drewN nq) (.cells #[.int .i64 x, .int .i64 (nv).A, .int .i64 (nv).B, .int .i64 (nv).C] 138)))) (by decide))
                have g0 := bx_cell e6 0 rfl
                have gf := bx_frz e6
                simp only [List.getElem_toArray, List.getElem_cons_zero, List.getElem_cons_succ] at g0
                have T7 := Lib.hid T7'
                have P7 := Lib.hid P7'
                clear T7' P7' rd6 own6 hi9 hz0 hz1 hz2 k0 kf hg6 e6 e0 e1 e2
                go_wp2
                go_roundw
                case rel => exact ⟨k + 1, ([] : List Q) ++ [mkQ x (nv)], by omega, by go_num, by first | (simp; done) | (simp; omega), Lib.hid (by rw [HPU.out, push_nil]), HOKN, T7.out, P7.out⟩
                case measure => simp [intOf]; omega
              | some q =>
                obtain ⟨m, hm⟩ : ∃ m, out.length = m + 1 := by
                  cases out with
                  | nil => simp at hgl
                  | cons a r => exact ⟨r.length, rfl⟩
                have hql : out[m]? = some q := by
                  rw [List.getLast?_eq_getElem?, hm] at hgl; simpa using hgl
                have H2m : Hid (w5.ownsRow LO 138 4 (.slice X (m + 1) cx) (m + 1) (flat out)) := Lib.hid (by have := H2.out; rwa [hm] at this)
                obtain ⟨g1, q', rfl, hq', d0, d1, d2, d3⟩ := Rd.q (own_rdd' H2m.out) (k := m) (by omega)
                have hqq : q' = q := by rw [hql] at hq'; exact (Option.some.inj hq').symm
                subst hqq
                have hg1 := own_blk H2m.out g1 rfl
                rw [hm] at k0 hol
                have HM := Lib.hid hm
                have HGL := Lib.hid hgl
                clear hm hql hq' hgl d0
                have hm1 : (m : Int) < (m : Int) + 1 := by omega
                have hm2 : ¬ ((m : Int) + 1 = 0) := by omega
                have hm3 : ((m : Int) + 1 == 0) = false := by simp; omega
                have hm4 : IntKind.i64.wrap ((m : Int) + 1 - 1) = (m : Int) := by rw [IntWalk.i64_in _ (by omega)]; omega
                have hm5 : (0 : Int) ≤ (m : Int) := by omega
                by_cases ha : q'.a = (nv).A
                · by_cases hb : q'.b = (nv).B
                  · by_cases hc : q'.c = (nv).C
                    · have HSM : Hid (push out x (nv) = out) := Lib.hid (push_same HGL.out ha hb hc)
                      go_wp2_with fail
                      go_quiet (fail)
                      go_wp2
                      go_roundw
                      case rel => exact ⟨k + 1, out, by omega, by go_num, by have := HM.out; omega, Lib.hid (by rw [HPU.out, HSM.out]), HOKN, T5.out.bel' (below_drewN _ _), P5.out.bel' (below_drewN _ _)⟩
                      case measure => simp [intOf]; omega
                    · skip
                      go_wp2_with fail
                      go_quiet (fail)
                      obtain ⟨i0, hi9, hz0, hz1, hz2⟩ := info_parts infoPt
                      go_wp2_with (at_builtin; refine wpList_append_own _ rfl _ _ 51 rfl (LO) 138 i0 (.agg #[.int .i64 0, .int .i64 0, .int .i64 0, .int .i64 0]) 4 32 Try.underlying51 hi9 hz0 hz1 hz2 rfl (by decide) _ _ _ rfl (own_bel (own_bel H2m.out (below_drewN w5 _)) (below_alloc _ _)) ⟨w5.heap.size, 0, none⟩ 1 1 [.int .i64 x, .int .i64 (nv).A, .int .i64 (nv).B, .int .i64 (nv).C] rfl rfl ?cb1 ?cb2 ?cb3 ?cb4 ?cb5 ?_)
                      try case cb1 => exact news9 (w := w5.drewN _) (cs := #[.int .i64 x, .int .i64 (nv).A, .int .i64 (nv).B, .int .i64 (nv).C]) rfl
                      try case cb1 =>
                        intro j y hy
                        match j, hy with
                        | 0, hy => (simp at hy; subst hy; simp [Addr.add])
                        | 1, hy => (simp at hy; subst hy; simp [Addr.add])
                        | 2, hy => (simp at hy; subst hy; simp [Addr.add])
                        | 3, hy => (simp at hy; subst hy; simp [Addr.add])
                      try case cb2 => simp [Value.oneCell']
                      case cb3 => unfold maxLen; skip; omega
                      case cb4 => skip; omega
                      try case cb5 => first | omega | (simp <;> omega)
                      intro v6 w6 own6 hg6 _
                      rw [← HM.out] at own6 hg6
                      have T7' := (T5.out.bel' (bstep (below_drewN w5 nq) (below_alloc (w5.drewN nq) (.cells #[.int .i64 x, .int .i64 (nv).A, .int .i64 (nv).B, .int .i64 (nv).C] 138)))).put (q := mkQ x (nv)) (bx_below H1.out (bstep (below_drewN w5 nq) (below_alloc (w5.drewN nq) (.cells #[.int .i64 x, .int .i64 (nv).A, .int .i64 (nv).B, .int .i64 (nv).C] 138)))) (own_bel H2.out (bstep (below_drewN w5 nq) (below_alloc (w5.drewN nq) (.cells #[.int .i64 x, .int .i64 (nv).A, .int .i64 (nv).B, .int .i64 (nv).C] 138)))) own6 hg6
                      have P7' := (P5.out.bel' (bstep (below_drewN w5 nq) (below_alloc (w5.drewN nq) (.cells #[.int .i64 x, .int .i64 (nv).A, .int .i64 (nv).B, .int .i64 (nv).C] 138)))).put (x := v6) (own_bel H2.out (bstep (below_drewN w5 nq) (below_alloc (w5.drewN nq) (.cells #[.int .i64 x, .int .i64 (nv).A, .int .i64 (nv).B, .int .i64 (nv).C] 138)))) hg6 (b := BB) (by omega)
                      obtain ⟨X6, c6, rfl, rd6⟩ := own_rd own6
                      have e6 := bx_grown (bx_below H1.out (bstep (below_drewN w5 nq) (below_alloc (w5.drewN nq) (.cells #[.int .i64 x, .int .i64 (nv).A, .int .i64 (nv).B, .int .i64 (nv).C] 138)))) hg6 (own_ne (own_bel H2.out (bstep (below_drewN w5 nq) (below_alloc (w5.drewN nq) (.cells #[.int .i64 x, .int .i64 (nv).A, .int .i64 (nv).B, .int .i64 (nv).C] 138)))) (bx_below H1.out (bstep (below_drewN w5 nq) (below_alloc (w5.drewN nq) (.cells #[.int .i64 x, .int .i64 (nv).A, .int .i64 (nv).B, .int .i64 (nv).C] 138)))) (by decide))
                      have g0 := bx_cell e6 0 rfl
                      have gf := bx_frz e6
                      simp only [List.getElem_toArray, List.getElem_cons_zero, List.getElem_cons_succ] at g0
                      have T7 := Lib.hid T7'
                      have P7 := Lib.hid P7'
                      clear T7' P7' rd6 own6 hi9 hz0 hz1 hz2 k0 kf hg6 e6 e0 e1 e2
                      go_wp2
                      go_roundw
                      case rel => exact ⟨k + 1, out ++ [mkQ x (nv)], by omega, by go_num, by first | (simp; done) | (simp; omega), Lib.hid (by rw [HPU.out, push_diff HGL.out (fun h => hc h.2.2)]), HOKN, T7.out, P7.out⟩
                      case measure => simp [intOf]; omega
                  · skip
                    go_wp2_with fail
                    go_quiet (fail)
                    obtain ⟨i0, hi9, hz0, hz1, hz2⟩ := info_parts infoPt
                    go_wp2_with (at_builtin; refine wpList_append_own _ rfl _ _ 51 rfl (LO) 138 i0 (.agg #[.int .i64 0, .int .i64 0, .int .i64 0, .int .i64 0]) 4 32 Try.underlying51 hi9 hz0 hz1 hz2 rfl (by decide) _ _ _ rfl (own_bel (own_bel H2m.out (below_drewN w5 _)) (below_alloc _ _)) ⟨w5.heap.size, 0, none⟩ 1 1 [.int .i64 x, .int .i64 (nv).A, .int .i64 (nv).B, .int .i64 (nv).C] rfl rfl ?cc1 ?cc2 ?cc3 ?cc4 ?cc5 ?_)
                    try case cc1 => exact news9 (w := w5.drewN _) (cs := #[.int .i64 x, .int .i64 (nv).A, .int .i64 (nv).B, .int .i64 (nv).C]) rfl
                    try case cc1 =>
                      intro j y hy
                      match j, hy with
                      | 0, hy => (simp at hy; subst hy; simp [Addr.add])
                      | 1, hy => (simp at hy; subst hy; simp [Addr.add])
                      | 2, hy => (simp at hy; subst hy; simp [Addr.add])
                      | 3, hy => (simp at hy; subst hy; simp [Addr.add])
                    try case cc2 => simp [Value.oneCell']
                    case cc3 => unfold maxLen; skip; omega
                    case cc4 => skip; omega
                    try case cc5 => first | omega | (simp <;> omega)
                    intro v6 w6 own6 hg6 _
                    rw [← HM.out] at own6 hg6
                    have T7' := (T5.out.bel' (bstep (below_drewN w5 nq) (below_alloc (w5.drewN nq) (.cells #[.int .i64 x, .int .i64 (nv).A, .int .i64 (nv).B, .int .i64 (nv).C] 138)))).put (q := mkQ x (nv)) (bx_below H1.out (bstep (below_drewN w5 nq) (below_alloc (w5.drewN nq) (.cells #[.int .i64 x, .int .i64 (nv).A, .int .i64 (nv).B, .int .i64 (nv).C] 138)))) (own_bel H2.out (bstep (below_drewN w5 nq) (below_alloc (w5.drewN nq) (.cells #[.int .i64 x, .int .i64 (nv).A, .int .i64 (nv).B, .int .i64 (nv).C] 138)))) own6 hg6
                    have P7' := (P5.out.bel' (bstep (below_drewN w5 nq) (below_alloc (w5.drewN nq) (.cells #[.int .i64 x, .int .i64 (nv).A, .int .i64 (nv).B, .int .i64 (nv).C] 138)))).put (x := v6) (own_bel H2.out (bstep (below_drewN w5 nq) (below_alloc (w5.drewN nq) (.cells #[.int .i64 x, .int .i64 (nv).A, .int .i64 (nv).B, .int .i64 (nv).C] 138)))) hg6 (b := BB) (by omega)
                    obtain ⟨X6, c6, rfl, rd6⟩ := own_rd own6
                    have e6 := bx_grown (bx_below H1.out (bstep (below_drewN w5 nq) (below_alloc (w5.drewN nq) (.cells #[.int .i64 x, .int .i64 (nv).A, .int .i64 (nv).B, .int .i64 (nv).C] 138)))) hg6 (own_ne (own_bel H2.out (bstep (below_drewN w5 nq) (below_alloc (w5.drewN nq) (.cells #[.int .i64 x, .int .i64 (nv).A, .int .i64 (nv).B, .int .i64 (nv).C] 138)))) (bx_below H1.out (bstep (below_drewN w5 nq) (below_alloc (w5.drewN nq) (.cells #[.int .i64 x, .int .i64 (nv).A, .int .i64 (nv).B, .int .i64 (nv).C] 138)))) (by decide))
                    have g0 := bx_cell e6 0 rfl
                    have gf := bx_frz e6
                    simp only [List.getElem_toArray, List.getElem_cons_zero, List.getElem_cons_succ] at g0
                    have T7 := Lib.hid T7'
                    have P7 := Lib.hid P7'
                    clear T7' P7' rd6 own6 hi9 hz0 hz1 hz2 k0 kf hg6 e6 e0 e1 e2
                    go_wp2
                    go_roundw
                    case rel => exact ⟨k + 1, out ++ [mkQ x (nv)], by omega, by go_num, by first | (simp; done) | (simp; omega), Lib.hid (by rw [HPU.out, push_diff HGL.out (fun h => hb h.2.1)]), HOKN, T7.out, P7.out⟩
                    case measure => simp [intOf]; omega
                · skip
                  go_wp2_with fail
                  go_quiet (fail)
                  obtain ⟨i0, hi9, hz0, hz1, hz2⟩ := info_parts infoPt
                  go_wp2_with (at_builtin; refine wpList_append_own _ rfl _ _ 51 rfl (LO) 138 i0 (.agg #[.int .i64 0, .int .i64 0, .int .i64 0, .int .i64 0]) 4 32 Try.underlying51 hi9 hz0 hz1 hz2 rfl (by decide) _ _ _ rfl (own_bel (own_bel H2m.out (below_drewN w5 _)) (below_alloc _ _)) ⟨w5.heap.size, 0, none⟩ 1 1 [.int .i64 x, .int .i64 (nv).A, .int .i64 (nv).B, .int .i64 (nv).C] rfl rfl ?cd1 ?cd2 ?cd3 ?cd4 ?cd5 ?_)
                  try case cd1 => exact news9 (w := w5.drewN _) (cs := #[.int .i64 x, .int .i64 (nv).A, .int .i64 (nv).B, .int .i64 (nv).C]) rfl
                  try case cd1 =>
                    intro j y hy
                    match j, hy with
                    | 0, hy => (simp at hy; subst hy; simp [Addr.add])
                    | 1, hy => (simp at hy; subst hy; simp [Addr.add])
                    | 2, hy => (simp at hy; subst hy; simp [Addr.add])
                    | 3, hy => (simp at hy; subst hy; simp [Addr.add])
                  try case cd2 => simp [Value.oneCell']
                  case cd3 => unfold maxLen; skip; omega
                  case cd4 => skip; omega
                  try case cd5 => first | omega | (simp <;> omega)
                  intro v6 w6 own6 hg6 _
                  rw [← HM.out] at own6 hg6
                  have T7' := (T5.out.bel' (bstep (below_drewN w5 nq) (below_alloc (w5.drewN nq) (.cells #[.int .i64 x, .int .i64 (nv).A, .int .i64 (nv).B, .int .i64 (nv).C] 138)))).put (q := mkQ x (nv)) (bx_below H1.out (bstep (below_drewN w5 nq) (below_alloc (w5.drewN nq) (.cells #[.int .i64 x, .int .i64 (nv).A, .int .i64 (nv).B, .int .i64 (nv).C] 138)))) (own_bel H2.out (bstep (below_drewN w5 nq) (below_alloc (w5.drewN nq) (.cells #[.int .i64 x, .int .i64 (nv).A, .int .i64 (nv).B, .int .i64 (nv).C] 138)))) own6 hg6
                  have P7' := (P5.out.bel' (bstep (below_drewN w5 nq) (below_alloc (w5.drewN nq) (.cells #[.int .i64 x, .int .i64 (nv).A, .int .i64 (nv).B, .int .i64 (nv).C] 138)))).put (x := v6) (own_bel H2.out (bstep (below_drewN w5 nq) (below_alloc (w5.drewN nq) (.cells #[.int .i64 x, .int .i64 (nv).A, .int .i64 (nv).B, .int .i64 (nv).C] 138)))) hg6 (b := BB) (by omega)
                  obtain ⟨X6, c6, rfl, rd6⟩ := own_rd own6
                  have e6 := bx_grown (bx_below H1.out (bstep (below_drewN w5 nq) (below_alloc (w5.drewN nq) (.cells #[.int .i64 x, .int .i64 (nv).A, .int .i64 (nv).B, .int .i64 (nv).C] 138)))) hg6 (own_ne (own_bel H2.out (bstep (below_drewN w5 nq) (below_alloc (w5.drewN nq) (.cells #[.int .i64 x, .int .i64 (nv).A, .int .i64 (nv).B, .int .i64 (nv).C] 138)))) (bx_below H1.out (bstep (below_drewN w5 nq) (below_alloc (w5.drewN nq) (.cells #[.int .i64 x, .int .i64 (nv).A, .int .i64 (nv).B, .int .i64 (nv).C] 138)))) (by decide))
                  have g0 := bx_cell e6 0 rfl
                  have gf := bx_frz e6
                  simp only [List.getElem_toArray, List.getElem_cons_zero, List.getElem_cons_succ] at g0
                  have T7 := Lib.hid T7'
                  have P7 := Lib.hid P7'
                  clear T7' P7' rd6 own6 hi9 hz0 hz1 hz2 k0 kf hg6 e6 e0 e1 e2
                  go_wp2
                  go_roundw
                  case rel => exact ⟨k + 1, out ++ [mkQ x (nv)], by omega, by go_num, by first | (simp; done) | (simp; omega), Lib.hid (by rw [HPU.out, push_diff HGL.out (fun h => ha h.1)]), HOKN, T7.out, P7.out⟩
                  case measure => simp [intOf]; omega
          · have HVA : Hid (valAt ps lo hi FF x = fv) := Lib.hid (by rw [valAt_out hin, ← HFV.out])
            have HOKN : Hid (okTo ps lo hi FB (TL.take (k + 1))) := Lib.hid (okTo_snoc HOK2.out HX.out (fun h1 h2 => absurd ⟨h1, h2⟩ hin))
            have T5 := Lib.hid (T2.out.bel' (below_alloc w2 (.cells #[.int .i64 fv.A, .int .i64 fv.B, .int .i64 fv.C] 57)))
            have P5 := Lib.hid (P2'.out.bel' (below_alloc w2 (.cells #[.int .i64 fv.A, .int .i64 fv.B, .int .i64 fv.C] 57)))
            have e0 : (w2.alloc (.cells #[.int .i64 fv.A, .int .i64 fv.B, .int .i64 fv.C] 57)).cell? ⟨w2.heap.size, 0, none⟩ = some (.int .i64 fv.A) := by simp [go_sem]
            have e1 : (w2.alloc (.cells #[.int .i64 fv.A, .int .i64 fv.B, .int .i64 fv.C] 57)).cell? ⟨w2.heap.size, 1, none⟩ = some (.int .i64 fv.B) := by simp [go_sem]
            have e2 : (w2.alloc (.cells #[.int .i64 fv.A, .int .i64 fv.B, .int .i64 fv.C] 57)).cell? ⟨w2.heap.size, 2, none⟩ = some (.int .i64 fv.C) := by simp [go_sem]
            have hbt : w2.heap.size < (w2.alloc (.cells #[.int .i64 fv.A, .int .i64 fv.B, .int .i64 fv.C] 57)).heap.size := by simp
            by_cases hin1 : lo ≤ x
            · have hin2 : ¬ x < hi := fun h => hin ⟨hin1, h⟩
              clear hin
              go_upto_region 18 with fail
              clear T2 P2'
              generalize w2.alloc (.cells #[.int .i64 fv.A, .int .i64 fv.B, .int .i64 fv.C] 57) = w5 at *
              generalize w2.heap.size = bt at *
              obtain ⟨X, cx, h1, h2⟩ := T5.out.bx
              have k0 := bx_cell h1 0 rfl
              have kf := bx_frz h1
              have hlb := heap_lt h1
              simp only [List.getElem_toArray, List.getElem_cons_zero, List.getElem_cons_succ] at k0
              have H1 := Lib.hid h1
              have H2 := Lib.hid h2
              clear h1 h2
              have HPU : Hid (chL (valAt ps lo hi FF) (TL.take (k + 1)) = push out x (fv)) := Lib.hid (by rw [take_snoc' HX.out, chL_snoc, ← HO.out, HVA.out])
              have hlt0 := hol
              cases hgl : out.getLast? with
              | none =>
                have hnil : out = [] := List.getLast?_eq_none_iff.1 hgl
                subst hnil
                clear hgl
                simp only [List.length_nil] at k0 hol
                go_wp2_with fail
                go_quiet (fail)
                obtain ⟨i0, hi9, hz0, hz1, hz2⟩ := info_parts infoPt
                go_wp2_with (at_builtin; refine wpList_append_own _ rfl _ _ 51 rfl (LO) 138 i0 (.agg #[.int .i64 0, .int .i64 0, .int .i64 0, .int .i64 0]) 4 32 Try.underlying51 hi9 hz0 hz1 hz2 rfl (by decide) _ _ _ rfl (own_bel (own_bel H2.out (below_drewN w5 _)) (below_alloc _ _)) ⟨w5.heap.size, 0, none⟩ 1 1 [.int .i64 x, .int .i64 (fv).A, .int .i64 (fv).B, .int .i64 (fv).C] rfl rfl ?ca1 ?ca2 ?ca3 ?ca4 ?ca5 ?_)
                try case ca1 => exact news9 (w := w5.drewN _) (cs := #[.int .i64 x, .int .i64 (fv).A, .int .i64 (fv).B, .int .i64 (fv).C]) rfl
                try case ca1 =>
                  intro j y hy
                  match j, hy with
                  | 0, hy => (simp at hy; subst hy; simp [Addr.add])
                  | 1, hy => (simp at hy; subst hy; simp [Addr.add])
                  | 2, hy => (simp at hy; subst hy; simp [Addr.add])
                  | 3, hy => (simp at hy; subst hy; simp [Addr.add])
                try case ca2 => simp [Value.oneCell']
                case ca3 => unfold maxLen; skip; omega
                case ca4 => skip; omega
                try case ca5 => first | omega | (simp <;> omega)
                intro v6 w6 own6 hg6 _
                have T7' := (T5.out.bel' (bstep (below_drewN w5 nq) (below_alloc (w5.drewN nq) (.cells #[.int .i64 x, .int .i64 (fv).A, .int .i64 (fv).B, .int .i64 (fv).C] 138)))).put (q := mkQ x (fv)) (bx_below H1.out (bstep (below_drewN w5 nq) (below_alloc (w5.drewN nq) (.cells #[.int .i64 x, .int .i64 (fv).A, .int .i64 (fv).B, .int .i64 (fv).C] 138)))) (own_bel H2.out (bstep (below_drewN w5 nq) (below_alloc (w5.drewN nq) (.cells #[.int .i64 x, .int .i64 (fv).A, .int .i64 (fv).B, .int .i64 (fv).C] 138)))) own6 hg6
                have P7' := (P5.out.bel' (bstep (below_drewN w5 nq) (below_alloc (w5.drewN nq) (.cells #[.int .i64 x, .int .i64 (fv).A, .int .i64 (fv).B, .int .i64 (fv).C] 138)))).put (x := v6) (own_bel H2.out (bstep (below_drewN w5 nq) (below_alloc (w5.drewN nq) (.cells #[.int .i64 x, .int .i64 (fv).A, .int .i64 (fv).B, .int .i64 (fv).C] 138)))) hg6 (b := BB) (by omega)
                obtain ⟨X6, c6, rfl, rd6⟩ := own_rd own6
                have e6 := bx_grown (bx_below H1.out (bstep (below_drewN w5 nq) (below_alloc (w5.drewN nq) (.cells #[.int .i64 x, .int .i64 (fv).A, .int .i64 (fv).B, .int .i64 (fv).C] 138)))) hg6 (own_ne (own_bel H2.out (bstep (below_drewN w5 nq) (below_alloc (w5.drewN nq) (.cells #[.int .i64 x, .int .i64 (fv).A, .int .i64 (fv).B, .int .i64 (fv).C] 138)))) (bx_below H1.out (bstep (below_drewN w5 nq) (below_alloc (w5.drewN nq) (.cells #[.int .i64 x, .int .i64 (fv).A, .int .i64 (fv).B, .int .i64 (fv).C] 138)))) (by decide))
                have g0 := bx_cell e6 0 rfl
                have gf := bx_frz e6
                simp only [List.getElem_toArray, List.getElem_cons_zero, List.getElem_cons_succ] at g0
                have T7 := Lib.hid T7'
                have P7 := Lib.hid P7'
                clear T7' P7' rd6 own6 hi9 hz0 hz1 hz2 k0 kf hg6 e6 e0 e1 e2
                go_wp2
                go_roundw
                case rel => exact ⟨k + 1, ([] : List Q) ++ [mkQ x (fv)], by omega, by go_num, by first | (simp; done) | (simp; omega), Lib.hid (by rw [HPU.out, push_nil]), HOKN, T7.out, P7.out⟩
                case measure => simp [intOf]; omega
              | some q =>
                obtain ⟨m, hm⟩ : ∃ m, out.length = m + 1 := by
                  cases out with
                  | nil => simp at hgl
                  | cons a r => exact ⟨r.length, rfl⟩
                have hql : out[m]? = some q := by
                  rw [List.getLast?_eq_getElem?, hm] at hgl; simpa using hgl
                have H2m : Hid (w5.ownsRow LO 138 4 (.slice X (m + 1) cx) (m + 1) (flat out)) := Lib.hid (by have := H2.out; rwa [hm] at this)
                obtain ⟨g1, q', rfl, hq', d0, d1, d2, d3⟩ := Rd.q (own_rdd' H2m.out) (k := m) (by omega)
                have hqq : q' = q := by rw [hql] at hq'; exact (Option.some.inj hq').symm
                subst hqq
                have hg1 := own_blk H2m.out g1 rfl
                rw [hm] at k0 hol
                have HM := Lib.hid hm
                have HGL := Lib.hid hgl
                clear hm hql hq' hgl d0
                have hm1 : (m : Int) < (m : Int) + 1 := by omega
                have hm2 : ¬ ((m : Int) + 1 = 0) := by omega
                have hm3 : ((m : Int) + 1 == 0) = false := by simp; omega
                have hm4 : IntKind.i64.wrap ((m : Int) + 1 - 1) = (m : Int) := by rw [IntWalk.i64_in _ (by omega)]; omega
                have hm5 : (0 : Int) ≤ (m : Int) := by omega
                by_cases ha : q'.a = (fv).A
                · by_cases hb : q'.b = (fv).B
                  · by_cases hc : q'.c = (fv).C
                    · have HSM : Hid (push out x (fv) = out) := Lib.hid (push_same HGL.out ha hb hc)
                      go_wp2_with fail
                      go_quiet (fail)
                      go_wp2
                      go_roundw
                      case rel => exact ⟨k + 1, out, by omega, by go_num, by have := HM.out; omega, Lib.hid (by rw [HPU.out, HSM.out]), HOKN, T5.out.bel' (below_drewN _ _), P5.out.bel' (below_drewN _ _)⟩
                      case measure => simp [intOf]; omega
                    · skip
                      go_wp2_with fail
                      go_quiet (fail)
                      obtain ⟨i0, hi9, hz0, hz1, hz2⟩ := info_parts infoPt
                      go_wp2_with (at_builtin; refine wpList_append_own _ rfl _ _ 51 rfl (LO) 138 i0 (.agg #[.int .i64 0, .int .i64 0, .int .i64 0, .int .i64 0]) 4 32 Try.underlying51 hi9 hz0 hz1 hz2 rfl (by decide) _ _ _ rfl (own_bel (own_bel H2m.out (below_drewN w5 _)) (below_alloc _ _)) ⟨w5.heap.size, 0, none⟩ 1 1 [.int .i64 x, .int .i64 (fv).A, .int .i64 (fv).B, .int .i64 (fv).C] rfl rfl ?cb1 ?cb2 ?cb3 ?cb4 ?cb5 ?_)
                      try case cb1 => exact news9 (w := w5.drewN _) (cs := #[.int .i64 x, .int .i64 (fv).A, .int .i64 (fv).B, .int .i64 (fv).C]) rfl
                      try case cb1 =>
                        intro j y hy
                        match j, hy with
                        | 0, hy => (simp at hy; subst hy; simp [Addr.add])
                        | 1, hy => (simp at hy; subst hy; simp [Addr.add])
                        | 2, hy => (simp at hy; subst hy; simp [Addr.add])
                        | 3, hy => (simp at hy; subst hy; simp [Addr.add])
                      try case cb2 => simp [Value.oneCell']
                      case cb3 => unfold maxLen; skip; omega
                      case cb4 => skip; omega
                      try case cb5 => first | omega | (simp <;> omega)
                      intro v6 w6 own6 hg6 _
                      rw [← HM.out] at own6 hg6
                      have T7' := (T5.out.bel' (bstep (below_drewN w5 nq) (below_alloc (w5.drewN nq) (.cells #[.int .i64 x, .int .i64 (fv).A, .int .i64 (fv).B, .int .i64 (fv).C] 138)))).put (q := mkQ x (fv)) (bx_below H1.out (bstep (below_drewN w5 nq) (below_alloc (w5.drewN nq) (.cells #[.int .i64 x, .int .i64 (fv).A, .int .i64 (fv).B, .int .i64 (fv).C] 138)))) (own_bel H2.out (bstep (below_drewN w5 nq) (below_alloc (w5.drewN nq) (.cells #[.int .i64 x, .int .i64 (fv).A, .int .i64 (fv).B, .int .i64 (fv).C] 138)))) own6 hg6
                      have P7' := (P5.out.bel' (bstep (below_drewN w5 nq) (below_alloc (w5.drewN nq) (.cells #[.int .i64 x, .int .i64 (fv).A, .int .i64 (fv).B, .int .i64 (fv).C] 138)))).put (x := v6) (own_bel H2.out (bstep (below_drewN w5 nq) (below_alloc (w5.drewN nq) (.cells #[.int .i64 x, .int .i64 (fv).A, .int .i64 (fv).B, .int .i64 (fv).C] 138)))) hg6 (b := BB) (by omega)
                      obtain ⟨X6, c6, rfl, rd6⟩ := own_rd own6
                      have e6 := bx_grown (bx_below H1.out (bstep (below_drewN w5 nq) (below_alloc (w5.drewN nq) (.cells #[.int .i64 x, .int .i64 (fv).A, .int .i64 (fv).B, .int .i64 (fv).C] 138)))) hg6 (own_ne (own_bel H2.out (bstep (below_drewN w5 nq) (below_alloc (w5.drewN nq) (.cells #[.int .i64 x, .int .i64 (fv).A, .int .i64 (fv).B, .int .i64 (fv).C] 138)))) (bx_below H1.out (bstep (below_drewN w5 nq) (below_alloc (w5.drewN nq) (.cells #[.int .i64 x, .int .i64 (fv).A, .int .i64 (fv).B, .int .i64 (fv).C] 138)))) (by decide))
                      have g0 := bx_cell e6 0 rfl
                      have gf := bx_frz e6
                      simp only [List.getElem_toArray, List.getElem_cons_zero, List.getElem_cons_succ] at g0
                      have T7 := Lib.hid T7'
                      have P7 := Lib.hid P7'
                      clear T7' P7' rd6 own6 hi9 hz0 hz1 hz2 k0 kf hg6 e6 e0 e1 e2
                      go_wp2
                      go_roundw
                      case rel => exact ⟨k + 1, out ++ [mkQ x (fv)], by omega, by go_num, by first | (simp; done) | (simp; omega), Lib.hid (by rw [HPU.out, push_diff HGL.out (fun h => hc h.2.2)]), HOKN, T7.out, P7.out⟩
                      case measure => simp [intOf]; omega
                  · skip
                    go_wp2_with fail
                    go_quiet (fail)
                    obtain ⟨i0, hi9, hz0, hz1, hz2⟩ := info_parts infoPt
                    go_wp2_with (at_builtin; refine wpList_append_own _ rfl _ _ 51 rfl (LO) 138 i0 (.agg #[.int .i64 0, .int .i64 0, .int .i64 0, .int .i64 0]) 4 32 Try.underlying51 hi9 hz0 hz1 hz2 rfl (by decide) _ _ _ rfl (own_bel (own_bel H2m.out (below_drewN w5 _)) (below_alloc _ _)) ⟨w5.heap.size, 0, none⟩ 1 1 [.int .i64 x, .int .i64 (fv).A, .int .i64 (fv).B, .int .i64 (fv).C] rfl rfl ?cc1 ?cc2 ?cc3 ?cc4 ?cc5 ?_)
                    try case cc1 => exact news9 (w := w5.drewN _) (cs := #[.int .i64 x, .int .i64 (fv).A, .int .i64 (fv).B, .int .i64 (fv).C]) rfl
                    try case cc1 =>
                      intro j y hy
                      match j, hy with
                      | 0, hy => (simp at hy; subst hy; simp [Addr.add])
                      | 1, hy => (simp at hy; subst hy; simp [Addr.add])
                      | 2, hy => (simp at hy; subst hy; simp [Addr.add])
                      | 3, hy => (simp at hy; subst hy; simp [Addr.add])
                    try case cc2 => simp [Value.oneCell']
                    case cc3 => unfold maxLen; skip; omega
                    case cc4 => skip; omega
                    try case cc5 => first | omega | (simp <;> omega)
                    intro v6 w6 own6 hg6 _
                    rw [← HM.out] at own6 hg6
                    have T7' := (T5.out.bel' (bstep (below_drewN w5 nq) (below_alloc (w5.drewN nq) (.cells #[.int .i64 x, .int .i64 (fv).A, .int .i64 (fv).B, .int .i64 (fv).C] 138)))).put (q := mkQ x (fv)) (bx_below H1.out (bstep (below_drewN w5 nq) (below_alloc (w5.drewN nq) (.cells #[.int .i64 x, .int .i64 (fv).A, .int .i64 (fv).B, .int .i64 (fv).C] 138)))) (own_bel H2.out (bstep (below_drewN w5 nq) (below_alloc (w5.drewN nq) (.cells #[.int .i64 x, .int .i64 (fv).A, .int .i64 (fv).B, .int .i64 (fv).C] 138)))) own6 hg6
                    have P7' := (P5.out.bel' (bstep (below_drewN w5 nq) (below_alloc (w5.drewN nq) (.cells #[.int .i64 x, .int .i64 (fv).A, .int .i64 (fv).B, .int .i64 (fv).C] 138)))).put (x := v6) (own_bel H2.out (bstep (below_drewN w5 nq) (below_alloc (w5.drewN nq) (.cells #[.int .i64 x, .int .i64 (fv).A, .int .i64 (fv).B, .int .i64 (fv).C] 138)))) hg6 (b := BB) (by omega)
                    obtain ⟨X6, c6, rfl, rd6⟩ := own_rd own6
                    have e6 := bx_grown (bx_below H1.out (bstep (below_drewN w5 nq) (below_alloc (w5.drewN nq) (.cells #[.int .i64 x, .int .i64 (fv).A, .int .i64 (fv).B, .int .i64 (fv).C] 138)))) hg6 (own_ne (own_bel H2.out (bstep (below_drewN w5 nq) (below_alloc (w5.drewN nq) (.cells #[.int .i64 x, .int .i64 (fv).A, .int .i64 (fv).B, .int .i64 (fv).C] 138)))) (bx_below H1.out (bstep (below_drewN w5 nq) (below_alloc (w5.drewN nq) (.cells #[.int .i64 x, .int .i64 (fv).A, .int .i64 (fv).B, .int .i64 (fv).C] 138)))) (by decide))
                    have g0 := bx_cell e6 0 rfl
                    have gf := bx_frz e6
                    simp only [List.getElem_toArray, List.getElem_cons_zero, List.getElem_cons_succ] at g0
                    have T7 := Lib.hid T7'
                    have P7 := Lib.hid P7'
                    clear T7' P7' rd6 own6 hi9 hz0 hz1 hz2 k0 kf hg6 e6 e0 e1 e2
                    go_wp2
                    go_roundw
                    case rel => exact ⟨k + 1, out ++ [mkQ x (fv)], by omega, by go_num, by first | (simp; done) | (simp; omega), Lib.hid (by rw [HPU.out, push_diff HGL.out (fun h => hb h.2.1)]), HOKN, T7.out, P7.out⟩
                    case measure => simp [intOf]; omega
                · skip
                  go_wp2_with fail
                  go_quiet (fail)
                  obtain ⟨i0, hi9, hz0, hz1, hz2⟩ := info_parts infoPt
                  go_wp2_with (at_builtin; refine wpList_append_own _ rfl _ _ 51 rfl (LO) 138 i0 (.agg #[.int .i64 0, .int .i64 0, .int .i64 0, .int .i64 0]) 4 32 Try.underlying51 hi9 hz0 hz1 hz2 rfl (by decide) _ _ _ rfl (own_bel (own_bel H2m.out (below_drewN w5 _)) (below_alloc _ _)) ⟨w5.heap.size, 0, none⟩ 1 1 [.int .i64 x, .int .i64 (fv).A, .int .i64 (fv).B, .int .i64 (fv).C] rfl rfl ?cd1 ?cd2 ?cd3 ?cd4 ?cd5 ?_)
                  try case cd1 => exact news9 (w := w5.drewN _) (cs := #[.int .i64 x, .int .i64 (fv).A, .int .i64 (fv).B, .int .i64 (fv).C]) rfl
                  try case cd1 =>
                    intro j y hy
                    match j, hy with
                    | 0, hy => (simp at hy; subst hy; simp [Addr.add])
                    | 1, hy => (simp at hy; subst hy; simp [Addr.add])
                    | 2, hy => (simp at hy; subst hy; simp [Addr.add])
                    | 3, hy => (simp at hy; subst hy; simp [Addr.add])
                  try case cd2 => simp [Value.oneCell']
                  case cd3 => unfold maxLen; skip; omega
                  case cd4 => skip; omega
                  try case cd5 => first | omega | (simp <;> omega)
                  intro v6 w6 own6 hg6 _
                  rw [← HM.out] at own6 hg6
                  have T7' := (T5.out.bel' (bstep (below_drewN w5 nq) (below_alloc (w5.drewN nq) (.cells #[.int .i64 x, .int .i64 (fv).A, .int .i64 (fv).B, .int .i64 (fv).C] 138)))).put (q := mkQ x (fv)) (bx_below H1.out (bstep (below_drewN w5 nq) (below_alloc (w5.drewN nq) (.cells #[.int .i64 x, .int .i64 (fv).A, .int .i64 (fv).B, .int .i64 (fv).C] 138)))) (own_bel H2.out (bstep (below_drewN w5 nq) (below_alloc (w5.drewN nq) (.cells #[.int .i64 x, .int .i64 (fv).A, .int .i64 (fv).B, .int .i64 (fv).C] 138)))) own6 hg6
                  have P7' := (P5.out.bel' (bstep (below_drewN w5 nq) (below_alloc (w5.drewN nq) (.cells #[.int .i64 x, .int .i64 (fv).A, .int .i64 (fv).B, .int .i64 (fv).C] 138)))).put (x := v6) (own_bel H2.out (bstep (below_drewN w5 nq) (below_alloc (w5.drewN nq) (.cells #[.int .i64 x, .int .i64 (fv).A, .int .i64 (fv).B, .int .i64 (fv).C] 138)))) hg6 (b := BB) (by omega)
                  obtain ⟨X6, c6, rfl, rd6⟩ := own_rd own6
                  have e6 := bx_grown (bx_below H1.out (bstep (below_drewN w5 nq) (below_alloc (w5.drewN nq) (.cells #[.int .i64 x, .int .i64 (fv).A, .int .i64 (fv).B, .int .i64 (fv).C] 138)))) hg6 (own_ne (own_bel H2.out (bstep (below_drewN w5 nq) (below_alloc (w5.drewN nq) (.cells #[.int .i64 x, .int .i64 (fv).A, .int .i64 (fv).B, .int .i64 (fv).C] 138)))) (bx_below H1.out (bstep (below_drewN w5 nq) (below_alloc (w5.drewN nq) (.cells #[.int .i64 x, .int .i64 (fv).A, .int .i64 (fv).B, .int .i64 (fv).C] 138)))) (by decide))
                  have g0 := bx_cell e6 0 rfl
                  have gf := bx_frz e6
                  simp only [List.getElem_toArray, List.getElem_cons_zero, List.getElem_cons_succ] at g0
                  have T7 := Lib.hid T7'
                  have P7 := Lib.hid P7'
                  clear T7' P7' rd6 own6 hi9 hz0 hz1 hz2 k0 kf hg6 e6 e0 e1 e2
                  go_wp2
                  go_roundw
                  case rel => exact ⟨k + 1, out ++ [mkQ x (fv)], by omega, by go_num, by first | (simp; done) | (simp; omega), Lib.hid (by rw [HPU.out, push_diff HGL.out (fun h => ha h.1)]), HOKN, T7.out, P7.out⟩
                  case measure => simp [intOf]; omega
            · clear hin
              go_upto_region 18 with fail
              clear T2 P2'
              generalize w2.alloc (.cells #[.int .i64 fv.A, .int .i64 fv.B, .int .i64 fv.C] 57) = w5 at *
              generalize w2.heap.size = bt at *
              obtain ⟨X, cx, h1, h2⟩ := T5.out.bx
              have k0 := bx_cell h1 0 rfl
              have kf := bx_frz h1
              have hlb := heap_lt h1
              simp only [List.getElem_toArray, List.getElem_cons_zero, List.getElem_cons_succ] at k0
              have H1 := Lib.hid h1
              have H2 := Lib.hid h2
              clear h1 h2
              have HPU : Hid (chL (valAt ps lo hi FF) (TL.take (k + 1)) = push out x (fv)) := Lib.hid (by rw [take_snoc' HX.out, chL_snoc, ← HO.out, HVA.out])
              have hlt0 := hol
              cases hgl : out.getLast? with
              | none =>
                have hnil : out = [] := List.getLast?_eq_none_iff.1 hgl
                subst hnil
                clear hgl
                simp only [List.length_nil] at k0 hol
                go_wp2_with fail
                go_quiet (fail)
                obtain ⟨i0, hi9, hz0, hz1, hz2⟩ := info_parts infoPt
                go_wp2_with (at_builtin; refine wpList_append_own _ rfl _ _ 51 rfl (LO) 138 i0 (.agg #[.int .i64 0, .int .i64 0, .int .i64 0, .int .i64 0]) 4 32 Try.underlying51 hi9 hz0 hz1 hz2 rfl (by decide) _ _ _ rfl (own_bel (own_bel H2.out (below_drewN w5 _)) (below_alloc _ _)) ⟨w5.heap.size, 0, none⟩ 1 1 [.int .i64 x, .int .i64 (fv).A, .int .i64 (fv).B, .int .i64 (fv).C] rfl rfl ?ca1 ?ca2 ?ca3 ?ca4 ?ca5 ?_)
                try case ca1 => exact news9 (w := w5.drewN _) (cs := #[.int .i64 x, .int .i64 (fv).A, .int .i64 (fv).B, .int .i64 (fv).C]) rfl
                try case ca1 =>
                  intro j y hy
                  match j, hy with
                  | 0, hy => (simp at hy; subst hy; simp [Addr.add])
                  | 1, hy => (simp at hy; subst hy; simp [Addr.add])
                  | 2, hy => (simp at hy; subst hy; simp [Addr.add])
                  | 3, hy => (simp at hy; subst hy; simp [Addr.add])
                try case ca2 => simp [Value.oneCell']
                case ca3 => unfold maxLen; skip; omega
                case ca4 => skip; omega
                try case ca5 => first | omega | (simp <;> omega)
                intro v6 w6 own6 hg6 _
                have T7' := (T5.out.bel' (bstep (below_drewN w5 nq) (below_alloc (w5.drewN nq) (.cells #[.int .i64 x, .int .i64 (fv).A, .int .i64 (fv).B, .int .i64 (fv).C] 138)))).put (q := mkQ x (fv)) (bx_below H1.out (bstep (below_drewN w5 nq) (below_alloc (w5.drewN nq) (.cells #[.int .i64 x, .int .i64 (fv).A, .int .i64 (fv).B, .int .i64 (fv).C] 138)))) (own_bel H2.out (bstep (below_drewN w5 nq) (below_alloc (w5.drewN nq) (.cells #[.int .i64 x, .int .i64 (fv).A, .int .i64 (fv).B, .int .i64 (fv).C] 138)))) own6 hg6
                have P7' := (P5.out.bel' (bstep (below_drewN w5 nq) (below_alloc (w5.drewN nq) (.cells #[.int .i64 x, .int .i64 (fv).A, .int .i64 (fv).B, .int .i64 (fv).C] 138)))).put (x := v6) (own_bel H2.out (bstep (below_drewN w5 nq) (below_alloc (w5.drewN nq) (.cells #[.int .i64 x, .int .i64 (fv).A, .int .i64 (fv).B, .int .i64 (fv).C] 138)))) hg6 (b := BB) (by omega)
                obtain ⟨X6, c6, rfl, rd6⟩ := own_rd own6
                have e6 := bx_grown (bx_below H1.out (bstep (below_drewN w5 nq) (below_alloc (w5.drewN nq) (.cells #[.int .i64 x, .int .i64 (fv).A, .int .i64 (fv).B, .int .i64 (fv).C] 138)))) hg6 (own_ne (own_bel H2.out (bstep (below_drewN w5 nq) (below_alloc (w5.drewN nq) (.cells #[.int .i64 x, .int .i64 (fv).A, .int .i64 (fv).B, .int .i64 (fv).C] 138)))) (bx_below H1.out (bstep (below_drewN w5 nq) (below_alloc (w5.drewN nq) (.cells #[.int .i64 x, .int .i64 (fv).A, .int .i64 (fv).B, .int .i64 (fv).C] 138)))) (by decide))
                have g0 := bx_cell e6 0 rfl
                have gf := bx_frz e6
                simp only [List.getElem_toArray, List.getElem_cons_zero, List.getElem_cons_succ] at g0
                have T7 := Lib.hid T7'
                have P7 := Lib.hid P7'
                clear T7' P7' rd6 own6 hi9 hz0 hz1 hz2 k0 kf hg6 e6 e0 e1 e2
                go_wp2
                go_roundw
                case rel => exact ⟨k + 1, ([] : List Q) ++ [mkQ x (fv)], by omega, by go_num, by first | (simp; done) | (simp; omega), Lib.hid (by rw [HPU.out, push_nil]), HOKN, T7.out, P7.out⟩
                case measure => simp [intOf]; omega
              | some q =>
                obtain ⟨m, hm⟩ : ∃ m, out.length = m + 1 := by
                  cases out with
                  | nil => simp at hgl
                  | cons a r => exact ⟨r.length, rfl⟩
                have hql : out[m]? = some q := by
                  rw [List.getLast?_eq_getElem?, hm] at hgl; simpa using hgl
                have H2m : Hid (w5.ownsRow LO 138 4 (.slice X (m + 1) cx) (m + 1) (flat out)) := Lib.hid (by have := H2.out; rwa [hm] at this)
                obtain ⟨g1, q', rfl, hq', d0, d1, d2, d3⟩ := Rd.q (own_rdd' H2m.out) (k := m) (by omega)
                have hqq : q' = q := by rw [hql] at hq'; exact (Option.some.inj hq').symm
                subst hqq
                have hg1 := own_blk H2m.out g1 rfl
                rw [hm] at k0 hol
                have HM := Lib.hid hm
                have HGL := Lib.hid hgl
                clear hm hql hq' hgl d0
                have hm1 : (m : Int) < (m : Int) + 1 := by omega
                have hm2 : ¬ ((m : Int) + 1 = 0) := by omega
                have hm3 : ((m : Int) + 1 == 0) = false := by simp; omega
                have hm4 : IntKind.i64.wrap ((m : Int) + 1 - 1) = (m : Int) := by rw [IntWalk.i64_in _ (by omega)]; omega
                have hm5 : (0 : Int) ≤ (m : Int) := by omega
                by_cases ha : q'.a = (fv).A
                · by_cases hb : q'.b = (fv).B
                  · by_cases hc : q'.c = (fv).C
                    · have HSM : Hid (push out x (fv) = out) := Lib.hid (push_same HGL.out ha hb hc)
                      go_wp2_with fail
                      go_quiet (fail)
                      go_wp2
                      go_roundw
                      case rel => exact ⟨k + 1, out, by omega, by go_num, by have := HM.out; omega, Lib.hid (by rw [HPU.out, HSM.out]), HOKN, T5.out.bel' (below_drewN _ _), P5.out.bel' (below_drewN _ _)⟩
                      case measure => simp [intOf]; omega
                    · skip
                      go_wp2_with fail
                      go_quiet (fail)
                      obtain ⟨i0, hi9, hz0, hz1, hz2⟩ := info_parts infoPt
                      go_wp2_with (at_builtin; refine wpList_append_own _ rfl _ _ 51 rfl (LO) 138 i0 (.agg #[.int .i64 0, .int .i64 0, .int .i64 0, .int .i64 0]) 4 32 Try.underlying51 hi9 hz0 hz1 hz2 rfl (by decide) _ _ _ rfl (own_bel (own_bel H2m.out (below_drewN w5 _)) (below_alloc _ _)) ⟨w5.heap.size, 0, none⟩ 1 1 [.int .i64 x, .int .i64 (fv).A, .int .i64 (fv).B, .int .i64 (fv).C] rfl rfl ?cb1 ?cb2 ?cb3 ?cb4 ?cb5 ?_)
                      try case cb1 => exact news9 (w := w5.drewN _) (cs := #[.int .i64 x, .int .i64 (fv).A, .int .i64 (fv).B, .int .i64 (fv).C]) rfl
                      try case cb1 =>
                        intro j y hy
                        match j, hy with
                        | 0, hy => (simp at hy; subst hy; simp [Addr.add])
                        | 1, hy => (simp at hy; subst hy; simp [Addr.add])
                        | 2, hy => (simp at hy; subst hy; simp [Addr.add])
                        | 3, hy => (simp at hy; subst hy; simp [Addr.add])
                      try case cb2 => simp [Value.oneCell']
                      case cb3 => unfold maxLen; skip; omega
                      case cb4 => skip; omega
                      try case cb5 => first | omega | (simp <;> omega)
                      intro v6 w6 own6 hg6 _
                      rw [← HM.out] at own6 hg6
                      have T7' := (T5.out.bel' (bstep (below_drewN w5 nq) (below_alloc (w5.drewN nq) (.cells #[.int .i64 x, .int .i64 (fv).A, .int .i64 (fv).B, .int .i64 (fv).C] 138)))).put (q := mkQ x (fv)) (bx_below H1.out (bstep (below_drewN w5 nq) (below_alloc (w5.drewN nq) (.cells #[.int .i64 x, .int .i64 (fv).A, .int .i64 (fv).B, .int .i64 (fv).C] 138)))) (own_bel H2.out (bstep (below_drewN w5 nq) (below_alloc (w5.drewN nq) (.cells #[.int .i64 x, .int .i64 (fv).A, .int .i64 (fv).B, .int .i64 (fv).C] 138)))) own6 hg6
                      have P7' := (P5.out.bel' (bstep (below_drewN w5 nq) (below_alloc (w5.drewN nq) (.cells #[.int .i64 x, .int .i64 (fv).A, .int .i64 (fv).B, .int .i64 (fv).C] 138)))).put (x := v6) (own_bel H2.out (bstep (below_drewN w5 nq) (below_alloc (w5.drewN nq) (.cells #[.int .i64 x, .int .i64 (fv).A, .int .i64 (fv).B, .int .i64 (fv).C] 138)))) hg6 (b := BB) (by omega)
                      obtain ⟨X6, c6, rfl, rd6⟩ := own_rd own6
                      have e6 := bx_grown (bx_below H1.out (bstep (below_drewN w5 nq) (below_alloc (w5.drewN nq) (.cells #[.int .i64 x, .int .i64 (fv).A, .int .i64 (fv).B, .int .i64 (fv).C] 138)))) hg6 (own_ne (own_bel H2.out (bstep (below_drewN w5 nq) (below_alloc (w5.drewN nq) (.cells #[.int .i64 x, .int .i64 (fv).A, .int .i64 (fv).B, .int .i64 (fv).C] 138)))) (bx_below H1.out (bstep (below_drewN w5 nq) (below_alloc (w5.drewN nq) (.cells #[.int .i64 x, .int .i64 (fv).A, .int .i64 (fv).B, .int .i64 (fv).C] 138)))) (by decide))
                      have g0 := bx_cell e6 0 rfl
                      have gf := bx_frz e6
                      simp only [List.getElem_toArray, List.getElem_cons_zero, List.getElem_cons_succ] at g0
                      have T7 := Lib.hid T7'
                      have P7 := Lib.hid P7'
                      clear T7' P7' rd6 own6 hi9 hz0 hz1 hz2 k0 kf hg6 e6 e0 e1 e2
                      go_wp2
                      go_roundw
                      case rel => exact ⟨k + 1, out ++ [mkQ x (fv)], by omega, by go_num, by first | (simp; done) | (simp; omega), Lib.hid (by rw [HPU.out, push_diff HGL.out (fun h => hc h.2.2)]), HOKN, T7.out, P7.out⟩
                      case measure => simp [intOf]; omega
                  · skip
                    go_wp2_with fail
                    go_quiet (fail)
                    obtain ⟨i0, hi9, hz0, hz1, hz2⟩ := info_parts infoPt
                    go_wp2_with (at_builtin; refine wpList_append_own _ rfl _ _ 51 rfl (LO) 138 i0 (.agg #[.int .i64 0, .int .i64 0, .int .i64 0, .int .i64 0]) 4 32 Try.underlying51 hi9 hz0 hz1 hz2 rfl (by decide) _ _ _ rfl (own_bel (own_bel H2m.out (below_drewN w5 _)) (below_alloc _ _)) ⟨w5.heap.size, 0, none⟩ 1 1 [.int .i64 x, .int .i64 (fv).A, .int .i64 (fv).B, .int .i64 (fv).C] rfl rfl ?cc1 ?cc2 ?cc3 ?cc4 ?cc5 ?_)
                    try case cc1 => exact news9 (w := w5.drewN _) (cs := #[.int .i64 x, .int .i64 (fv).A, .int .i64 (fv).B, .int .i64 (fv).C]) rfl
                    try case cc1 =>
                      intro j y hy
                      match j, hy with
                      | 0, hy => (simp at hy; subst hy; simp [Addr.add])
                      | 1, hy => (simp at hy; subst hy; simp [Addr.add])
                      | 2, hy => (simp at hy; subst hy; simp [Addr.add])
                      | 3, hy => (simp at hy; subst hy; simp [Addr.add])
                    try case cc2 => simp [Value.oneCell']
                    case cc3 => unfold maxLen; skip; omega
                    case cc4 => skip; omega
                    try case cc5 => first | omega | (simp <;> omega)
                    intro v6 w6 own6 hg6 _
                    rw [← HM.out] at own6 hg6
                    have T7' := (T5.out.bel' (bstep (below_drewN w5 nq) (below_alloc (w5.drewN nq) (.cells #[.int .i64 x, .int .i64 (fv).A, .int .i64 (fv).B, .int .i64 (fv).C] 138)))).put (q := mkQ x (fv)) (bx_below H1.out (bstep (below_drewN w5 nq) (below_alloc (w5.drewN nq) (.cells #[.int .i64 x, .int .i64 (fv).A, .int .i64 (fv).B, .int .i64 (fv).C] 138)))) (own_bel H2.out (bstep (below_drewN w5 nq) (below_alloc (w5.drewN nq) (.cells #[.int .i64 x, .int .i64 (fv).A, .int .i64 (fv).B, .int .i64 (fv).C] 138)))) own6 hg6
                    have P7' := (P5.out.bel' (bstep (below_drewN w5 nq) (below_alloc (w5.drewN nq) (.cells #[.int .i64 x, .int .i64 (fv).A, .int .i64 (fv).B, .int .i64 (fv).C] 138)))).put (x := v6) (own_bel H2.out (bstep (below_drewN w5 nq) (below_alloc (w5.drewN nq) (.cells #[.int .i64 x, .int .i64 (fv).A, .int .i64 (fv).B, .int .i64 (fv).C] 138)))) hg6 (b := BB) (by omega)
                    obtain ⟨X6, c6, rfl, rd6⟩ := own_rd own6
                    have e6 := bx_grown (bx_below H1.out (bstep (below_drewN w5 nq) (below_alloc (w5.drewN nq) (.cells #[.int .i64 x, .int .i64 (fv).A, .int .i64 (fv).B, .int .i64 (fv).C] 138)))) hg6 (own_ne (own_bel H2.out (bstep (below_drewN w5 nq) (below_alloc (w5.drewN nq) (.cells #[.int .i64 x, .int .i64 (fv).A, .int .i64 (fv).B, .int .i64 (fv).C] 138)))) (bx_below H1.out (bstep (below_drewN w5 nq) (below_alloc (w5.drewN nq) (.cells #[.int .i64 x, .int .i64 (fv).A, .int .i64 (fv).B, .int .i64 (fv).C] 138)))) (by decide))
                    have g0 := bx_cell e6 0 rfl
                    have gf := bx_frz e6
                    simp only [List.getElem_toArray, List.getElem_cons_zero, List.getElem_cons_succ] at g0
                    have T7 := Lib.hid T7'
                    have P7 := Lib.hid P7'
                    clear T7' P7' rd6 own6 hi9 hz0 hz1 hz2 k0 kf hg6 e6 e0 e1 e2
                    go_wp2
                    go_roundw
                    case rel => exact ⟨k + 1, out ++ [mkQ x (fv)], by omega, by go_num, by first | (simp; done) | (simp; omega), Lib.hid (by rw [HPU.out, push_diff HGL.out (fun h => hb h.2.1)]), HOKN, T7.out, P7.out⟩
                    case measure => simp [intOf]; omega
                · skip
                  go_wp2_with fail
                  go_quiet (fail)
                  obtain ⟨i0, hi9, hz0, hz1, hz2⟩ := info_parts infoPt
                  go_wp2_with (at_builtin; refine wpList_append_own _ rfl _ _ 51 rfl (LO) 138 i0 (.agg #[.int .i64 0, .int .i64 0, .int .i64 0, .int .i64 0]) 4 32 Try.underlying51 hi9 hz0 hz1 hz2 rfl (by decide) _ _ _ rfl (own_bel (own_bel H2m.out (below_drewN w5 _)) (below_alloc _ _)) ⟨w5.heap.size, 0, none⟩ 1 1 [.int .i64 x, .int .i64 (fv).A, .int .i64 (fv).B, .int .i64 (fv).C] rfl rfl ?cd1 ?cd2 ?cd3 ?cd4 ?cd5 ?_)
                  try case cd1 => exact news9 (w := w5.drewN _) (cs := #[.int .i64 x, .int .i64 (fv).A, .int .i64 (fv).B, .int .i64 (fv).C]) rfl
                  try case cd1 =>
                    intro j y hy
                    match j, hy with
                    | 0, hy => (simp at hy; subst hy; simp [Addr.add])
                    | 1, hy => (simp at hy; subst hy; simp [Addr.add])
                    | 2, hy => (simp at hy; subst hy; simp [Addr.add])
                    | 3, hy => (simp at hy; subst hy; simp [Addr.add])
                  try case cd2 => simp [Value.oneCell']
                  case cd3 => unfold maxLen; skip; omega
                  case cd4 => skip; omega
                  try case cd5 => first | omega | (simp <;> omega)
                  intro v6 w6 own6 hg6 _
                  rw [← HM.out] at own6 hg6
                  have T7' := (T5.out.bel' (bstep (below_drewN w5 nq) (below_alloc (w5.drewN nq) (.cells #[.int .i64 x, .int .i64 (fv).A, .int .i64 (fv).B, .int .i64 (fv).C] 138)))).put (q := mkQ x (fv)) (bx_below H1.out (bstep (below_drewN w5 nq) (below_alloc (w5.drewN nq) (.cells #[.int .i64 x, .int .i64 (fv).A, .int .i64 (fv).B, .int .i64 (fv).C] 138)))) (own_bel H2.out (bstep (below_drewN w5 nq) (below_alloc (w5.drewN nq) (.cells #[.int .i64 x, .int .i64 (fv).A, .int .i64 (fv).B, .int .i64 (fv).C] 138)))) own6 hg6
                  have P7' := (P5.out.bel' (bstep (below_drewN w5 nq) (below_alloc (w5.drewN nq) (.cells #[.int .i64 x, .int .i64 (fv).A, .int .i64 (fv).B, .int .i64 (fv).C] 138)))).put (x := v6) (own_bel H2.out (bstep (below_drewN w5 nq) (below_alloc (w5.drewN nq) (.cells #[.int .i64 x, .int .i64 (fv).A, .int .i64 (fv).B, .int .i64 (fv).C] 138)))) hg6 (b := BB) (by omega)
                  obtain ⟨X6, c6, rfl, rd6⟩ := own_rd own6
                  have e6 := bx_grown (bx_below H1.out (bstep (below_drewN w5 nq) (below_alloc (w5.drewN nq) (.cells #[.int .i64 x, .int .i64 (fv).A, .int .i64 (fv).B, .int .i64 (fv).C] 138)))) hg6 (own_ne (own_bel H2.out (bstep (below_drewN w5 nq) (below_alloc (w5.drewN nq) (.cells #[.int .i64 x, .int .i64 (fv).A, .int .i64 (fv).B, .int .i64 (fv).C] 138)))) (bx_below H1.out (bstep (below_drewN w5 nq) (below_alloc (w5.drewN nq) (.cells #[.int .i64 x, .int .i64 (fv).A, .int .i64 (fv).B, .int .i64 (fv).C] 138)))) (by decide))
                  have g0 := bx_cell e6 0 rfl
                  have gf := bx_frz e6
                  simp only [List.getElem_toArray, List.getElem_cons_zero, List.getElem_cons_succ] at g0
                  have T7 := Lib.hid T7'
                  have P7 := Lib.hid P7'
                  clear T7' P7' rd6 own6 hi9 hz0 hz1 hz2 k0 kf hg6 e6 e0 e1 e2
                  go_wp2
                  go_roundw
                  case rel => exact ⟨k + 1, out ++ [mkQ x (fv)], by omega, by go_num, by first | (simp; done) | (simp; omega), Lib.hid (by rw [HPU.out, push_diff HGL.out (fun h => ha h.1)]), HOKN, T7.out, P7.out⟩
                  case measure => simp [intOf]; omega
        · have hkT : k = TL.length := by omega
          have hlt' : ¬ (k : Int) < TL.length := by omega
          have HCB : Hid (chgB ps lo hi FB = true) := Lib.hid (okTo_all (by
            have := HOK2.out
            rwa [hkT, List.take_length, HTL.out] at this))
          have HCV : Hid (out = chgV ps lo hi FF) := Lib.hid (by
            have := HO.out
            rw [hkT, List.take_length, HTL.out] at this
            exact this)
          clear hkT
          obtain ⟨X, cx, h1, h2⟩ := T.out.bx
          have k0 := bx_cell h1 0 rfl
          have kf := bx_frz h1
          simp only [List.getElem_toArray, List.getElem_cons_zero, List.getElem_cons_succ] at k0
          have H2 := Lib.hid h2
          clear h1 h2
          by_cases h200 : out.length ≤ 200
          · have h201 : ¬ (200 : Int) < out.length := by omega
            have HBF : Hid (cgB ps lo hi FF FB = true) := Lib.hid (by unfold cgB; rw [← HCV.out, HCB.out, decide_eq_true h200]; rfl)
            clear h200
            have r0 := bx_cell T.out.res 0 rfl
            have rf := bx_frz T.out.res
            simp only [List.getElem_toArray, List.getElem_cons_zero, List.getElem_cons_succ] at r0
            go_wp2
            (try go_light)
            refine bodyPost_ret (v := .tuple #[.agg #[.slice X out.length cx], .bool true]) (by simp [results, Try.results95, go_sem, *]) rfl ?_
            refine ⟨_, by rw [HBF.out], ?_, ?_⟩
            · unfold cgV; rw [HBF.out, if_pos rfl, ← HCV.out]
              exact own_mono (own_set H2.out (own_ne H2.out T.out.res (by decide)) _) T.out.hb.2.2.2
            · exact T.out.bel.setCell (by simp <;> omega) _
          · have h201 : (200 : Int) < out.length := by omega
            have HBF : Hid (cgB ps lo hi FF FB = false) := Lib.hid (by unfold cgB; rw [← HCV.out, decide_eq_false h200, Bool.and_false])
            clear h200
            have r0 := bx_cell T.out.res 0 rfl
            have rf := bx_frz T.out.res
            simp only [List.getElem_toArray, List.getElem_cons_zero, List.getElem_cons_succ] at r0
            go_wp2
            (try go_light)
            refine bodyPost_ret (v := .tuple #[.agg #[.slice none 0 0], .bool false]) (by simp [results, Try.results95, go_sem, *]) rfl ?_
            refine ⟨_, by rw [HBF.out], ?_, ?_⟩
            · unfold cgV; rw [HBF.out]; exact own_nil _ _ _ _
            · exact T.out.bel.setCell (by simp <;> omega) _
end Go.Proofs.Ytpfcegjomdppmaa
