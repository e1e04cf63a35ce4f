/-
  The times of a profile with two more.
-/
import Derived.Test.YtpfcegjomdppmaaA5
import Derived.Test.YtpfcegjomdppmaaA7
import Derived.Test.YtpfcegjomdppmaaA8
namespace Go.Proofs.Ytpfcegjomdppmaa
set_option linter.unusedSimpArgs false
set_option linter.unusedVariables false
set_option linter.unnecessarySimpa false
open Go.RowKit
def tmN (ps : List Q) (lo hi : Int) : Nat → List Int
  | 0 => ps.map (·.t)
  | 1 => insT lo (ps.map (·.t))
  | _ => timesL ps lo hi
def tmK (ps : List Q) (k : Nat) : List Int := (ps.take k).map (·.t)
theorem tmK_len (ps : List Q) (k : Nat) : (tmK ps k).length ≤ k := by unfold tmK; simp; omega
theorem tmK_succ {ps : List Q} {k : Nat} {q : Q} (h : ps[k]? = some q) : tmK ps (k + 1) = tmK ps k ++ [q.t] := by unfold tmK; rw [take_snoc' h, List.map_append, List.map_singleton]
theorem tmK_all {ps : List Q} {n : Nat} (h : ps.length = n) (lo hi : Int) : tmK ps n = tmN ps lo hi 0 := by unfold tmK; rw [take_all (by omega)]; rfl
theorem insT_len (t : Int) (xs : List Int) : (insT t xs).length ≤ xs.length + 1 := by
  induction xs with
  | nil => simp [insT]
  | cons x r ih =>
    unfold insT
    split
    · have := List.length_filter_le (fun y => decide (y ≠ t)) (x :: r)
      simp only [List.length_cons] at this ⊢; omega
    · simp only [List.length_cons]; omega
theorem tmN_len (ps : List Q) (lo hi : Int) (i : Nat) : (tmN ps lo hi i).length ≤ ps.length + 2 := by
  match i with
  | 0 => simp [tmN]
  | 1 => have := insT_len lo (ps.map (·.t)); simp [tmN] at this ⊢; omega
  | i + 2 => exact timesL_len ps lo hi
theorem insF_len (t : Int) : ∀ (xs : List Int) (s : List Int × Bool), (xs.foldl (insF t) s).1.length ≤ s.1.length + 2 * xs.length
  | [], s => by simp
  | x :: r, s => by
    have h := insF_len t r (insF t s x)
    have h1 : (insF t s x).1.length ≤ s.1.length + 2 := by unfold insF; split <;> (try split) <;> simp <;> (try split) <;> simp
    simp only [List.foldl_cons, List.length_cons]; omega
theorem fold_snoc {xs : List Int} {k : Nat} {x t : Int} (h : xs[k]? = some x) (s : List Int × Bool) : (xs.take (k + 1)).foldl (insF t) s = insF t ((xs.take k).foldl (insF t) s) x := by
  rw [take_snoc' h, List.foldl_append]; rfl

/-- What the inner loop keeps: the row that grows, and all that lay below. -/
structure TK (B : Nat) (w0 wr : World) (v : Value) (xs : List Int) : Prop where
  own : wr.ownsRow B 3 1 v xs.length (ints xs)
  bel : Below B w0 wr
  le : B ≤ w0.heap.size
theorem TK.put {B : Nat} {w0 wr wa w1 : World} {v v' : Value} {xs : List Int} {x : Int} (h : TK B w0 wr v xs) (hb : Below wr.heap.size wr wa) (hv : w1.ownsRow B 3 1 v' (xs.length + 1) (ints xs ++ [.int .i64 x])) (hg : wa.grownBy w1 v.ownBlock) : TK B w0 w1 v' (xs ++ [x]) := by
  have hs := h.bel.size
  have hs2 := hb.size
  have h1 := h.le
  exact ⟨by rw [ints_snoc, List.length_append]; exact hv, Below.grown (h.bel.trans (hb.mono (by omega))) hg (by omega) (fun k hk => own_ge h.own k hk), h.le⟩
theorem TK.bel' {B : Nat} {w0 wr w1 : World} {v : Value} {xs : List Int} (h : TK B w0 wr v xs) (hb : Below wr.heap.size wr w1) : TK B w0 w1 v xs :=
  ⟨own_bel h.own hb, h.bel.trans (hb.mono (Nat.le_trans h.le h.bel.size)), h.le⟩
set_option maxHeartbeats 4000000 in
set_option maxRecDepth 20000 in
theorem stimes_any (A : Option Addr) (n c : Nat) (ps : List Q) (lo hi : Int) (w : World) (hn : n ≤ 1048576) (hr : Rd w A n 4 (flat ps)) (hl : ∀ g, A = some ⟨g, 0, none⟩ → g < w.heap.size) :
    Calls Try.prog 143 #[.agg #[.slice A n c], .int .i64 lo, .int .i64 hi] w fun e w' => ∃ u, e = .returned u ∧ w'.ownsRow w.heap.size 3 1 u (timesL ps lo hi).length (ints (timesL ps lo hi)) ∧ Below w.heap.size w w' := by
  have hpl : ps.length = n := by have := hr.1; rw [flat_len] at this; omega
  have hm : n ≤ 9223372036854775807 := by omega
  have HN := Lib.hid hn
  have HR := Lib.hid hr
  have HL := Lib.hid hl
  have HP := Lib.hid hpl
  clear hn hr hl hpl
  go_enter Try.func143, Try.ntmps143
  go_wp2
  go_loopw [7, 20] (fun v i wr => ∃ k : Nat, k ≤ n ∧ i = .int .i64 k ∧ TK (w.heap.size) w wr v (tmK ps k)) (fun _ i _ => n - (intOf i).toNat)
  case atStart =>
    refine ⟨0, Nat.zero_le _, rfl, ?_, (by repeat (first | exact Below.refl _ _ | assumption | (refine bstep ?_ (below_drewN _ _)) | exact bstep (by assumption) (by assumption) | (refine bstep ?_ (below_alloc _ _)) | (refine bstep ?_ (by assumption)) | (refine Below.setCell ?_ (by simp <;> omega) _) | refine Below.drew ?_)), Nat.le_refl _⟩
    show (World.ownsRow _ _ _ _ _ 0 [])
    exact own_lit (cs := []) (heap_at _ (by simp)) rfl (by decide) (by omega)
  case round =>
    obtain ⟨k, hk, rfl, T'⟩ := hrel
    have T := Lib.hid T'
    clear T'
    by_cases hlt : k < n
    · have hlt' : (k : Int) < n := by omega
      have hbw := T.out.bel
      obtain ⟨g, q, rfl, hq, d0, d1, d2, d3⟩ := HR.out.q hlt
      have hg := HL.out g rfl
      have D0 := (hbw.cell (p := ⟨g, k * 4, none⟩) hg).trans d0
      have D1 := (hbw.cell (p := ⟨g, k * 4 + 1, none⟩) hg).trans d1
      have D2 := (hbw.cell (p := ⟨g, k * 4 + 2, none⟩) hg).trans d2
      have D3 := (hbw.cell (p := ⟨g, k * 4 + 3, none⟩) hg).trans d3
      have hgr : g < wr.heap.size := Nat.lt_of_lt_of_le hg hbw.size
      have HS := Lib.hid (tmK_succ hq)
      have hlen : (tmK ps k).length ≤ n := Nat.le_trans (tmK_len ps k) hk
      have HLE := Lib.hid hlen
      clear d0 d1 d2 d3 hq hbw hlen
      obtain ⟨i0, hi, hz0, hz1, hz2⟩ := info_parts infoI
      have hle0 := T.out.bel.size
      go_wp2_with (at_builtin; refine wpList_append_own _ rfl _ _ 23 rfl (w.heap.size) 3 i0 (.int .i64 0) 1 8 Try.underlying23 hi hz0 hz1 hz2 rfl (by decide) _ _ _ rfl (own_bel (own_bel T.out.own (below_alloc _ _)) (below_alloc _ _)) ⟨wr.heap.size + 1, 0, none⟩ 1 1 [.int .i64 q.t] rfl rfl ?ca1 ?ca2 ?ca3 ?ca4 ?ca5 ?_)
      try case ca1 =>
        intro j y hy
        match j, hy with
        | 0, hy => (simp at hy; subst hy; simp [Addr.add])
      try case ca2 => simp [Value.oneCell']
      case ca3 => unfold maxLen; have := HN.out; have := HLE.out; omega
      case ca4 => have := HN.out; have := HLE.out; omega
      try case ca5 => first | omega | (simp <;> omega)
      intro v1 w1 own1 hg1 _
      have T1 := Lib.hid (T.out.put (bstep (below_alloc _ _) (below_alloc _ _)) own1 hg1)
      clear own1 hg1 hi hz0 hz1 hz2
      go_wp2
      go_roundw
      case rel => exact ⟨k + 1, by omega, by go_num, by rw [HS.out]; exact T1.out⟩
      case measure => simp [intOf]; omega
    · have hlt' : ¬ (k : Int) < n := by omega
      have hkn : k = n := by omega
      have hk9 : tmK ps k = tmN ps lo hi 0 := by rw [hkn]; exact tmK_all HP.out lo hi
      rw [hk9] at T
      clear hk9 hkn
      have HPS := Lib.hid (show ps.length ≤ n by have := HP.out; omega)
      go_wp2
      generalize hbq0 : wr.heap.size = bq
      have HBQ0 := Lib.hid hbq0.symm
      clear hbq0
      go_loopw [7, 34] (fun v i wq => ∃ j : Nat, j ≤ 2 ∧ i = .int .i64 j ∧ TK (w.heap.size) w wq v (tmN ps lo hi j) ∧ wq.heap[bq]? = some (.cells #[.int .i64 lo, .int .i64 hi] 3 (0, 0))) (fun _ i _ => 2 - (intOf i).toNat)
      case atStart => exact ⟨0, by omega, rfl, T.out.bel' (below_alloc _ _), heap_at _ HBQ0.out⟩
      case round =>
        clear T
        obtain ⟨j, hj, rfl, T', hbq⟩ := hrel
        have T := Lib.hid T'
        clear T'
        by_cases hj2 : j < 2
        · have hj2' : (j : Int) < 2 := by omega
          obtain ⟨wo, hwo⟩ : ∃ x, x = wr := ⟨wr, rfl⟩
          subst hwo
          obtain ⟨A1, c1, rfl, rd1⟩ := own_rd T.out.own
          clear rd1
          have hbl := heap_lt hbq
          have hx : ∃ t, wo.cell? ⟨bq, j, none⟩ = some (.int .i64 t) ∧ tmN ps lo hi (j + 1) = insT t (tmN ps lo hi j) := by
            have h01 : j = 0 ∨ j = 1 := by omega
            rcases h01 with rfl | rfl
            · exact ⟨lo, bx_cell hbq 0 rfl, rfl⟩
            · exact ⟨hi, bx_cell hbq 1 rfl, rfl⟩
          obtain ⟨t, ct, hins⟩ := hx
          have HI := Lib.hid hins
          have HBQ := Lib.hid hbq
          have hXl := Nat.le_trans (tmN_len ps lo hi j) (show ps.length + 2 ≤ n + 2 by have := HPS.out; omega)
          clear hins hbq
          generalize tmN ps lo hi j = X at *
          have HN' := HN.out
          have HEND := Lib.hid (insF_all t X [])
          go_wp2
          go_loopw [12, 13, 41] (fun v dv iv wi => ∃ (m : Nat) (S : List Int × Bool), m ≤ X.length ∧ iv = .int .i64 m ∧ dv = .bool S.2 ∧ Hid (S = (X.take m).foldl (insF t) ([], false)) ∧ S.1.length ≤ 2 * m ∧ TK wo.heap.size wo wi v S.1) (fun _ _ iv _ => X.length - (intOf iv).toNat)
          case atStart => exact ⟨0, ([], false), Nat.zero_le _, rfl, rfl, Lib.hid rfl, Nat.le_refl _, own_empty wo _, below_alloc _ _, Nat.le_refl _⟩
          case round =>
            obtain ⟨m, ⟨acc, dn⟩, hm, rfl, rfl, HS, hSl, T2'⟩ := hrel
            dsimp only at hSl T2'
            have T2 := Lib.hid T2'
            clear T2'
            dsimp only
            have hle2 := T2.out.bel.size
            by_cases hml : m < X.length
            · have hml' : (m : Int) < X.length := by omega
              obtain ⟨g1, x, rfl, hx, cx⟩ := Rd.int ((own_rdd' T.out.own).below (own_blk T.out.own) T2.out.bel) hml
              have hg1 : g1 < wr.heap.size := Nat.lt_of_lt_of_le (own_blk T.out.own g1 rfl) hle2
              have HF : Hid ((X.take (m + 1)).foldl (insF t) ([], false) = insF t (acc, dn) x) := Lib.hid (by rw [fold_snoc hx, ← HS.out])
              clear hx
              cases dn
              · by_cases hle : t ≤ x
                · skip
                  obtain ⟨i0, hi, hz0, hz1, hz2⟩ := info_parts infoI
                  have hlw1 := T2.out.bel.size
                  go_wp2_with (at_builtin; refine wpList_append_own _ rfl _ _ 23 rfl (wo.heap.size) 3 i0 (.int .i64 0) 1 8 Try.underlying23 hi hz0 hz1 hz2 rfl (by decide) _ _ _ rfl (own_bel T2.out.own (below_alloc _ _)) ⟨wr.heap.size, 0, none⟩ 1 1 [.int .i64 t] rfl rfl ?ca1 ?ca2 ?ca3 ?ca4 ?ca5 ?_)
                  try case ca1 =>
                    intro j y hy
                    match j, hy with
                    | 0, hy => (simp at hy; subst hy; simp [Addr.add])
                  try case ca2 => simp [Value.oneCell']
                  case ca3 => unfold maxLen; skip; omega
                  case ca4 => skip; omega
                  try case ca5 => first | omega | (simp <;> omega)
                  intro v1 w1 own1 hg1 _
                  have T3' := T2.out.put (x := t) (below_alloc _ _) own1 hg1
                  obtain ⟨acc2, hacc2'⟩ : ∃ p, p = acc ++ [t] := ⟨_, rfl⟩
                  have hacc2l : acc2.length ≤ acc.length + 1 := by rw [hacc2']; simp
                  rw [← hacc2'] at T3'
                  have hacc2 := Lib.hid hacc2'
                  have T3 := Lib.hid T3'
                  clear T3' own1 hg1 hi hz0 hz1 hz2 hacc2'
                  by_cases hxt : x = t
                  · subst hxt
                    go_wp2
                    go_roundw
                    case rel => exact ⟨m + 1, (acc2, true), by omega, by go_num, rfl, Lib.hid (by rw [HF.out, hacc2.out]; simp [insF]), by dsimp only; omega, T3.out⟩
                    case measure => simp [intOf]; omega
                  · skip
                    obtain ⟨i0, hi, hz0, hz1, hz2⟩ := info_parts infoI
                    have hlw2 := T3.out.bel.size
                    go_wp2_with (at_builtin; refine wpList_append_own _ rfl _ _ 23 rfl (wo.heap.size) 3 i0 (.int .i64 0) 1 8 Try.underlying23 hi hz0 hz1 hz2 rfl (by decide) _ _ _ rfl (own_bel T3.out.own (below_alloc _ _)) ⟨w1.heap.size, 0, none⟩ 1 1 [.int .i64 x] rfl rfl ?cb1 ?cb2 ?cb3 ?cb4 ?cb5 ?_)
                    try case cb1 =>
                      intro j y hy
                      match j, hy with
                      | 0, hy => (simp at hy; subst hy; simp [Addr.add])
                    try case cb2 => simp [Value.oneCell']
                    case cb3 => unfold maxLen; skip; omega
                    case cb4 => skip; omega
                    try case cb5 => first | omega | (simp <;> omega)
                    intro v2 w2 own2 hg2 _
                    have T4' := T3.out.put (x := x) (below_alloc _ _) own2 hg2
                    obtain ⟨acc3, hacc3'⟩ : ∃ p, p = acc2 ++ [x] := ⟨_, rfl⟩
                    have hacc3l : acc3.length ≤ acc2.length + 1 := by rw [hacc3']; simp
                    rw [← hacc3'] at T4'
                    have hacc3 := Lib.hid hacc3'
                    have T4 := Lib.hid T4'
                    clear T4' own2 hg2 hi hz0 hz1 hz2 hacc3'
                    go_wp2
                    go_roundw
                    case rel => exact ⟨m + 1, (acc3, true), by omega, by go_num, rfl, Lib.hid (by rw [HF.out, hacc3.out, hacc2.out]; simp [insF, hle, hxt]), by dsimp only; omega, T4.out⟩
                    case measure => simp [intOf]; omega
                · have hxt : ¬ x = t := by omega
                  have hle' : x < t := by omega
                  obtain ⟨i0, hi, hz0, hz1, hz2⟩ := info_parts infoI
                  have hlw1 := T2.out.bel.size
                  go_wp2_with (at_builtin; refine wpList_append_own _ rfl _ _ 23 rfl (wo.heap.size) 3 i0 (.int .i64 0) 1 8 Try.underlying23 hi hz0 hz1 hz2 rfl (by decide) _ _ _ rfl (own_bel T2.out.own (below_alloc _ _)) ⟨wr.heap.size, 0, none⟩ 1 1 [.int .i64 x] rfl rfl ?cc1 ?cc2 ?cc3 ?cc4 ?cc5 ?_)
                  try case cc1 =>
                    intro j y hy
                    match j, hy with
                    | 0, hy => (simp at hy; subst hy; simp [Addr.add])
                  try case cc2 => simp [Value.oneCell']
                  case cc3 => unfold maxLen; skip; omega
                  case cc4 => skip; omega
                  try case cc5 => first | omega | (simp <;> omega)
                  intro v1 w1 own1 hg1 _
                  have T3' := T2.out.put (x := x) (below_alloc _ _) own1 hg1
                  obtain ⟨acc2, hacc2'⟩ : ∃ p, p = acc ++ [x] := ⟨_, rfl⟩
                  have hacc2l : acc2.length ≤ acc.length + 1 := by rw [hacc2']; simp
                  rw [← hacc2'] at T3'
                  have hacc2 := Lib.hid hacc2'
                  have T3 := Lib.hid T3'
                  clear T3' own1 hg1 hi hz0 hz1 hz2 hacc2'
                  go_wp2
                  go_roundw
                  case rel => exact ⟨m + 1, (acc2, false), by omega, by go_num, rfl, Lib.hid (by rw [HF.out, hacc2.out]; simp [insF, show ¬ t ≤ x by omega, hxt]), by dsimp only; omega, T3.out⟩
                  case measure => simp [intOf]; omega
              · by_cases hxt : x = t
                · subst hxt
                  go_wp2
                  go_roundw
                  case rel => exact ⟨m + 1, (acc, true), by omega, by go_num, rfl, Lib.hid (by rw [HF.out]; simp [insF]), by dsimp only; omega, T2.out⟩
                  case measure => simp [intOf]; omega
                · skip
                  obtain ⟨i0, hi, hz0, hz1, hz2⟩ := info_parts infoI
                  have hlw1 := T2.out.bel.size
                  go_wp2_with (at_builtin; refine wpList_append_own _ rfl _ _ 23 rfl (wo.heap.size) 3 i0 (.int .i64 0) 1 8 Try.underlying23 hi hz0 hz1 hz2 rfl (by decide) _ _ _ rfl (own_bel T2.out.own (below_alloc _ _)) ⟨wr.heap.size, 0, none⟩ 1 1 [.int .i64 x] rfl rfl ?cd1 ?cd2 ?cd3 ?cd4 ?cd5 ?_)
                  try case cd1 =>
                    intro j y hy
                    match j, hy with
                    | 0, hy => (simp at hy; subst hy; simp [Addr.add])
                  try case cd2 => simp [Value.oneCell']
                  case cd3 => unfold maxLen; skip; omega
                  case cd4 => skip; omega
                  try case cd5 => first | omega | (simp <;> omega)
                  intro v1 w1 own1 hg1 _
                  have T3' := T2.out.put (x := x) (below_alloc _ _) own1 hg1
                  obtain ⟨acc2, hacc2'⟩ : ∃ p, p = acc ++ [x] := ⟨_, rfl⟩
                  have hacc2l : acc2.length ≤ acc.length + 1 := by rw [hacc2']; simp
                  rw [← hacc2'] at T3'
                  have hacc2 := Lib.hid hacc2'
                  have T3 := Lib.hid T3'
                  clear T3' own1 hg1 hi hz0 hz1 hz2 hacc2'
                  go_wp2
                  go_roundw
                  case rel => exact ⟨m + 1, (acc2, true), by omega, by go_num, rfl, Lib.hid (by rw [HF.out, hacc2.out]; simp [insF, hxt]), by dsimp only; omega, T3.out⟩
                  case measure => simp [intOf]; omega
            · have hml' : ¬ (m : Int) < X.length := by omega
              have hmX : m = X.length := by omega
              have HE : Hid (insE t (acc, dn) = insT t X) := Lib.hid (by rw [HS.out, hmX, List.take_length, HEND.out]; rfl)
              clear hmX
              cases dn
              · skip
                obtain ⟨i0, hi, hz0, hz1, hz2⟩ := info_parts infoI
                have hlw1 := T2.out.bel.size
                go_wp2_with (at_builtin; refine wpList_append_own _ rfl _ _ 23 rfl (wo.heap.size) 3 i0 (.int .i64 0) 1 8 Try.underlying23 hi hz0 hz1 hz2 rfl (by decide) _ _ _ rfl (own_bel T2.out.own (below_alloc _ _)) ⟨wr.heap.size, 0, none⟩ 1 1 [.int .i64 t] rfl rfl ?ce1 ?ce2 ?ce3 ?ce4 ?ce5 ?_)
                try case ce1 =>
                  intro j y hy
                  match j, hy with
                  | 0, hy => (simp at hy; subst hy; simp [Addr.add])
                try case ce2 => simp [Value.oneCell']
                case ce3 => unfold maxLen; skip; omega
                case ce4 => skip; omega
                try case ce5 => first | omega | (simp <;> omega)
                intro v1 w1 own1 hg1 _
                have T3' := T2.out.put (x := t) (below_alloc _ _) own1 hg1
                obtain ⟨acc2, hacc2'⟩ : ∃ p, p = acc ++ [t] := ⟨_, rfl⟩
                have hacc2l : acc2.length ≤ acc.length + 1 := by rw [hacc2']; simp
                rw [← hacc2'] at T3'
                have hacc2 := Lib.hid hacc2'
                have T3 := Lib.hid T3'
                clear T3' own1 hg1 hi hz0 hz1 hz2 hacc2'
                go_wp2
                go_roundw
                case rel => exact ⟨j + 1, by omega, by go_num, by rw [HI.out, ← HE.out]; show TK _ _ _ _ (acc ++ [t]); rw [← hacc2.out]; exact ⟨own_mono T3.out.own T.out.bel.size, T.out.bel.trans (T3.out.bel.mono T.out.bel.size), Nat.le_refl _⟩, bx_below HBQ.out T3.out.bel⟩
                case measure => simp [intOf]; omega
              · go_wp2
                go_roundw
                case rel => exact ⟨j + 1, by omega, by go_num, by rw [HI.out, ← HE.out]; exact ⟨own_mono T2.out.own T.out.bel.size, T.out.bel.trans (T2.out.bel.mono T.out.bel.size), Nat.le_refl _⟩, bx_below HBQ.out T2.out.bel⟩
                case measure => simp [intOf]; omega
        · have hj2' : ¬ (j : Int) < 2 := by omega
          have hj9 : tmN ps lo hi j = timesL ps lo hi := by
            have : j = 2 := by omega
            rw [this]; rfl
          rw [hj9] at T
          clear hj9
          go_wp2
          go_ret
          exact ⟨_, rfl, T.out.own, T.out.bel⟩
end Go.Proofs.Ytpfcegjomdppmaa
