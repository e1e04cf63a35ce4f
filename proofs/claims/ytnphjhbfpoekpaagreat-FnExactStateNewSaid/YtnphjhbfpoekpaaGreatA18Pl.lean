import Derived.Test.YtnphjhbfpoekpaaGreatA5Pl
import Derived.Test.YtnphjhbfpoekpaaGreatA7Pl
import Derived.Test.YtnphjhbfpoekpaaGreatA8Pl
import Derived.Test.YtnphjhbfpoekpaaGreatA16Pl
import Derived.Deep.QuietTactic
import Derived.BigQuiet
import Derived.Deep.AppendLies
import Derived.Test.YtnphjhbfpoekpaaGreatA12Pl
import Derived.Test.YtnphjhbfpoekpaaGreatA19Pl
import Derived.Test.YtnphjhbfpoekpaaGreatA4Pl
import Derived.Shelf.Abstract
namespace Go.Proofs.YtnphjhbfpoekpaaGreat
set_option linter.unusedSimpArgs false
set_option linter.unusedVariables false
set_option linter.unnecessarySimpa false
open Go.RowKit
theorem zAl (w : World) (q : Nat) (x : Int) (v : V) : Below w.heap.size w ((w.drewN q).alloc (.cells #[.int .i64 x, .int .i64 v.A, .int .i64 v.B, .int .i64 v.C] 177)) := zAc (zAd w q) (zAa (w.drewN q) _)
def tmN (ps : List Q) (lo hi : Int) : Nat → List Int
 | 0 => ps.map (·.t)
 | 1 => insT lo (ps.map (·.t))
 | _ => timesL ps lo hi
def tmK (ps : List Q) (k : Nat) : List Int := (ps.take k).map (·.t)
theorem tmK_len (ps : List Q) (k : Nat) : (tmK ps k).length ≤ k := by unfold tmK; simp; omega
theorem tmK_succ {ps : List Q} {k : Nat} {q : Q} (h : ps[k]? = some q) : tmK ps (k + 1) = tmK ps k ++ [q.t] := by unfold tmK; rw [take_snoc' h, List.map_append, List.map_singleton]
theorem tmK_all {ps : List Q} {n : Nat} (h : ps.length = n) (lo hi : Int) : tmK ps n = tmN ps lo hi 0 := by unfold tmK; rw [take_all (by omega)]; rfl
theorem insT_len (t : Int) (xs : List Int) : (insT t xs).length ≤ xs.length + 1 := by
 induction xs with
 | nil => simp [insT]
 | cons x r ih =>
  unfold insT
  split
  ·have := List.length_filter_le (fun y => decide (y ≠ t)) (x :: r)
   simp only [List.length_cons] at this ⊢; omega
  ·simp only [List.length_cons]; omega
theorem tmN_len (ps : List Q) (lo hi : Int) (i : Nat) : (tmN ps lo hi i).length ≤ ps.length + 2 := by
 match i with
 | 0 => simp [tmN]
 | 1 => have := insT_len lo (ps.map (·.t)); simp [tmN] at this ⊢; omega
 | i + 2 => exact timesL_len ps lo hi
theorem fold_snoc {xs : List Int} {k : Nat} {x t : Int} (h : xs[k]? = some x) (s : List Int × Bool) : (xs.take (k + 1)).foldl (insF t) s = insF t ((xs.take k).foldl (insF t) s) x := by
 rw [take_snoc' h, List.foldl_append]; rfl
structure TK (B : Nat) (w0 wr : World) (v : Value) (xs : List Int) : Prop where
 own : wr.ownsRow B 3 1 v xs.length (ints xs)
 bel : Below B w0 wr
 le : B ≤ w0.heap.size
theorem TK.put {B : Nat} {w0 wr wa w1 : World} {v v' : Value} {xs : List Int} {x : Int} (h : TK B w0 wr v xs) (hb : Below wr.heap.size wr wa) (hv : w1.ownsRow B 3 1 v' (xs.length + 1) (ints xs ++ [.int .i64 x])) (hg : wa.grownBy w1 v.ownBlock) : TK B w0 w1 v' (xs ++ [x]) := by
 have hs := h.bel.size
 have hs2 := hb.size
 have h1 := h.le
 exact ⟨by rw [ints_snoc, List.length_append]; exact hv, Below.grown (h.bel.trans (hb.mono (by omega))) hg (by omega) (fun k hk => own_ge h.own k hk), h.le⟩
theorem TK.bel' {B : Nat} {w0 wr w1 : World} {v : Value} {xs : List Int} (h : TK B w0 wr v xs) (hb : Below wr.heap.size wr w1) : TK B w0 w1 v xs :=
 ⟨zAe h.own hb, h.bel.trans (hb.mono (Nat.le_trans h.le h.bel.size)), h.le⟩
set_option maxHeartbeats 4000000 in
set_option maxRecDepth 20000 in
theorem stimes_any (A : Option Addr) (n c : Nat) (ps : List Q) (lo hi : Int) (w : World) (hn : n ≤ 1048576) (hr : Rd w A n 4 (flat ps)) (hl : ∀ g, A = some ⟨g, 0, none⟩ → g < w.heap.size) :
  Calls Tryz.prog 244 #[.agg #[.slice A n c], .int .i64 lo, .int .i64 hi] w fun e w' => ∃ u, e = .returned u ∧ w'.ownsRow w.heap.size 3 1 u (timesL ps lo hi).length (ints (timesL ps lo hi)) ∧ Below w.heap.size w w' := by
 have hpl : ps.length = n := by have := hr.1; rw [flat_len] at this; omega
 have hm : n ≤ 9223372036854775807 := by omega
 have HN := Lib.hid hn
 have HR := Lib.hid hr
 have HL := Lib.hid hl
 have HP := Lib.hid hpl
 clear hn hr hl hpl
 go_enter Tryz.func244, Tryz.ntmps244
 go_wp2
 go_loopw [7, 20] (fun v i wr => ∃ k : Nat, k ≤ n ∧ i = .int .i64 k ∧ TK (w.heap.size) w wr v (tmK ps k)) (fun _ i _ => n - (intOf i).toNat)
 case atStart =>
  refine ⟨0, Nat.zero_le _, rfl, ?_, zBe, Nat.le_refl _⟩
  show (World.ownsRow _ _ _ _ _ 0 [])
  exact own_lit (cs := []) (zAk _ (by simp)) rfl (by decide) (by omega)
 case round =>
  obtain ⟨k, hk, rfl, T'⟩ := hrel
  have T := Lib.hid T'
  clear T'
  by_cases hlt : k < n
  ·have hlt' : (k : Int) < n := by omega
   have hbw := T.out.bel
   obtain ⟨g, q, rfl, hq, d0, d1, d2, d3⟩ := HR.out.q hlt
   have hg := HL.out g rfl
   have D0 := (hbw.cell (p := ⟨g, k * 4, none⟩) hg).trans d0
   have D1 := (hbw.cell (p := ⟨g, k * 4 + 1, none⟩) hg).trans d1
   have D2 := (hbw.cell (p := ⟨g, k * 4 + 2, none⟩) hg).trans d2
   have D3 := (hbw.cell (p := ⟨g, k * 4 + 3, none⟩) hg).trans d3
   have hgr : g < wr.heap.size := Nat.lt_of_lt_of_le hg hbw.size
   have HS := Lib.hid (tmK_succ hq)
   have hlen : (tmK ps k).length ≤ n := Nat.le_trans (tmK_len ps k) hk
   have HLE := Lib.hid hlen
   clear d0 d1 d2 d3 hq hbw hlen
   obtain ⟨i0, hi, hz0, hz1, hz2⟩ := info_parts infoI
   have hle0 := T.out.bel.size
   go_wp2_with (at_builtin; refine wpList_append_own _ rfl _ _ 23 rfl (w.heap.size) 3 i0 (.int .i64 0) 1 8 Tryz.underlying23 hi hz0 hz1 hz2 rfl (by decide) _ _ _ rfl (zAe (zAe T.out.own (zAa _ _)) (zAa _ _)) ⟨wr.heap.size + 1, 0, none⟩ 1 1 [.int .i64 q.t] rfl rfl ?ca1 ?ca2 ?ca3 ?ca4 ?ca5 ?_)
   try case ca1 =>
    intro j y hy
    match j, hy with
    | 0, hy => (simp at hy; subst hy; simp [Addr.add])
   try case ca2 => simp [Value.oneCell']
   case ca3 => unfold maxLen; have := HN.out; have := HLE.out; omega
   case ca4 => have := HN.out; have := HLE.out; omega
   try case ca5 => first | omega | (simp <;> omega)
   intro v1 w1 own1 hg1 _
   have T1 := Lib.hid (T.out.put (zAc (zAa _ _) (zAa _ _)) own1 hg1)
   clear own1 hg1 hi hz0 hz1 hz2
   go_wp2
   go_roundw
   case rel => exact ⟨k + 1, by omega, by go_num, by rw [HS.out]; exact T1.out⟩
   case measure => simp [intOf]; omega
  ·have hlt' : ¬ (k : Int) < n := by omega
   have hkn : k = n := by omega
   have hk9 : tmK ps k = tmN ps lo hi 0 := by rw [hkn]; exact tmK_all HP.out lo hi
   rw [hk9] at T
   clear hk9 hkn
   have HPS := Lib.hid (show ps.length ≤ n by have := HP.out; omega)
   go_wp2
   generalize hbq0 : wr.heap.size = bq
   have HBQ0 := Lib.hid hbq0.symm
   clear hbq0
   go_loopw [7, 34] (fun v i wq => ∃ j : Nat, j ≤ 2 ∧ i = .int .i64 j ∧ TK (w.heap.size) w wq v (tmN ps lo hi j) ∧ wq.heap[bq]? = some (.cells #[.int .i64 lo, .int .i64 hi] 3 (0, 0))) (fun _ i _ => 2 - (intOf i).toNat)
   case atStart => exact ⟨0, by omega, rfl, T.out.bel' (zAa _ _), zAk _ HBQ0.out⟩
   case round =>
    clear T
    obtain ⟨j, hj, rfl, T', hbq⟩ := hrel
    have T := Lib.hid T'
    clear T'
    by_cases hj2 : j < 2
    ·have hj2' : (j : Int) < 2 := by omega
     obtain ⟨wo, hwo⟩ : ∃ x, x = wr := ⟨wr, rfl⟩
     subst hwo
     obtain ⟨A1, c1, rfl, rd1⟩ := zAt T.out.own
     clear rd1
     have hbl := zAf hbq
     have hx : ∃ t, wo.cell? ⟨bq, j, none⟩ = some (.int .i64 t) ∧ tmN ps lo hi (j + 1) = insT t (tmN ps lo hi j) := by
      have h01 : j = 0 ∨ j = 1 := by omega
      rcases h01 with rfl | rfl
      ·exact ⟨lo, zAb hbq 0 rfl, rfl⟩
      ·exact ⟨hi, zAb hbq 1 rfl, rfl⟩
     obtain ⟨t, ct, hins⟩ := hx
     have HI := Lib.hid hins
     have HBQ := Lib.hid hbq
     have hXl := Nat.le_trans (tmN_len ps lo hi j) (show ps.length + 2 ≤ n + 2 by have := HPS.out; omega)
     clear hins hbq
     generalize tmN ps lo hi j = X at *
     have HN' := HN.out
     have HEND := Lib.hid (insF_all t X [])
     go_wp2
     go_loopw [12, 13, 41] (fun v dv iv wi => ∃ (m : Nat) (S : List Int × Bool), m ≤ X.length ∧ iv = .int .i64 m ∧ dv = .bool S.2 ∧ Hid (S = (X.take m).foldl (insF t) ([], false)) ∧ S.1.length ≤ 2 * m ∧ TK wo.heap.size wo wi v S.1) (fun _ _ iv _ => X.length - (intOf iv).toNat)
     case atStart => exact ⟨0, ([], false), Nat.zero_le _, rfl, rfl, Lib.hid rfl, Nat.le_refl _, own_empty wo _, zAa _ _, Nat.le_refl _⟩
     case round =>
      obtain ⟨m, ⟨acc, dn⟩, hm, rfl, rfl, HS, hSl, T2'⟩ := hrel
      dsimp only at hSl T2'
      have T2 := Lib.hid T2'
      clear T2'
      dsimp only
      have hle2 := T2.out.bel.size
      by_cases hml : m < X.length
      ·have hml' : (m : Int) < X.length := by omega
       obtain ⟨g1, x, rfl, hx, cx⟩ := Rd.int ((zAv T.out.own).below (own_blk T.out.own) T2.out.bel) hml
       have hg1 : g1 < wr.heap.size := Nat.lt_of_lt_of_le (own_blk T.out.own g1 rfl) hle2
       have HF : Hid ((X.take (m + 1)).foldl (insF t) ([], false) = insF t (acc, dn) x) := Lib.hid (by rw [fold_snoc hx, ← HS.out])
       clear hx
       cases dn
       ·by_cases hle : t ≤ x
        ·skip
         obtain ⟨i0, hi, hz0, hz1, hz2⟩ := info_parts infoI
         have hlw1 := T2.out.bel.size
         go_wp2_with (at_builtin; refine wpList_append_own _ rfl _ _ 23 rfl (wo.heap.size) 3 i0 (.int .i64 0) 1 8 Tryz.underlying23 hi hz0 hz1 hz2 rfl (by decide) _ _ _ rfl (zAe T2.out.own (zAa _ _)) ⟨wr.heap.size, 0, none⟩ 1 1 [.int .i64 t] rfl rfl ?ca1 ?ca2 ?ca3 ?ca4 ?ca5 ?_)
         try case ca1 =>
          intro j y hy
          match j, hy with
          | 0, hy => (simp at hy; subst hy; simp [Addr.add])
         try case ca2 => simp [Value.oneCell']
         case ca3 => unfold maxLen; skip; omega
         case ca4 => skip; omega
         try case ca5 => first | omega | (simp <;> omega)
         intro v1 w1 own1 hg1 _
         have T3' := T2.out.put (x := t) (zAa _ _) own1 hg1
         obtain ⟨acc2, hacc2'⟩ : ∃ p, p = acc ++ [t] := ⟨_, rfl⟩
         have hacc2l : acc2.length ≤ acc.length + 1 := by rw [hacc2']; simp
         rw [← hacc2'] at T3'
         have hacc2 := Lib.hid hacc2'
         have T3 := Lib.hid T3'
         clear T3' own1 hg1 hi hz0 hz1 hz2 hacc2'
         by_cases hxt : x = t
         ·subst hxt
          go_wp2
          go_roundw
          case rel => exact ⟨m + 1, (acc2, true), by omega, by go_num, rfl, Lib.hid (by rw [HF.out, hacc2.out]; simp [insF]), by dsimp only; omega, T3.out⟩
          case measure => simp [intOf]; omega
         ·skip
          obtain ⟨i0, hi, hz0, hz1, hz2⟩ := info_parts infoI
          have hlw2 := T3.out.bel.size
          go_wp2_with (at_builtin; refine wpList_append_own _ rfl _ _ 23 rfl (wo.heap.size) 3 i0 (.int .i64 0) 1 8 Tryz.underlying23 hi hz0 hz1 hz2 rfl (by decide) _ _ _ rfl (zAe T3.out.own (zAa _ _)) ⟨w1.heap.size, 0, none⟩ 1 1 [.int .i64 x] rfl rfl ?cb1 ?cb2 ?cb3 ?cb4 ?cb5 ?_)
          try case cb1 =>
           intro j y hy
           match j, hy with
           | 0, hy => (simp at hy; subst hy; simp [Addr.add])
          try case cb2 => simp [Value.oneCell']
          case cb3 => unfold maxLen; skip; omega
          case cb4 => skip; omega
          try case cb5 => first | omega | (simp <;> omega)
          intro v2 w2 own2 hg2 _
          have T4' := T3.out.put (x := x) (zAa _ _) own2 hg2
          obtain ⟨acc3, hacc3'⟩ : ∃ p, p = acc2 ++ [x] := ⟨_, rfl⟩
          have hacc3l : acc3.length ≤ acc2.length + 1 := by rw [hacc3']; simp
          rw [← hacc3'] at T4'
          have hacc3 := Lib.hid hacc3'
          have T4 := Lib.hid T4'
          clear T4' own2 hg2 hi hz0 hz1 hz2 hacc3'
          go_wp2
          go_roundw
          case rel => exact ⟨m + 1, (acc3, true), by omega, by go_num, rfl, Lib.hid (by rw [HF.out, hacc3.out, hacc2.out]; simp [insF, hle, hxt]), by dsimp only; omega, T4.out⟩
          case measure => simp [intOf]; omega
        ·have hxt : ¬ x = t := by omega
         have hle' : x < t := by omega
         obtain ⟨i0, hi, hz0, hz1, hz2⟩ := info_parts infoI
         have hlw1 := T2.out.bel.size
         go_wp2_with (at_builtin; refine wpList_append_own _ rfl _ _ 23 rfl (wo.heap.size) 3 i0 (.int .i64 0) 1 8 Tryz.underlying23 hi hz0 hz1 hz2 rfl (by decide) _ _ _ rfl (zAe T2.out.own (zAa _ _)) ⟨wr.heap.size, 0, none⟩ 1 1 [.int .i64 x] rfl rfl ?cc1 ?cc2 ?cc3 ?cc4 ?cc5 ?_)
         try case cc1 =>
          intro j y hy
          match j, hy with
          | 0, hy => (simp at hy; subst hy; simp [Addr.add])
         try case cc2 => simp [Value.oneCell']
         case cc3 => unfold maxLen; skip; omega
         case cc4 => skip; omega
         try case cc5 => first | omega | (simp <;> omega)
         intro v1 w1 own1 hg1 _
         have T3' := T2.out.put (x := x) (zAa _ _) own1 hg1
         obtain ⟨acc2, hacc2'⟩ : ∃ p, p = acc ++ [x] := ⟨_, rfl⟩
         have hacc2l : acc2.length ≤ acc.length + 1 := by rw [hacc2']; simp
         rw [← hacc2'] at T3'
         have hacc2 := Lib.hid hacc2'
         have T3 := Lib.hid T3'
         clear T3' own1 hg1 hi hz0 hz1 hz2 hacc2'
         go_wp2
         go_roundw
         case rel => exact ⟨m + 1, (acc2, false), by omega, by go_num, rfl, Lib.hid (by rw [HF.out, hacc2.out]; simp [insF, show ¬ t ≤ x by omega, hxt]), by dsimp only; omega, T3.out⟩
         case measure => simp [intOf]; omega
       ·by_cases hxt : x = t
        ·subst hxt
         go_wp2
         go_roundw
         case rel => exact ⟨m + 1, (acc, true), by omega, by go_num, rfl, Lib.hid (by rw [HF.out]; simp [insF]), by dsimp only; omega, T2.out⟩
         case measure => simp [intOf]; omega
        ·skip
         obtain ⟨i0, hi, hz0, hz1, hz2⟩ := info_parts infoI
         have hlw1 := T2.out.bel.size
         go_wp2_with (at_builtin; refine wpList_append_own _ rfl _ _ 23 rfl (wo.heap.size) 3 i0 (.int .i64 0) 1 8 Tryz.underlying23 hi hz0 hz1 hz2 rfl (by decide) _ _ _ rfl (zAe T2.out.own (zAa _ _)) ⟨wr.heap.size, 0, none⟩ 1 1 [.int .i64 x] rfl rfl ?cd1 ?cd2 ?cd3 ?cd4 ?cd5 ?_)
         try case cd1 =>
          intro j y hy
          match j, hy with
          | 0, hy => (simp at hy; subst hy; simp [Addr.add])
         try case cd2 => simp [Value.oneCell']
         case cd3 => unfold maxLen; skip; omega
         case cd4 => skip; omega
         try case cd5 => first | omega | (simp <;> omega)
         intro v1 w1 own1 hg1 _
         have T3' := T2.out.put (x := x) (zAa _ _) own1 hg1
         obtain ⟨acc2, hacc2'⟩ : ∃ p, p = acc ++ [x] := ⟨_, rfl⟩
         have hacc2l : acc2.length ≤ acc.length + 1 := by rw [hacc2']; simp
         rw [← hacc2'] at T3'
         have hacc2 := Lib.hid hacc2'
         have T3 := Lib.hid T3'
         clear T3' own1 hg1 hi hz0 hz1 hz2 hacc2'
         go_wp2
         go_roundw
         case rel => exact ⟨m + 1, (acc2, true), by omega, by go_num, rfl, Lib.hid (by rw [HF.out, hacc2.out]; simp [insF, hxt]), by dsimp only; omega, T3.out⟩
         case measure => simp [intOf]; omega
      ·have hml' : ¬ (m : Int) < X.length := by omega
       have hmX : m = X.length := by omega
       have HE : Hid (insE t (acc, dn) = insT t X) := Lib.hid (by rw [HS.out, hmX, List.take_length, HEND.out]; rfl)
       clear hmX
       cases dn
       ·skip
        obtain ⟨i0, hi, hz0, hz1, hz2⟩ := info_parts infoI
        have hlw1 := T2.out.bel.size
        go_wp2_with (at_builtin; refine wpList_append_own _ rfl _ _ 23 rfl (wo.heap.size) 3 i0 (.int .i64 0) 1 8 Tryz.underlying23 hi hz0 hz1 hz2 rfl (by decide) _ _ _ rfl (zAe T2.out.own (zAa _ _)) ⟨wr.heap.size, 0, none⟩ 1 1 [.int .i64 t] rfl rfl ?ce1 ?ce2 ?ce3 ?ce4 ?ce5 ?_)
        try case ce1 =>
         intro j y hy
         match j, hy with
         | 0, hy => (simp at hy; subst hy; simp [Addr.add])
        try case ce2 => simp [Value.oneCell']
        case ce3 => unfold maxLen; skip; omega
        case ce4 => skip; omega
        try case ce5 => first | omega | (simp <;> omega)
        intro v1 w1 own1 hg1 _
        have T3' := T2.out.put (x := t) (zAa _ _) own1 hg1
        obtain ⟨acc2, hacc2'⟩ : ∃ p, p = acc ++ [t] := ⟨_, rfl⟩
        have hacc2l : acc2.length ≤ acc.length + 1 := by rw [hacc2']; simp
        rw [← hacc2'] at T3'
        have hacc2 := Lib.hid hacc2'
        have T3 := Lib.hid T3'
        clear T3' own1 hg1 hi hz0 hz1 hz2 hacc2'
        go_wp2
        go_roundw
        case rel => exact ⟨j + 1, by omega, by go_num, by rw [HI.out, ← HE.out]; show TK _ _ _ _ (acc ++ [t]); rw [← hacc2.out]; exact ⟨zAn T3.out.own T.out.bel.size, T.out.bel.trans (T3.out.bel.mono T.out.bel.size), Nat.le_refl _⟩, zAg HBQ.out T3.out.bel⟩
        case measure => simp [intOf]; omega
       ·go_wp2
        go_roundw
        case rel => exact ⟨j + 1, by omega, by go_num, by rw [HI.out, ← HE.out]; exact ⟨zAn T2.out.own T.out.bel.size, T.out.bel.trans (T2.out.bel.mono T.out.bel.size), Nat.le_refl _⟩, zAg HBQ.out T2.out.bel⟩
        case measure => simp [intOf]; omega
    ·have hj2' : ¬ (j : Int) < 2 := by omega
     have hj9 : tmN ps lo hi j = timesL ps lo hi := by
      have : j = 2 := by omega
      rw [this]; rfl
     rw [hj9] at T
     clear hj9
     go_wp2
     go_ret
     exact ⟨_, rfl, T.out.own, T.out.bel⟩
structure PB (w wr : World) (b0 b lo : Nat) (S : Value) (T : List Int) (out : List Q) : Prop where
 bx : ∃ X cx, wr.heap[b]? = some (.cells #[.slice X out.length cx] 31 (0, 0)) ∧ wr.ownsRow lo 177 4 (.slice X out.length cx) out.length (flat out)
 tm : wr.ownsRow lo 3 1 S T.length (ints T)
 res : wr.heap[b0]? = some (.cells #[.slice none 0 0] 31 (0, 0))
 bel : Below w.heap.size w wr
 hb : w.heap.size ≤ b0 ∧ b0 ≠ b ∧ w.heap.size ≤ b ∧ w.heap.size ≤ lo
theorem PB.bel' {w wr w' : World} {b0 b lo : Nat} {S : Value} {T : List Int} {out : List Q} (h : PB w wr b0 b lo S T out) (hb : Below wr.heap.size wr w') : PB w w' b0 b lo S T out := by
 obtain ⟨X, cx, h1, h2⟩ := h.bx
 exact ⟨⟨X, cx, zAg h1 hb, zAe h2 hb⟩, zAe h.tm hb, zAg h.res hb, zAc h.bel hb, h.hb⟩
theorem PB.put {w wr w1 : World} {b0 b lo : Nat} {S : Value} {T : List Int} {out : List Q} (h : PB w wr b0 b lo S T out) {q : Q} {X : Option Addr} {cx : Nat} {v : Value}
  (h1 : wr.heap[b]? = some (.cells #[.slice X out.length cx] 31 (0, 0))) (h2 : wr.ownsRow lo 177 4 (.slice X out.length cx) out.length (flat out))
  (hv : w1.ownsRow lo 177 4 v (out.length + 1) (flat out ++ [.int .i64 q.t, .int .i64 q.a, .int .i64 q.b, .int .i64 q.c])) (hg : wr.grownBy w1 (Value.slice X out.length cx).ownBlock) : PB w (w1.setCell ⟨b, 0, none⟩ v) b0 b lo S T (out ++ [q]) := by
 obtain ⟨X', cx', rfl, _⟩ := zAt hv
 have hh := h.hb
 have hl : (out ++ [q]).length = out.length + 1 := by simp
 have e1 := zAr h1 hg (fun k hk => zAm h2 h1 (by decide) k hk)
 have et := own_grown h.tm hg (fun k hk e => own_ap h2 h.tm (by decide) k e hk)
 refine ⟨⟨X', cx', ?_, ?_⟩, zAo et (zAm et e1 (by decide)) _, bx_set (zAr h.res hg (fun k hk => zAm h2 h.res (by decide) k hk)) hh.2.1 _, ?_, hh⟩
 ·rw [hl]
  have := zAq (i := 0) (v := .slice X' (out.length + 1) cx') e1
  simpa using this
 ·rw [hl, flat_snoc]; exact zAo hv (zAm hv e1 (by decide)) _
 ·exact (Below.grown h.bel hg h.bel.size (fun k hk => by have := own_ge h2 k hk; omega)).setCell hh.2.2.1 _
structure P2 (wr : World) (ba bv : Nat) (A : Option Addr) (n c : Nat) (v : V) : Prop where
 pa : wr.heap[ba]? = some (.cells #[.slice A n c] 31 (0, 0))
 pv : wr.heap[bv]? = some (.cells #[.int .i64 v.A, .int .i64 v.B, .int .i64 v.C] 73 (0, 0))
theorem P2.bel' {wr w' : World} {ba bv : Nat} {A : Option Addr} {n c : Nat} {v : V} (h : P2 wr ba bv A n c v) (hb : Below wr.heap.size wr w') : P2 w' ba bv A n c v := ⟨zAg h.pa hb, zAg h.pv hb⟩
theorem P2.put {wr w1 : World} {ba bv b lo : Nat} {A : Option Addr} {n c : Nat} {v : V} (h : P2 wr ba bv A n c v) {u : Value} {m : Nat} {xs : List Value} {x : Value} (h2 : wr.ownsRow lo 177 4 u m xs) (hg : wr.grownBy w1 u.ownBlock) (hb : ba ≠ b ∧ bv ≠ b) : P2 (w1.setCell ⟨b, 0, none⟩ x) ba bv A n c v :=
 ⟨bx_set (zAr h.pa hg (fun k hk => zAm h2 h.pa (by decide) k hk)) hb.1 _, bx_set (zAr h.pv hg (fun k hk => zAm h2 h.pv (by decide) k hk)) hb.2 _⟩
theorem push_same {out : List Q} {q : Q} {t : Int} {v : V} (h : out.getLast? = some q) (ha : q.a = v.A) (hb : q.b = v.B) (hc : q.c = v.C) : push out t v = out := by
 unfold push; rw [h]; simp [Q.same, mkQ, ha, hb, hc]
theorem push_diff {out : List Q} {q : Q} {t : Int} {v : V} (h : out.getLast? = some q) (hn : ¬ (q.a = v.A ∧ q.b = v.B ∧ q.c = v.C)) : push out t v = out ++ [mkQ t v] := by
 unfold push; rw [h]
 have : q.same (mkQ t v) = false := by
  cases hs : q.same (mkQ t v) with
  | false => rfl
  | true => exact absurd (by simpa [Q.same, mkQ, and_assoc] using hs) hn
 simp [this]
theorem news9 {w : World} {cs : Array Value} {t : TypeId} {k : Nat} (hk : k = w.heap.size) : ∀ j u, cs.toList[j]? = some u → (w.alloc (.cells cs t)).cell? ((⟨k, 0, none⟩ : Addr).add j) = some u := World.news_of_block (zAk (w := w) (.cells cs t) hk)
theorem push_nil (t : Int) (v : V) : push [] t v = [] ++ [mkQ t v] := rfl
theorem valAt_in {ps : List Q} {lo hi : Int} {f : V → V} {t : Int} (h1 : lo ≤ t) (h2 : t < hi) : valAt ps lo hi f t = f (freeV t ps) := by unfold valAt; rw [if_pos ⟨h1, h2⟩]
theorem valAt_out {ps : List Q} {lo hi : Int} {f : V → V} {t : Int} (h : ¬ (lo ≤ t ∧ t < hi)) : valAt ps lo hi f t = freeV t ps := by unfold valAt; rw [if_neg h]
def okTo (ps : List Q) (lo hi : Int) (fb : V → Bool) (l : List Int) : Prop := ∀ t ∈ l, lo ≤ t → t < hi → fb (freeV t ps) = true
theorem okTo_snoc {ps : List Q} {lo hi : Int} {fb : V → Bool} {T : List Int} {k : Nat} {x : Int} (h : okTo ps lo hi fb (T.take k)) (hx : T[k]? = some x) (hf : lo ≤ x → x < hi → fb (freeV x ps) = true) : okTo ps lo hi fb (T.take (k + 1)) := by
 rw [take_snoc' hx]
 intro t ht
 rcases List.mem_append.1 ht with ht | ht
 ·exact h t ht
 ·simp at ht; subst ht; exact hf
theorem okTo_all {ps : List Q} {lo hi : Int} {fb : V → Bool} (h : okTo ps lo hi fb (timesL ps lo hi)) : chgB ps lo hi fb = true := by
 unfold chgB
 rw [List.all_eq_true]
 intro t ht
 by_cases h1 : lo ≤ t ∧ t < hi
 ·rw [h t ht h1.1 h1.2]; simp
 ·have : (decide (lo ≤ t) && decide (t < hi)) = false := by
   cases hh : (decide (lo ≤ t) && decide (t < hi)) with
   | false => rfl
   | true => simp at hh; exact absurd hh h1
  rw [this]; rfl
theorem chg_bad {ps : List Q} {lo hi : Int} {fb : V → Bool} {k : Nat} {x : Int} (hx : (timesL ps lo hi)[k]? = some x) (h1 : lo ≤ x) (h2 : x < hi) (hf : fb (freeV x ps) = false) : chgB ps lo hi fb = false := by
 cases h : chgB ps lo hi fb with
 | false => rfl
 | true => have := chgB_at h (List.mem_of_getElem? hx) h1 h2; rw [hf] at this; cases this
def cgB (ps : List Q) (lo hi : Int) (f : V → V) (fb : V → Bool) : Bool := chgB ps lo hi fb && decide ((chgV ps lo hi f).length ≤ 200)
def cgV (ps : List Q) (lo hi : Int) (f : V → V) (fb : V → Bool) : List Q := if cgB ps lo hi f fb then chgV ps lo hi f else []
set_option maxHeartbeats 8000000 in
set_option maxRecDepth 20000 in
theorem schange_sub (A : Option Addr) (n c : Nat) (ps : List Q) (lo hi : Int) (v : V) (w : World) (hn : n ≤ 1048576) (hr : Rd w A n 4 (flat ps)) (hl : ∀ g, A = some ⟨g, 0, none⟩ → g < w.heap.size) (hok : zAx ps = true) (hsp : spanB lo hi = true) :
  Calls Tryz.prog 208 #[.agg #[.slice A n c], .int .i64 lo, .int .i64 hi, .agg #[.int .i64 v.A, .int .i64 v.B, .int .i64 v.C], .bool false] w fun e w' => ∃ u, e = .returned (.tuple #[.agg #[u], .bool (cgB ps lo hi (fun y => subV y v) (fun y => subB y v))]) ∧ w'.ownsRow w.heap.size 177 4 u (cgV ps lo hi (fun y => subV y v) (fun y => subB y v)).length (flat (cgV ps lo hi (fun y => subV y v) (fun y => subB y v))) ∧ Below w.heap.size w w' := by
 have hn2 : n ≤ 200 := by
  have h1 := (profOk_parts hok).2.1
  have h2 : ps.length = n := by have := hr.1; rw [flat_len] at this; omega
  omega
 have HOK := Lib.hid hok
 have HSP := Lib.hid hsp
 clear hok hsp
 have hpl : ps.length = n := by have := hr.1; rw [flat_len] at this; omega
 have hm : n ≤ 9223372036854775807 := by omega
 have HN := Lib.hid hn
 have HR := Lib.hid hr
 have HL := Lib.hid hl
 have HP := Lib.hid hpl
 clear hn hr hl hpl
 obtain ⟨FF, hFF⟩ : ∃ FF : V → V, FF = fun y => subV y v := ⟨_, rfl⟩
 obtain ⟨FB, hFB⟩ : ∃ FB : V → Bool, FB = fun y => subB y v := ⟨_, rfl⟩
 rw [← hFF, ← hFB]
 have HFF := Lib.hid hFF
 have HFB := Lib.hid hFB
 clear hFF hFB
 go_enter Tryz.func208, Tryz.ntmps208
 go_wp2_with fail
 refine (stimes_any A n c ps lo hi _ HN.out (HR.out.below HL.out zBe) (zAi HL.out zBe)).mono ?_
 rintro e w1 ⟨u1, rfl, own1, hb1⟩
 have hs1 := hb1.size
 (try simp at hs1)
 obtain ⟨LO, hLO⟩ : ∃ b, b = w.heap.size + 1 + 1 + 1 + 1 := ⟨_, rfl⟩
 obtain ⟨BB, hBB⟩ : ∃ b, b = w.heap.size + 1 + 1 + 1 := ⟨_, rfl⟩
 have hTL := Nat.le_trans (timesL_len ps lo hi) (show ps.length + 2 ≤ n + 2 by have := HP.out; omega)
 have H00 : PB w w1 (w.heap.size + 1 + 1) BB LO u1 (timesL ps lo hi) [] := by
  subst hLO hBB
  refine ⟨⟨none, 0, zAg (zAk _ (by simp)) hb1, own_nil _ _ _ _⟩, zAn own1 (by simp), zAg (zAu (zAk _ (by simp)) _) hb1, ?_, by omega⟩
  exact zAc zBe hb1
 have H01 : P2 w1 (w.heap.size) (w.heap.size + 1) A n c v := ⟨zAg (zAu (zAu (zAu (zAk _ (by simp)) _) _) _) hb1, zAg (zAu (zAu (zAk _ (by simp)) _) _) hb1⟩
 have T0 := Lib.hid H00
 have P0 := Lib.hid H01
 clear H00 H01
 obtain ⟨A1, c1, rfl, rd1⟩ := zAt own1
 clear rd1 own1 hb1 hs1
 rw [← hBB]
 have hBB9 : w.heap.size + 1 + 1 + 1 ≤ BB ∧ BB ≤ w.heap.size + 1 + 1 + 1 := by omega
 have hLO9 : w.heap.size ≤ LO ∧ LO ≤ w.heap.size + 1 + 1 + 1 + 1 := by omega
 clear hLO hBB
 obtain ⟨TL, hTLe⟩ : ∃ l, l = timesL ps lo hi := ⟨_, rfl⟩
 rw [← hTLe] at T0 hTL ⊢
 have HTL := Lib.hid hTLe
 clear hTLe
 go_wp2
 go_loopw [24] (fun i wr => ∃ (k : Nat) (out : List Q), k ≤ TL.length ∧ i = .int .i64 k ∧ out.length ≤ k ∧ Hid (out = chL (valAt ps lo hi FF) (TL.take k)) ∧ Hid (okTo ps lo hi FB (TL.take k)) ∧ PB w wr (w.heap.size + 1 + 1) BB LO (.slice A1 TL.length c1) TL out ∧ P2 wr (w.heap.size) (w.heap.size + 1) A n c v) (fun i _ => TL.length - (intOf i).toNat)
 case atStart => exact ⟨0, [], Nat.zero_le _, rfl, Nat.le_refl _, Lib.hid rfl, Lib.hid (fun t ht => by simp at ht), T0.out, P0.out⟩
 case round =>
  clear T0 P0
  obtain ⟨k, out, hk, rfl, hol, HO, HOK2, T', P'⟩ := hrel
  have T := Lib.hid T'
  have P := Lib.hid P'
  clear T' P'
  by_cases hlt : k < TL.length
  ·have hlt' : (k : Int) < TL.length := by omega
   obtain ⟨g, x, rfl, hx, cx9⟩ := Rd.int (zAv T.out.tm) hlt
   have hgl := own_blk T.out.tm g rfl
   have HX := Lib.hid hx
   clear hx
   have p0 := zAb P.out.pa 0 rfl
   simp only [zgc, zga, zgb] at p0
   have hbw := T.out.bel
   have HBW := Lib.hid hbw
   clear hbw
   go_wp2_with fail
   refine (sfree_any A n c ps x _ HN.out (HR.out.below HL.out HBW.out) (zAi HL.out HBW.out)).mono ?_
   rintro e w2 ⟨rfl, hb2⟩
   have T2 := Lib.hid (T.out.bel' hb2)
   have P2' := Lib.hid (P.out.bel' hb2)
   clear hb2 T P p0 cx9 hgl
   obtain ⟨fv, hfv⟩ : ∃ y, y = freeV x ps := ⟨_, rfl⟩
   rw [← hfv]
   have HFV := Lib.hid hfv
   clear hfv
   by_cases hin : lo ≤ x ∧ x < hi
   ·obtain ⟨hin1, hin2⟩ := hin
    have v0 := zAb P2'.out.pv 0 rfl
    have v1 := zAb P2'.out.pv 1 rfl
    have v2 := zAb P2'.out.pv 2 rfl
    simp only [zgc, zga, zgb] at v0 v1 v2
    have hlv := zAf P2'.out.pv
    go_wp2_with fail
    refine (ssub_raw fv v _).mono ?_
    rintro e w3 ⟨rfl, hb3⟩
    have hs3 := hb3.size
    (try simp at hs3)
    have hy3 : w2.heap.size < w3.heap.size := by omega
    have hk3 := fun o => hb3.cell (p := ⟨w2.heap.size, o, none⟩) (by simp)
    have hg3 := fun o => hb3.frozen (p := ⟨w2.heap.size, o, none⟩) (by simp)
    have T3 := Lib.hid ((T2.out.bel' (zAa _ _)).bel' hb3)
    have hrb := zAf T2.out.res
    clear v0 v1 v2 hlv
    cases hok : subB fv v
    ·have HBF : Hid (cgB ps lo hi FF FB = false) := Lib.hid (by
      unfold cgB
      rw [chg_bad (k := k) (x := x) (by rw [← HTL.out]; exact HX.out) hin1 hin2 (by rw [HFB.out, ← HFV.out]; exact hok)]; rfl)
     clear hok
     have r0 := zAb T3.out.res 0 rfl
     have rf := zAh T3.out.res
     simp only [zgc, zga, zgb] at r0
     go_wp2
     (try go_light)
     refine bodyPost_ret (v := .tuple #[.agg #[.slice none 0 0], .bool false]) (by simp [results, Tryz.results208, go_sem, *]) rfl ?_
     refine ⟨_, by rw [HBF.out], ?_, ?_⟩
     ·unfold cgV; rw [HBF.out]; exact own_nil _ _ _ _
     ·exact (by repeat (first | exact T2.out.bel | (with_reducible refine Below.setCell ?_ (by have hq2 := T2.out.bel.size; simp <;> omega) _) | (with_reducible refine zAc ?_ hb3) | (with_reducible refine zAc ?_ (zAa _ _))))
    ·have HVA : Hid (valAt ps lo hi FF x = subV fv v) := Lib.hid (by rw [valAt_in hin1 hin2, HFF.out, ← HFV.out])
     have HOKN : Hid (okTo ps lo hi FB (TL.take (k + 1))) := Lib.hid (okTo_snoc HOK2.out HX.out (fun _ _ => by rw [HFB.out, ← HFV.out]; exact hok))
     clear hok
     go_upto_region 13 with fail
     have hch : Below w2.heap.size w2 (((w3.setCell ⟨w2.heap.size, 0, none⟩ (.int .i64 (subV fv v).A)).setCell ⟨w2.heap.size, 1, none⟩ (.int .i64 (subV fv v).B)).setCell ⟨w2.heap.size, 2, none⟩ (.int .i64 (subV fv v).C)) := (by repeat (first | exact Below.refl _ _ | (with_reducible refine Below.setCell ?_ (by simp <;> omega) _) | (with_reducible refine zAc ?_ hb3) | (with_reducible refine zAc ?_ (zAa _ _))))
     have T5 := Lib.hid (T2.out.bel' hch)
     have P5 := Lib.hid (P2'.out.bel' hch)
     have e0 : (((w3.setCell ⟨w2.heap.size, 0, none⟩ (.int .i64 (subV fv v).A)).setCell ⟨w2.heap.size, 1, none⟩ (.int .i64 (subV fv v).B)).setCell ⟨w2.heap.size, 2, none⟩ (.int .i64 (subV fv v).C)).cell? ⟨w2.heap.size, 0, none⟩ = some (.int .i64 (subV fv v).A) := by simp [go_sem, *]
     have e1 : (((w3.setCell ⟨w2.heap.size, 0, none⟩ (.int .i64 (subV fv v).A)).setCell ⟨w2.heap.size, 1, none⟩ (.int .i64 (subV fv v).B)).setCell ⟨w2.heap.size, 2, none⟩ (.int .i64 (subV fv v).C)).cell? ⟨w2.heap.size, 1, none⟩ = some (.int .i64 (subV fv v).B) := by simp [go_sem, *]
     have e2 : (((w3.setCell ⟨w2.heap.size, 0, none⟩ (.int .i64 (subV fv v).A)).setCell ⟨w2.heap.size, 1, none⟩ (.int .i64 (subV fv v).B)).setCell ⟨w2.heap.size, 2, none⟩ (.int .i64 (subV fv v).C)).cell? ⟨w2.heap.size, 2, none⟩ = some (.int .i64 (subV fv v).C) := by simp [go_sem, *]
     have hbt : w2.heap.size < (((w3.setCell ⟨w2.heap.size, 0, none⟩ (.int .i64 (subV fv v).A)).setCell ⟨w2.heap.size, 1, none⟩ (.int .i64 (subV fv v).B)).setCell ⟨w2.heap.size, 2, none⟩ (.int .i64 (subV fv v).C)).heap.size := by simp; omega
     clear hch hk3 hg3 hb3 T2 T3 P2' hrb hy3 hs3
     generalize (((w3.setCell ⟨w2.heap.size, 0, none⟩ (.int .i64 (subV fv v).A)).setCell ⟨w2.heap.size, 1, none⟩ (.int .i64 (subV fv v).B)).setCell ⟨w2.heap.size, 2, none⟩ (.int .i64 (subV fv v).C)) = w5 at *
     generalize subV fv v = nv at *
     generalize w2.heap.size = bt at *
     obtain ⟨X, cx, h1, h2⟩ := T5.out.bx
     have k0 := zAb h1 0 rfl
     have kf := zAh h1
     have hlb := zAf h1
     simp only [zgc, zga, zgb] at k0
     have H1 := Lib.hid h1
     have H2 := Lib.hid h2
     clear h1 h2
     have HPU : Hid (chL (valAt ps lo hi FF) (TL.take (k + 1)) = push out x (nv)) := Lib.hid (by rw [take_snoc' HX.out, chL_snoc, ← HO.out, HVA.out])
     have hlt0 := hol
     cases hgl : out.getLast? with
     | none =>
      have hnil : out = [] := List.getLast?_eq_none_iff.1 hgl
      subst hnil
      clear hgl
      simp only [List.length_nil] at k0 hol
      go_wp2_with fail
      go_quiet (fail)
      obtain ⟨i0, hi9, hz0, hz1, hz2⟩ := info_parts infoPt
      go_wp2_with (at_builtin; refine wpList_append_own _ rfl _ _ 29 rfl (LO) 177 i0 (.agg #[.int .i64 0, .int .i64 0, .int .i64 0, .int .i64 0]) 4 32 Tryz.underlying29 hi9 hz0 hz1 hz2 rfl (by decide) _ _ _ rfl (zAe (zAe H2.out (zAd w5 _)) (zAa _ _)) ⟨w5.heap.size, 0, none⟩ 1 1 [.int .i64 x, .int .i64 (nv).A, .int .i64 (nv).B, .int .i64 (nv).C] rfl rfl ?ca1 ?ca2 ?ca3 ?ca4 ?ca5 ?_)
      try case ca1 => exact news9 (w := w5.drewN _) (cs := #[.int .i64 x, .int .i64 (nv).A, .int .i64 (nv).B, .int .i64 (nv).C]) rfl
      try case ca1 =>
       intro j y hy
       match j, hy with
       | 0, hy => (simp at hy; subst hy; simp [Addr.add])
       | 1, hy => (simp at hy; subst hy; simp [Addr.add])
       | 2, hy => (simp at hy; subst hy; simp [Addr.add])
       | 3, hy => (simp at hy; subst hy; simp [Addr.add])
      try case ca2 => simp [Value.oneCell']
      case ca3 => unfold maxLen; skip; omega
      case ca4 => skip; omega
      try case ca5 => first | omega | (simp <;> omega)
      intro v6 w6 own6 hg6 _
      have T7' := (T5.out.bel' (zAl w5 nq x nv)).put (q := mkQ x (nv)) (zAg H1.out (zAl w5 nq x nv)) (zAe H2.out (zAl w5 nq x nv)) own6 hg6
      have P7' := (P5.out.bel' (zAl w5 nq x nv)).put (x := v6) (zAe H2.out (zAl w5 nq x nv)) hg6 (b := BB) (by omega)
      obtain ⟨X6, c6, rfl, rd6⟩ := zAt own6
      have e6 := zAr (zAg H1.out (zAl w5 nq x nv)) hg6 (zAm (zAe H2.out (zAl w5 nq x nv)) (zAg H1.out (zAl w5 nq x nv)) (by decide))
      have g0 := zAb e6 0 rfl
      have gf := zAh e6
      simp only [zgc, zga, zgb] at g0
      have T7 := Lib.hid T7'
      have P7 := Lib.hid P7'
      clear T7' P7' rd6 own6 hi9 hz0 hz1 hz2 k0 kf hg6 e6 e0 e1 e2
      go_wp2
      go_roundw
      case rel => exact ⟨k + 1, ([] : List Q) ++ [mkQ x (nv)], by omega, by go_num, by first | (simp; done) | (simp; omega), Lib.hid (by rw [HPU.out, push_nil]), HOKN, T7.out, P7.out⟩
      case measure => simp [intOf]; omega
     | some q =>
      obtain ⟨m, hm⟩ : ∃ m, out.length = m + 1 := by
       cases out with
       | nil => simp at hgl
       | cons a r => exact ⟨r.length, rfl⟩
      have hql : out[m]? = some q := by
       rw [List.getLast?_eq_getElem?, hm] at hgl; simpa using hgl
      have H2m : Hid (w5.ownsRow LO 177 4 (.slice X (m + 1) cx) (m + 1) (flat out)) := Lib.hid (by have := H2.out; rwa [hm] at this)
      obtain ⟨g1, q', rfl, hq', d0, d1, d2, d3⟩ := Rd.q (zAv H2m.out) (k := m) (by omega)
      have hqq : q' = q := by rw [hql] at hq'; exact (Option.some.inj hq').symm
      subst hqq
      have hg1 := own_blk H2m.out g1 rfl
      rw [hm] at k0 hol
      have HM := Lib.hid hm
      have HGL := Lib.hid hgl
      clear hm hql hq' hgl d0
      have hm1 : (m : Int) < (m : Int) + 1 := by omega
      have hm2 : ¬ ((m : Int) + 1 = 0) := by omega
      have hm3 : ((m : Int) + 1 == 0) = false := by simp; omega
      have hm4 : IntKind.i64.wrap ((m : Int) + 1 - 1) = (m : Int) := by rw [IntWalk.i64_in _ (by omega)]; omega
      have hm5 : (0 : Int) ≤ (m : Int) := by omega
      by_cases ha : q'.a = (nv).A
      ·by_cases hb : q'.b = (nv).B
       ·by_cases hc : q'.c = (nv).C
        ·have HSM : Hid (push out x (nv) = out) := Lib.hid (push_same HGL.out ha hb hc)
         go_wp2_with fail
         go_quiet (fail)
         go_wp2
         go_roundw
         case rel => exact ⟨k + 1, out, by omega, by go_num, by have := HM.out; omega, Lib.hid (by rw [HPU.out, HSM.out]), HOKN, T5.out.bel' (zAd _ _), P5.out.bel' (zAd _ _)⟩
         case measure => simp [intOf]; omega
        ·skip
         go_wp2_with fail
         go_quiet (fail)
         obtain ⟨i0, hi9, hz0, hz1, hz2⟩ := info_parts infoPt
         go_wp2_with (at_builtin; refine wpList_append_own _ rfl _ _ 29 rfl (LO) 177 i0 (.agg #[.int .i64 0, .int .i64 0, .int .i64 0, .int .i64 0]) 4 32 Tryz.underlying29 hi9 hz0 hz1 hz2 rfl (by decide) _ _ _ rfl (zAe (zAe H2m.out (zAd w5 _)) (zAa _ _)) ⟨w5.heap.size, 0, none⟩ 1 1 [.int .i64 x, .int .i64 (nv).A, .int .i64 (nv).B, .int .i64 (nv).C] rfl rfl ?cb1 ?cb2 ?cb3 ?cb4 ?cb5 ?_)
         try case cb1 => exact news9 (w := w5.drewN _) (cs := #[.int .i64 x, .int .i64 (nv).A, .int .i64 (nv).B, .int .i64 (nv).C]) rfl
         try case cb1 =>
          intro j y hy
          match j, hy with
          | 0, hy => (simp at hy; subst hy; simp [Addr.add])
          | 1, hy => (simp at hy; subst hy; simp [Addr.add])
          | 2, hy => (simp at hy; subst hy; simp [Addr.add])
          | 3, hy => (simp at hy; subst hy; simp [Addr.add])
         try case cb2 => simp [Value.oneCell']
         case cb3 => unfold maxLen; skip; omega
         case cb4 => skip; omega
         try case cb5 => first | omega | (simp <;> omega)
         intro v6 w6 own6 hg6 _
         rw [← HM.out] at own6 hg6
         have T7' := (T5.out.bel' (zAl w5 nq x nv)).put (q := mkQ x (nv)) (zAg H1.out (zAl w5 nq x nv)) (zAe H2.out (zAl w5 nq x nv)) own6 hg6
         have P7' := (P5.out.bel' (zAl w5 nq x nv)).put (x := v6) (zAe H2.out (zAl w5 nq x nv)) hg6 (b := BB) (by omega)
         obtain ⟨X6, c6, rfl, rd6⟩ := zAt own6
         have e6 := zAr (zAg H1.out (zAl w5 nq x nv)) hg6 (zAm (zAe H2.out (zAl w5 nq x nv)) (zAg H1.out (zAl w5 nq x nv)) (by decide))
         have g0 := zAb e6 0 rfl
         have gf := zAh e6
         simp only [zgc, zga, zgb] at g0
         have T7 := Lib.hid T7'
         have P7 := Lib.hid P7'
         clear T7' P7' rd6 own6 hi9 hz0 hz1 hz2 k0 kf hg6 e6 e0 e1 e2
         go_wp2
         go_roundw
         case rel => exact ⟨k + 1, out ++ [mkQ x (nv)], by omega, by go_num, by first | (simp; done) | (simp; omega), Lib.hid (by rw [HPU.out, push_diff HGL.out (fun h => hc h.2.2)]), HOKN, T7.out, P7.out⟩
         case measure => simp [intOf]; omega
       ·skip
        go_wp2_with fail
        go_quiet (fail)
        obtain ⟨i0, hi9, hz0, hz1, hz2⟩ := info_parts infoPt
        go_wp2_with (at_builtin; refine wpList_append_own _ rfl _ _ 29 rfl (LO) 177 i0 (.agg #[.int .i64 0, .int .i64 0, .int .i64 0, .int .i64 0]) 4 32 Tryz.underlying29 hi9 hz0 hz1 hz2 rfl (by decide) _ _ _ rfl (zAe (zAe H2m.out (zAd w5 _)) (zAa _ _)) ⟨w5.heap.size, 0, none⟩ 1 1 [.int .i64 x, .int .i64 (nv).A, .int .i64 (nv).B, .int .i64 (nv).C] rfl rfl ?cc1 ?cc2 ?cc3 ?cc4 ?cc5 ?_)
        try case cc1 => exact news9 (w := w5.drewN _) (cs := #[.int .i64 x, .int .i64 (nv).A, .int .i64 (nv).B, .int .i64 (nv).C]) rfl
        try case cc1 =>
         intro j y hy
         match j, hy with
         | 0, hy => (simp at hy; subst hy; simp [Addr.add])
         | 1, hy => (simp at hy; subst hy; simp [Addr.add])
         | 2, hy => (simp at hy; subst hy; simp [Addr.add])
         | 3, hy => (simp at hy; subst hy; simp [Addr.add])
        try case cc2 => simp [Value.oneCell']
        case cc3 => unfold maxLen; skip; omega
        case cc4 => skip; omega
        try case cc5 => first | omega | (simp <;> omega)
        intro v6 w6 own6 hg6 _
        rw [← HM.out] at own6 hg6
        have T7' := (T5.out.bel' (zAl w5 nq x nv)).put (q := mkQ x (nv)) (zAg H1.out (zAl w5 nq x nv)) (zAe H2.out (zAl w5 nq x nv)) own6 hg6
        have P7' := (P5.out.bel' (zAl w5 nq x nv)).put (x := v6) (zAe H2.out (zAl w5 nq x nv)) hg6 (b := BB) (by omega)
        obtain ⟨X6, c6, rfl, rd6⟩ := zAt own6
        have e6 := zAr (zAg H1.out (zAl w5 nq x nv)) hg6 (zAm (zAe H2.out (zAl w5 nq x nv)) (zAg H1.out (zAl w5 nq x nv)) (by decide))
        have g0 := zAb e6 0 rfl
        have gf := zAh e6
        simp only [zgc, zga, zgb] at g0
        have T7 := Lib.hid T7'
        have P7 := Lib.hid P7'
        clear T7' P7' rd6 own6 hi9 hz0 hz1 hz2 k0 kf hg6 e6 e0 e1 e2
        go_wp2
        go_roundw
        case rel => exact ⟨k + 1, out ++ [mkQ x (nv)], by omega, by go_num, by first | (simp; done) | (simp; omega), Lib.hid (by rw [HPU.out, push_diff HGL.out (fun h => hb h.2.1)]), HOKN, T7.out, P7.out⟩
        case measure => simp [intOf]; omega
      ·skip
       go_wp2_with fail
       go_quiet (fail)
       obtain ⟨i0, hi9, hz0, hz1, hz2⟩ := info_parts infoPt
       go_wp2_with (at_builtin; refine wpList_append_own _ rfl _ _ 29 rfl (LO) 177 i0 (.agg #[.int .i64 0, .int .i64 0, .int .i64 0, .int .i64 0]) 4 32 Tryz.underlying29 hi9 hz0 hz1 hz2 rfl (by decide) _ _ _ rfl (zAe (zAe H2m.out (zAd w5 _)) (zAa _ _)) ⟨w5.heap.size, 0, none⟩ 1 1 [.int .i64 x, .int .i64 (nv).A, .int .i64 (nv).B, .int .i64 (nv).C] rfl rfl ?cd1 ?cd2 ?cd3 ?cd4 ?cd5 ?_)
       try case cd1 => exact news9 (w := w5.drewN _) (cs := #[.int .i64 x, .int .i64 (nv).A, .int .i64 (nv).B, .int .i64 (nv).C]) rfl
       try case cd1 =>
        intro j y hy
        match j, hy with
        | 0, hy => (simp at hy; subst hy; simp [Addr.add])
        | 1, hy => (simp at hy; subst hy; simp [Addr.add])
        | 2, hy => (simp at hy; subst hy; simp [Addr.add])
        | 3, hy => (simp at hy; subst hy; simp [Addr.add])
       try case cd2 => simp [Value.oneCell']
       case cd3 => unfold maxLen; skip; omega
       case cd4 => skip; omega
       try case cd5 => first | omega | (simp <;> omega)
       intro v6 w6 own6 hg6 _
       rw [← HM.out] at own6 hg6
       have T7' := (T5.out.bel' (zAl w5 nq x nv)).put (q := mkQ x (nv)) (zAg H1.out (zAl w5 nq x nv)) (zAe H2.out (zAl w5 nq x nv)) own6 hg6
       have P7' := (P5.out.bel' (zAl w5 nq x nv)).put (x := v6) (zAe H2.out (zAl w5 nq x nv)) hg6 (b := BB) (by omega)
       obtain ⟨X6, c6, rfl, rd6⟩ := zAt own6
       have e6 := zAr (zAg H1.out (zAl w5 nq x nv)) hg6 (zAm (zAe H2.out (zAl w5 nq x nv)) (zAg H1.out (zAl w5 nq x nv)) (by decide))
       have g0 := zAb e6 0 rfl
       have gf := zAh e6
       simp only [zgc, zga, zgb] at g0
       have T7 := Lib.hid T7'
       have P7 := Lib.hid P7'
       clear T7' P7' rd6 own6 hi9 hz0 hz1 hz2 k0 kf hg6 e6 e0 e1 e2
       go_wp2
       go_roundw
       case rel => exact ⟨k + 1, out ++ [mkQ x (nv)], by omega, by go_num, by first | (simp; done) | (simp; omega), Lib.hid (by rw [HPU.out, push_diff HGL.out (fun h => ha h.1)]), HOKN, T7.out, P7.out⟩
       case measure => simp [intOf]; omega
   ·have HVA : Hid (valAt ps lo hi FF x = fv) := Lib.hid (by rw [valAt_out hin, ← HFV.out])
    have HOKN : Hid (okTo ps lo hi FB (TL.take (k + 1))) := Lib.hid (okTo_snoc HOK2.out HX.out (fun h1 h2 => absurd ⟨h1, h2⟩ hin))
    have T5 := Lib.hid (T2.out.bel' (zAa w2 (.cells #[.int .i64 fv.A, .int .i64 fv.B, .int .i64 fv.C] 73)))
    have P5 := Lib.hid (P2'.out.bel' (zAa w2 (.cells #[.int .i64 fv.A, .int .i64 fv.B, .int .i64 fv.C] 73)))
    have e0 : (w2.alloc (.cells #[.int .i64 fv.A, .int .i64 fv.B, .int .i64 fv.C] 73)).cell? ⟨w2.heap.size, 0, none⟩ = some (.int .i64 fv.A) := by simp [go_sem]
    have e1 : (w2.alloc (.cells #[.int .i64 fv.A, .int .i64 fv.B, .int .i64 fv.C] 73)).cell? ⟨w2.heap.size, 1, none⟩ = some (.int .i64 fv.B) := by simp [go_sem]
    have e2 : (w2.alloc (.cells #[.int .i64 fv.A, .int .i64 fv.B, .int .i64 fv.C] 73)).cell? ⟨w2.heap.size, 2, none⟩ = some (.int .i64 fv.C) := by simp [go_sem]
    have hbt : w2.heap.size < (w2.alloc (.cells #[.int .i64 fv.A, .int .i64 fv.B, .int .i64 fv.C] 73)).heap.size := by simp
    by_cases hin1 : lo ≤ x
    ·have hin2 : ¬ x < hi := fun h => hin ⟨hin1, h⟩
     clear hin
     go_upto_region 13 with fail
     clear T2 P2'
     generalize w2.alloc (.cells #[.int .i64 fv.A, .int .i64 fv.B, .int .i64 fv.C] 73) = w5 at *
     generalize w2.heap.size = bt at *
     obtain ⟨X, cx, h1, h2⟩ := T5.out.bx
     have k0 := zAb h1 0 rfl
     have kf := zAh h1
     have hlb := zAf h1
     simp only [zgc, zga, zgb] at k0
     have H1 := Lib.hid h1
     have H2 := Lib.hid h2
     clear h1 h2
     have HPU : Hid (chL (valAt ps lo hi FF) (TL.take (k + 1)) = push out x (fv)) := Lib.hid (by rw [take_snoc' HX.out, chL_snoc, ← HO.out, HVA.out])
     have hlt0 := hol
     cases hgl : out.getLast? with
     | none =>
      have hnil : out = [] := List.getLast?_eq_none_iff.1 hgl
      subst hnil
      clear hgl
      simp only [List.length_nil] at k0 hol
      go_wp2_with fail
      go_quiet (fail)
      obtain ⟨i0, hi9, hz0, hz1, hz2⟩ := info_parts infoPt
      go_wp2_with (at_builtin; refine wpList_append_own _ rfl _ _ 29 rfl (LO) 177 i0 (.agg #[.int .i64 0, .int .i64 0, .int .i64 0, .int .i64 0]) 4 32 Tryz.underlying29 hi9 hz0 hz1 hz2 rfl (by decide) _ _ _ rfl (zAe (zAe H2.out (zAd w5 _)) (zAa _ _)) ⟨w5.heap.size, 0, none⟩ 1 1 [.int .i64 x, .int .i64 (fv).A, .int .i64 (fv).B, .int .i64 (fv).C] rfl rfl ?ca1 ?ca2 ?ca3 ?ca4 ?ca5 ?_)
      try case ca1 => exact news9 (w := w5.drewN _) (cs := #[.int .i64 x, .int .i64 (fv).A, .int .i64 (fv).B, .int .i64 (fv).C]) rfl
      try case ca1 =>
       intro j y hy
       match j, hy with
       | 0, hy => (simp at hy; subst hy; simp [Addr.add])
       | 1, hy => (simp at hy; subst hy; simp [Addr.add])
       | 2, hy => (simp at hy; subst hy; simp [Addr.add])
       | 3, hy => (simp at hy; subst hy; simp [Addr.add])
      try case ca2 => simp [Value.oneCell']
      case ca3 => unfold maxLen; skip; omega
      case ca4 => skip; omega
      try case ca5 => first | omega | (simp <;> omega)
      intro v6 w6 own6 hg6 _
      have T7' := (T5.out.bel' (zAl w5 nq x fv)).put (q := mkQ x (fv)) (zAg H1.out (zAl w5 nq x fv)) (zAe H2.out (zAl w5 nq x fv)) own6 hg6
      have P7' := (P5.out.bel' (zAl w5 nq x fv)).put (x := v6) (zAe H2.out (zAl w5 nq x fv)) hg6 (b := BB) (by omega)
      obtain ⟨X6, c6, rfl, rd6⟩ := zAt own6
      have e6 := zAr (zAg H1.out (zAl w5 nq x fv)) hg6 (zAm (zAe H2.out (zAl w5 nq x fv)) (zAg H1.out (zAl w5 nq x fv)) (by decide))
      have g0 := zAb e6 0 rfl
      have gf := zAh e6
      simp only [zgc, zga, zgb] at g0
      have T7 := Lib.hid T7'
      have P7 := Lib.hid P7'
      clear T7' P7' rd6 own6 hi9 hz0 hz1 hz2 k0 kf hg6 e6 e0 e1 e2
      go_wp2
      go_roundw
      case rel => exact ⟨k + 1, ([] : List Q) ++ [mkQ x (fv)], by omega, by go_num, by first | (simp; done) | (simp; omega), Lib.hid (by rw [HPU.out, push_nil]), HOKN, T7.out, P7.out⟩
      case measure => simp [intOf]; omega
     | some q =>
      obtain ⟨m, hm⟩ : ∃ m, out.length = m + 1 := by
       cases out with
       | nil => simp at hgl
       | cons a r => exact ⟨r.length, rfl⟩
      have hql : out[m]? = some q := by
       rw [List.getLast?_eq_getElem?, hm] at hgl; simpa using hgl
      have H2m : Hid (w5.ownsRow LO 177 4 (.slice X (m + 1) cx) (m + 1) (flat out)) := Lib.hid (by have := H2.out; rwa [hm] at this)
      obtain ⟨g1, q', rfl, hq', d0, d1, d2, d3⟩ := Rd.q (zAv H2m.out) (k := m) (by omega)
      have hqq : q' = q := by rw [hql] at hq'; exact (Option.some.inj hq').symm
      subst hqq
      have hg1 := own_blk H2m.out g1 rfl
      rw [hm] at k0 hol
      have HM := Lib.hid hm
      have HGL := Lib.hid hgl
      clear hm hql hq' hgl d0
      have hm1 : (m : Int) < (m : Int) + 1 := by omega
      have hm2 : ¬ ((m : Int) + 1 = 0) := by omega
      have hm3 : ((m : Int) + 1 == 0) = false := by simp; omega
      have hm4 : IntKind.i64.wrap ((m : Int) + 1 - 1) = (m : Int) := by rw [IntWalk.i64_in _ (by omega)]; omega
      have hm5 : (0 : Int) ≤ (m : Int) := by omega
      by_cases ha : q'.a = (fv).A
      ·by_cases hb : q'.b = (fv).B
       ·by_cases hc : q'.c = (fv).C
        ·have HSM : Hid (push out x (fv) = out) := Lib.hid (push_same HGL.out ha hb hc)
         go_wp2_with fail
         go_quiet (fail)
         go_wp2
         go_roundw
         case rel => exact ⟨k + 1, out, by omega, by go_num, by have := HM.out; omega, Lib.hid (by rw [HPU.out, HSM.out]), HOKN, T5.out.bel' (zAd _ _), P5.out.bel' (zAd _ _)⟩
         case measure => simp [intOf]; omega
        ·skip
         go_wp2_with fail
         go_quiet (fail)
         obtain ⟨i0, hi9, hz0, hz1, hz2⟩ := info_parts infoPt
         go_wp2_with (at_builtin; refine wpList_append_own _ rfl _ _ 29 rfl (LO) 177 i0 (.agg #[.int .i64 0, .int .i64 0, .int .i64 0, .int .i64 0]) 4 32 Tryz.underlying29 hi9 hz0 hz1 hz2 rfl (by decide) _ _ _ rfl (zAe (zAe H2m.out (zAd w5 _)) (zAa _ _)) ⟨w5.heap.size, 0, none⟩ 1 1 [.int .i64 x, .int .i64 (fv).A, .int .i64 (fv).B, .int .i64 (fv).C] rfl rfl ?cb1 ?cb2 ?cb3 ?cb4 ?cb5 ?_)
         try case cb1 => exact news9 (w := w5.drewN _) (cs := #[.int .i64 x, .int .i64 (fv).A, .int .i64 (fv).B, .int .i64 (fv).C]) rfl
         try case cb1 =>
          intro j y hy
          match j, hy with
          | 0, hy => (simp at hy; subst hy; simp [Addr.add])
          | 1, hy => (simp at hy; subst hy; simp [Addr.add])
          | 2, hy => (simp at hy; subst hy; simp [Addr.add])
          | 3, hy => (simp at hy; subst hy; simp [Addr.add])
         try case cb2 => simp [Value.oneCell']
         case cb3 => unfold maxLen; skip; omega
         case cb4 => skip; omega
         try case cb5 => first | omega | (simp <;> omega)
         intro v6 w6 own6 hg6 _
         rw [← HM.out] at own6 hg6
         have T7' := (T5.out.bel' (zAl w5 nq x fv)).put (q := mkQ x (fv)) (zAg H1.out (zAl w5 nq x fv)) (zAe H2.out (zAl w5 nq x fv)) own6 hg6
         have P7' := (P5.out.bel' (zAl w5 nq x fv)).put (x := v6) (zAe H2.out (zAl w5 nq x fv)) hg6 (b := BB) (by omega)
         obtain ⟨X6, c6, rfl, rd6⟩ := zAt own6
         have e6 := zAr (zAg H1.out (zAl w5 nq x fv)) hg6 (zAm (zAe H2.out (zAl w5 nq x fv)) (zAg H1.out (zAl w5 nq x fv)) (by decide))
         have g0 := zAb e6 0 rfl
         have gf := zAh e6
         simp only [zgc, zga, zgb] at g0
         have T7 := Lib.hid T7'
         have P7 := Lib.hid P7'
         clear T7' P7' rd6 own6 hi9 hz0 hz1 hz2 k0 kf hg6 e6 e0 e1 e2
         go_wp2
         go_roundw
         case rel => exact ⟨k + 1, out ++ [mkQ x (fv)], by omega, by go_num, by first | (simp; done) | (simp; omega), Lib.hid (by rw [HPU.out, push_diff HGL.out (fun h => hc h.2.2)]), HOKN, T7.out, P7.out⟩
         case measure => simp [intOf]; omega
       ·skip
        go_wp2_with fail
        go_quiet (fail)
        obtain ⟨i0, hi9, hz0, hz1, hz2⟩ := info_parts infoPt
        go_wp2_with (at_builtin; refine wpList_append_own _ rfl _ _ 29 rfl (LO) 177 i0 (.agg #[.int .i64 0, .int .i64 0, .int .i64 0, .int .i64 0]) 4 32 Tryz.underlying29 hi9 hz0 hz1 hz2 rfl (by decide) _ _ _ rfl (zAe (zAe H2m.out (zAd w5 _)) (zAa _ _)) ⟨w5.heap.size, 0, none⟩ 1 1 [.int .i64 x, .int .i64 (fv).A, .int .i64 (fv).B, .int .i64 (fv).C] rfl rfl ?cc1 ?cc2 ?cc3 ?cc4 ?cc5 ?_)
        try case cc1 => exact news9 (w := w5.drewN _) (cs := #[.int .i64 x, .int .i64 (fv).A, .int .i64 (fv).B, .int .i64 (fv).C]) rfl
        try case cc1 =>
         intro j y hy
         match j, hy with
         | 0, hy => (simp at hy; subst hy; simp [Addr.add])
         | 1, hy => (simp at hy; subst hy; simp [Addr.add])
         | 2, hy => (simp at hy; subst hy; simp [Addr.add])
         | 3, hy => (simp at hy; subst hy; simp [Addr.add])
        try case cc2 => simp [Value.oneCell']
        case cc3 => unfold maxLen; skip; omega
        case cc4 => skip; omega
        try case cc5 => first | omega | (simp <;> omega)
        intro v6 w6 own6 hg6 _
        rw [← HM.out] at own6 hg6
        have T7' := (T5.out.bel' (zAl w5 nq x fv)).put (q := mkQ x (fv)) (zAg H1.out (zAl w5 nq x fv)) (zAe H2.out (zAl w5 nq x fv)) own6 hg6
        have P7' := (P5.out.bel' (zAl w5 nq x fv)).put (x := v6) (zAe H2.out (zAl w5 nq x fv)) hg6 (b := BB) (by omega)
        obtain ⟨X6, c6, rfl, rd6⟩ := zAt own6
        have e6 := zAr (zAg H1.out (zAl w5 nq x fv)) hg6 (zAm (zAe H2.out (zAl w5 nq x fv)) (zAg H1.out (zAl w5 nq x fv)) (by decide))
        have g0 := zAb e6 0 rfl
        have gf := zAh e6
        simp only [zgc, zga, zgb] at g0
        have T7 := Lib.hid T7'
        have P7 := Lib.hid P7'
        clear T7' P7' rd6 own6 hi9 hz0 hz1 hz2 k0 kf hg6 e6 e0 e1 e2
        go_wp2
        go_roundw
        case rel => exact ⟨k + 1, out ++ [mkQ x (fv)], by omega, by go_num, by first | (simp; done) | (simp; omega), Lib.hid (by rw [HPU.out, push_diff HGL.out (fun h => hb h.2.1)]), HOKN, T7.out, P7.out⟩
        case measure => simp [intOf]; omega
      ·skip
       go_wp2_with fail
       go_quiet (fail)
       obtain ⟨i0, hi9, hz0, hz1, hz2⟩ := info_parts infoPt
       go_wp2_with (at_builtin; refine wpList_append_own _ rfl _ _ 29 rfl (LO) 177 i0 (.agg #[.int .i64 0, .int .i64 0, .int .i64 0, .int .i64 0]) 4 32 Tryz.underlying29 hi9 hz0 hz1 hz2 rfl (by decide) _ _ _ rfl (zAe (zAe H2m.out (zAd w5 _)) (zAa _ _)) ⟨w5.heap.size, 0, none⟩ 1 1 [.int .i64 x, .int .i64 (fv).A, .int .i64 (fv).B, .int .i64 (fv).C] rfl rfl ?cd1 ?cd2 ?cd3 ?cd4 ?cd5 ?_)
       try case cd1 => exact news9 (w := w5.drewN _) (cs := #[.int .i64 x, .int .i64 (fv).A, .int .i64 (fv).B, .int .i64 (fv).C]) rfl
       try case cd1 =>
        intro j y hy
        match j, hy with
        | 0, hy => (simp at hy; subst hy; simp [Addr.add])
        | 1, hy => (simp at hy; subst hy; simp [Addr.add])
        | 2, hy => (simp at hy; subst hy; simp [Addr.add])
        | 3, hy => (simp at hy; subst hy; simp [Addr.add])
       try case cd2 => simp [Value.oneCell']
       case cd3 => unfold maxLen; skip; omega
       case cd4 => skip; omega
       try case cd5 => first | omega | (simp <;> omega)
       intro v6 w6 own6 hg6 _
       rw [← HM.out] at own6 hg6
       have T7' := (T5.out.bel' (zAl w5 nq x fv)).put (q := mkQ x (fv)) (zAg H1.out (zAl w5 nq x fv)) (zAe H2.out (zAl w5 nq x fv)) own6 hg6
       have P7' := (P5.out.bel' (zAl w5 nq x fv)).put (x := v6) (zAe H2.out (zAl w5 nq x fv)) hg6 (b := BB) (by omega)
       obtain ⟨X6, c6, rfl, rd6⟩ := zAt own6
       have e6 := zAr (zAg H1.out (zAl w5 nq x fv)) hg6 (zAm (zAe H2.out (zAl w5 nq x fv)) (zAg H1.out (zAl w5 nq x fv)) (by decide))
       have g0 := zAb e6 0 rfl
       have gf := zAh e6
       simp only [zgc, zga, zgb] at g0
       have T7 := Lib.hid T7'
       have P7 := Lib.hid P7'
       clear T7' P7' rd6 own6 hi9 hz0 hz1 hz2 k0 kf hg6 e6 e0 e1 e2
       go_wp2
       go_roundw
       case rel => exact ⟨k + 1, out ++ [mkQ x (fv)], by omega, by go_num, by first | (simp; done) | (simp; omega), Lib.hid (by rw [HPU.out, push_diff HGL.out (fun h => ha h.1)]), HOKN, T7.out, P7.out⟩
       case measure => simp [intOf]; omega
    ·clear hin
     go_upto_region 13 with fail
     clear T2 P2'
     generalize w2.alloc (.cells #[.int .i64 fv.A, .int .i64 fv.B, .int .i64 fv.C] 73) = w5 at *
     generalize w2.heap.size = bt at *
     obtain ⟨X, cx, h1, h2⟩ := T5.out.bx
     have k0 := zAb h1 0 rfl
     have kf := zAh h1
     have hlb := zAf h1
     simp only [zgc, zga, zgb] at k0
     have H1 := Lib.hid h1
     have H2 := Lib.hid h2
     clear h1 h2
     have HPU : Hid (chL (valAt ps lo hi FF) (TL.take (k + 1)) = push out x (fv)) := Lib.hid (by rw [take_snoc' HX.out, chL_snoc, ← HO.out, HVA.out])
     have hlt0 := hol
     cases hgl : out.getLast? with
     | none =>
      have hnil : out = [] := List.getLast?_eq_none_iff.1 hgl
      subst hnil
      clear hgl
      simp only [List.length_nil] at k0 hol
      go_wp2_with fail
      go_quiet (fail)
      obtain ⟨i0, hi9, hz0, hz1, hz2⟩ := info_parts infoPt
      go_wp2_with (at_builtin; refine wpList_append_own _ rfl _ _ 29 rfl (LO) 177 i0 (.agg #[.int .i64 0, .int .i64 0, .int .i64 0, .int .i64 0]) 4 32 Tryz.underlying29 hi9 hz0 hz1 hz2 rfl (by decide) _ _ _ rfl (zAe (zAe H2.out (zAd w5 _)) (zAa _ _)) ⟨w5.heap.size, 0, none⟩ 1 1 [.int .i64 x, .int .i64 (fv).A, .int .i64 (fv).B, .int .i64 (fv).C] rfl rfl ?ca1 ?ca2 ?ca3 ?ca4 ?ca5 ?_)
      try case ca1 => exact news9 (w := w5.drewN _) (cs := #[.int .i64 x, .int .i64 (fv).A, .int .i64 (fv).B, .int .i64 (fv).C]) rfl
      try case ca1 =>
       intro j y hy
       match j, hy with
       | 0, hy => (simp at hy; subst hy; simp [Addr.add])
       | 1, hy => (simp at hy; subst hy; simp [Addr.add])
       | 2, hy => (simp at hy; subst hy; simp [Addr.add])
       | 3, hy => (simp at hy; subst hy; simp [Addr.add])
      try case ca2 => simp [Value.oneCell']
      case ca3 => unfold maxLen; skip; omega
      case ca4 => skip; omega
      try case ca5 => first | omega | (simp <;> omega)
      intro v6 w6 own6 hg6 _
      have T7' := (T5.out.bel' (zAl w5 nq x fv)).put (q := mkQ x (fv)) (zAg H1.out (zAl w5 nq x fv)) (zAe H2.out (zAl w5 nq x fv)) own6 hg6
      have P7' := (P5.out.bel' (zAl w5 nq x fv)).put (x := v6) (zAe H2.out (zAl w5 nq x fv)) hg6 (b := BB) (by omega)
      obtain ⟨X6, c6, rfl, rd6⟩ := zAt own6
      have e6 := zAr (zAg H1.out (zAl w5 nq x fv)) hg6 (zAm (zAe H2.out (zAl w5 nq x fv)) (zAg H1.out (zAl w5 nq x fv)) (by decide))
      have g0 := zAb e6 0 rfl
      have gf := zAh e6
      simp only [zgc, zga, zgb] at g0
      have T7 := Lib.hid T7'
      have P7 := Lib.hid P7'
      clear T7' P7' rd6 own6 hi9 hz0 hz1 hz2 k0 kf hg6 e6 e0 e1 e2
      go_wp2
      go_roundw
      case rel => exact ⟨k + 1, ([] : List Q) ++ [mkQ x (fv)], by omega, by go_num, by first | (simp; done) | (simp; omega), Lib.hid (by rw [HPU.out, push_nil]), HOKN, T7.out, P7.out⟩
      case measure => simp [intOf]; omega
     | some q =>
      obtain ⟨m, hm⟩ : ∃ m, out.length = m + 1 := by
       cases out with
       | nil => simp at hgl
       | cons a r => exact ⟨r.length, rfl⟩
      have hql : out[m]? = some q := by
       rw [List.getLast?_eq_getElem?, hm] at hgl; simpa using hgl
      have H2m : Hid (w5.ownsRow LO 177 4 (.slice X (m + 1) cx) (m + 1) (flat out)) := Lib.hid (by have := H2.out; rwa [hm] at this)
      obtain ⟨g1, q', rfl, hq', d0, d1, d2, d3⟩ := Rd.q (zAv H2m.out) (k := m) (by omega)
      have hqq : q' = q := by rw [hql] at hq'; exact (Option.some.inj hq').symm
      subst hqq
      have hg1 := own_blk H2m.out g1 rfl
      rw [hm] at k0 hol
      have HM := Lib.hid hm
      have HGL := Lib.hid hgl
      clear hm hql hq' hgl d0
      have hm1 : (m : Int) < (m : Int) + 1 := by omega
      have hm2 : ¬ ((m : Int) + 1 = 0) := by omega
      have hm3 : ((m : Int) + 1 == 0) = false := by simp; omega
      have hm4 : IntKind.i64.wrap ((m : Int) + 1 - 1) = (m : Int) := by rw [IntWalk.i64_in _ (by omega)]; omega
      have hm5 : (0 : Int) ≤ (m : Int) := by omega
      by_cases ha : q'.a = (fv).A
      ·by_cases hb : q'.b = (fv).B
       ·by_cases hc : q'.c = (fv).C
        ·have HSM : Hid (push out x (fv) = out) := Lib.hid (push_same HGL.out ha hb hc)
         go_wp2_with fail
         go_quiet (fail)
         go_wp2
         go_roundw
         case rel => exact ⟨k + 1, out, by omega, by go_num, by have := HM.out; omega, Lib.hid (by rw [HPU.out, HSM.out]), HOKN, T5.out.bel' (zAd _ _), P5.out.bel' (zAd _ _)⟩
         case measure => simp [intOf]; omega
        ·skip
         go_wp2_with fail
         go_quiet (fail)
         obtain ⟨i0, hi9, hz0, hz1, hz2⟩ := info_parts infoPt
         go_wp2_with (at_builtin; refine wpList_append_own _ rfl _ _ 29 rfl (LO) 177 i0 (.agg #[.int .i64 0, .int .i64 0, .int .i64 0, .int .i64 0]) 4 32 Tryz.underlying29 hi9 hz0 hz1 hz2 rfl (by decide) _ _ _ rfl (zAe (zAe H2m.out (zAd w5 _)) (zAa _ _)) ⟨w5.heap.size, 0, none⟩ 1 1 [.int .i64 x, .int .i64 (fv).A, .int .i64 (fv).B, .int .i64 (fv).C] rfl rfl ?cb1 ?cb2 ?cb3 ?cb4 ?cb5 ?_)
         try case cb1 => exact news9 (w := w5.drewN _) (cs := #[.int .i64 x, .int .i64 (fv).A, .int .i64 (fv).B, .int .i64 (fv).C]) rfl
         try case cb1 =>
          intro j y hy
          match j, hy with
          | 0, hy => (simp at hy; subst hy; simp [Addr.add])
          | 1, hy => (simp at hy; subst hy; simp [Addr.add])
          | 2, hy => (simp at hy; subst hy; simp [Addr.add])
          | 3, hy => (simp at hy; subst hy; simp [Addr.add])
         try case cb2 => simp [Value.oneCell']
         case cb3 => unfold maxLen; skip; omega
         case cb4 => skip; omega
         try case cb5 => first | omega | (simp <;> omega)
         intro v6 w6 own6 hg6 _
         rw [← HM.out] at own6 hg6
         have T7' := (T5.out.bel' (zAl w5 nq x fv)).put (q := mkQ x (fv)) (zAg H1.out (zAl w5 nq x fv)) (zAe H2.out (zAl w5 nq x fv)) own6 hg6
         have P7' := (P5.out.bel' (zAl w5 nq x fv)).put (x := v6) (zAe H2.out (zAl w5 nq x fv)) hg6 (b := BB) (by omega)
         obtain ⟨X6, c6, rfl, rd6⟩ := zAt own6
         have e6 := zAr (zAg H1.out (zAl w5 nq x fv)) hg6 (zAm (zAe H2.out (zAl w5 nq x fv)) (zAg H1.out (zAl w5 nq x fv)) (by decide))
         have g0 := zAb e6 0 rfl
         have gf := zAh e6
         simp only [zgc, zga, zgb] at g0
         have T7 := Lib.hid T7'
         have P7 := Lib.hid P7'
         clear T7' P7' rd6 own6 hi9 hz0 hz1 hz2 k0 kf hg6 e6 e0 e1 e2
         go_wp2
         go_roundw
         case rel => exact ⟨k + 1, out ++ [mkQ x (fv)], by omega, by go_num, by first | (simp; done) | (simp; omega), Lib.hid (by rw [HPU.out, push_diff HGL.out (fun h => hc h.2.2)]), HOKN, T7.out, P7.out⟩
         case measure => simp [intOf]; omega
       ·skip
        go_wp2_with fail
        go_quiet (fail)
        obtain ⟨i0, hi9, hz0, hz1, hz2⟩ := info_parts infoPt
        go_wp2_with (at_builtin; refine wpList_append_own _ rfl _ _ 29 rfl (LO) 177 i0 (.agg #[.int .i64 0, .int .i64 0, .int .i64 0, .int .i64 0]) 4 32 Tryz.underlying29 hi9 hz0 hz1 hz2 rfl (by decide) _ _ _ rfl (zAe (zAe H2m.out (zAd w5 _)) (zAa _ _)) ⟨w5.heap.size, 0, none⟩ 1 1 [.int .i64 x, .int .i64 (fv).A, .int .i64 (fv).B, .int .i64 (fv).C] rfl rfl ?cc1 ?cc2 ?cc3 ?cc4 ?cc5 ?_)
        try case cc1 => exact news9 (w := w5.drewN _) (cs := #[.int .i64 x, .int .i64 (fv).A, .int .i64 (fv).B, .int .i64 (fv).C]) rfl
        try case cc1 =>
         intro j y hy
         match j, hy with
         | 0, hy => (simp at hy; subst hy; simp [Addr.add])
         | 1, hy => (simp at hy; subst hy; simp [Addr.add])
         | 2, hy => (simp at hy; subst hy; simp [Addr.add])
         | 3, hy => (simp at hy; subst hy; simp [Addr.add])
        try case cc2 => simp [Value.oneCell']
        case cc3 => unfold maxLen; skip; omega
        case cc4 => skip; omega
        try case cc5 => first | omega | (simp <;> omega)
        intro v6 w6 own6 hg6 _
        rw [← HM.out] at own6 hg6
        have T7' := (T5.out.bel' (zAl w5 nq x fv)).put (q := mkQ x (fv)) (zAg H1.out (zAl w5 nq x fv)) (zAe H2.out (zAl w5 nq x fv)) own6 hg6
        have P7' := (P5.out.bel' (zAl w5 nq x fv)).put (x := v6) (zAe H2.out (zAl w5 nq x fv)) hg6 (b := BB) (by omega)
        obtain ⟨X6, c6, rfl, rd6⟩ := zAt own6
        have e6 := zAr (zAg H1.out (zAl w5 nq x fv)) hg6 (zAm (zAe H2.out (zAl w5 nq x fv)) (zAg H1.out (zAl w5 nq x fv)) (by decide))
        have g0 := zAb e6 0 rfl
        have gf := zAh e6
        simp only [zgc, zga, zgb] at g0
        have T7 := Lib.hid T7'
        have P7 := Lib.hid P7'
        clear T7' P7' rd6 own6 hi9 hz0 hz1 hz2 k0 kf hg6 e6 e0 e1 e2
        go_wp2
        go_roundw
        case rel => exact ⟨k + 1, out ++ [mkQ x (fv)], by omega, by go_num, by first | (simp; done) | (simp; omega), Lib.hid (by rw [HPU.out, push_diff HGL.out (fun h => hb h.2.1)]), HOKN, T7.out, P7.out⟩
        case measure => simp [intOf]; omega
      ·skip
       go_wp2_with fail
       go_quiet (fail)
       obtain ⟨i0, hi9, hz0, hz1, hz2⟩ := info_parts infoPt
       go_wp2_with (at_builtin; refine wpList_append_own _ rfl _ _ 29 rfl (LO) 177 i0 (.agg #[.int .i64 0, .int .i64 0, .int .i64 0, .int .i64 0]) 4 32 Tryz.underlying29 hi9 hz0 hz1 hz2 rfl (by decide) _ _ _ rfl (zAe (zAe H2m.out (zAd w5 _)) (zAa _ _)) ⟨w5.heap.size, 0, none⟩ 1 1 [.int .i64 x, .int .i64 (fv).A, .int .i64 (fv).B, .int .i64 (fv).C] rfl rfl ?cd1 ?cd2 ?cd3 ?cd4 ?cd5 ?_)
       try case cd1 => exact news9 (w := w5.drewN _) (cs := #[.int .i64 x, .int .i64 (fv).A, .int .i64 (fv).B, .int .i64 (fv).C]) rfl
       try case cd1 =>
        intro j y hy
        match j, hy with
        | 0, hy => (simp at hy; subst hy; simp [Addr.add])
        | 1, hy => (simp at hy; subst hy; simp [Addr.add])
        | 2, hy => (simp at hy; subst hy; simp [Addr.add])
        | 3, hy => (simp at hy; subst hy; simp [Addr.add])
       try case cd2 => simp [Value.oneCell']
       case cd3 => unfold maxLen; skip; omega
       case cd4 => skip; omega
       try case cd5 => first | omega | (simp <;> omega)
       intro v6 w6 own6 hg6 _
       rw [← HM.out] at own6 hg6
       have T7' := (T5.out.bel' (zAl w5 nq x fv)).put (q := mkQ x (fv)) (zAg H1.out (zAl w5 nq x fv)) (zAe H2.out (zAl w5 nq x fv)) own6 hg6
       have P7' := (P5.out.bel' (zAl w5 nq x fv)).put (x := v6) (zAe H2.out (zAl w5 nq x fv)) hg6 (b := BB) (by omega)
       obtain ⟨X6, c6, rfl, rd6⟩ := zAt own6
       have e6 := zAr (zAg H1.out (zAl w5 nq x fv)) hg6 (zAm (zAe H2.out (zAl w5 nq x fv)) (zAg H1.out (zAl w5 nq x fv)) (by decide))
       have g0 := zAb e6 0 rfl
       have gf := zAh e6
       simp only [zgc, zga, zgb] at g0
       have T7 := Lib.hid T7'
       have P7 := Lib.hid P7'
       clear T7' P7' rd6 own6 hi9 hz0 hz1 hz2 k0 kf hg6 e6 e0 e1 e2
       go_wp2
       go_roundw
       case rel => exact ⟨k + 1, out ++ [mkQ x (fv)], by omega, by go_num, by first | (simp; done) | (simp; omega), Lib.hid (by rw [HPU.out, push_diff HGL.out (fun h => ha h.1)]), HOKN, T7.out, P7.out⟩
       case measure => simp [intOf]; omega
  ·have hkT : k = TL.length := by omega
   have hlt' : ¬ (k : Int) < TL.length := by omega
   have HCB : Hid (chgB ps lo hi FB = true) := Lib.hid (okTo_all (by
    have := HOK2.out
    rwa [hkT, List.take_length, HTL.out] at this))
   have HCV : Hid (out = chgV ps lo hi FF) := Lib.hid (by
    have := HO.out
    rw [hkT, List.take_length, HTL.out] at this
    exact this)
   have HPO : Hid (zAx out = decide (out.length ≤ 200)) := Lib.hid (by
    rw [HCV.out]
    exact chg_ok HOK.out HSP.out HCB.out (fun y hy => by rw [HFB.out] at hy; rw [HFF.out]; exact (sub_ok hy).1))
   clear hkT
   obtain ⟨X, cx, h1, h2⟩ := T.out.bx
   have k0 := zAb h1 0 rfl
   have kf := zAh h1
   simp only [zgc, zga, zgb] at k0
   have H1 := Lib.hid h1
   have H2 := Lib.hid h2
   clear h1 h2
   go_wp2_with fail
   refine (sprofOk_any X out.length cx out _ (by omega) (zAv H2.out) (own_blk H2.out)).mono ?_
   rintro e w2 ⟨rfl, hb2⟩
   have T2 := Lib.hid (T.out.bel' hb2)
   have K1 := Lib.hid (zAg H1.out hb2)
   have K2 := Lib.hid (zAe H2.out hb2)
   clear k0 kf H1 H2
   have k0 := zAb K1.out 0 rfl
   have kf := zAh K1.out
   simp only [zgc, zga, zgb] at k0
   cases hpo : zAx out
   ·have HBF : Hid (cgB ps lo hi FF FB = false) := Lib.hid (by
     have := HPO.out
     rw [hpo] at this
     unfold cgB; rw [← HCV.out, ← this, Bool.and_false])
    clear hpo
    have r0 := zAb T2.out.res 0 rfl
    have rf := zAh T2.out.res
    simp only [zgc, zga, zgb] at r0
    go_wp2
    (try go_light)
    refine bodyPost_ret (v := .tuple #[.agg #[.slice none 0 0], .bool false]) (by simp [results, Tryz.results208, go_sem, *]) rfl ?_
    refine ⟨_, by rw [HBF.out], ?_, ?_⟩
    ·unfold cgV; rw [HBF.out]; exact own_nil _ _ _ _
    ·exact T2.out.bel.setCell (by simp <;> omega) _
   ·have HBF : Hid (cgB ps lo hi FF FB = true) := Lib.hid (by
     have := HPO.out
     rw [hpo] at this
     unfold cgB; rw [← HCV.out, ← this, HCB.out]; rfl)
    clear hpo
    have r0 := zAb T2.out.res 0 rfl
    have rf := zAh T2.out.res
    simp only [zgc, zga, zgb] at r0
    go_wp2
    (try go_light)
    refine bodyPost_ret (v := .tuple #[.agg #[.slice X out.length cx], .bool true]) (by simp [results, Tryz.results208, go_sem, *]) rfl ?_
    refine ⟨_, by rw [HBF.out], ?_, ?_⟩
    ·unfold cgV; rw [HBF.out, if_pos rfl, ← HCV.out]
     exact zAn (zAo K2.out (zAm K2.out T2.out.res (by decide)) _) T2.out.hb.2.2.2
    ·exact T2.out.bel.setCell (by simp <;> omega) _
def tkV (ps : List Q) (lo hi : Int) (v : V) : List Q := if takeB ps lo hi v then takeV ps lo hi v else []
theorem tk_eq {ps : List Q} {lo hi : Int} {v : V} (h : minB ps lo hi = true) : cgB ps lo hi (fun y => subV y v) (fun y => subB y v) = takeB ps lo hi v ∧ cgV ps lo hi (fun y => subV y v) (fun y => subB y v) = tkV ps lo hi v := by
 have e : cgB ps lo hi (fun y => subV y v) (fun y => subB y v) = takeB ps lo hi v := by
  unfold minB at h
  unfold cgB takeB
  rw [h]; rfl
 exact ⟨e, by unfold cgV tkV; rw [e]; rfl⟩
theorem tk_no {ps : List Q} {lo hi : Int} {v : V} (h : minB ps lo hi = false) : takeB ps lo hi v = false ∧ tkV ps lo hi v = [] := by
 have e : takeB ps lo hi v = false := by unfold minB at h; unfold takeB; rw [h]; rfl
 exact ⟨e, by unfold tkV; rw [e]; rfl⟩
set_option maxHeartbeats 4000000 in
theorem stake_any (A : Option Addr) (n c : Nat) (ps : List Q) (lo hi : Int) (v : V) (w : World) (hn : n ≤ 1048576) (hr : Rd w A n 4 (flat ps)) (hl : ∀ g, A = some ⟨g, 0, none⟩ → g < w.heap.size) :
  Calls Tryz.prog 151 #[.agg #[.slice A n c], .int .i64 lo, .int .i64 hi, .agg #[.int .i64 v.A, .int .i64 v.B, .int .i64 v.C]] w fun e w' => ∃ u, e = .returned (.tuple #[.agg #[u], .bool (takeB ps lo hi v)]) ∧ w'.ownsRow w.heap.size 177 4 u (tkV ps lo hi v).length (flat (tkV ps lo hi v)) ∧ Below w.heap.size w w' := by
 have hpl : ps.length = n := by have := hr.1; rw [flat_len] at this; omega
 have hm : n ≤ 9223372036854775807 := by omega
 have HN := Lib.hid hn
 have HR := Lib.hid hr
 have HL := Lib.hid hl
 have HP := Lib.hid hpl
 clear hn hr hl hpl
 go_enter Tryz.func151, Tryz.ntmps151
 go_wp2_with fail
 refine (sprofMin_any A n c ps lo hi _ HN.out (HR.out.below HL.out zBe) (zAi HL.out zBe)).mono ?_
 rintro e w1 ⟨rfl, hb1⟩
 have hs1 := hb1.size
 (try simp at hs1)
 have hy10 : w.heap.size < w1.heap.size := by omega
 have hk10 := fun o => hb1.cell (p := ⟨w.heap.size, o, none⟩) zOm
 have hg10 := fun o => hb1.frozen (p := ⟨w.heap.size, o, none⟩) zOm
 have hy11 : w.heap.size + 1 < w1.heap.size := by omega
 have hk11 := fun o => hb1.cell (p := ⟨w.heap.size + 1, o, none⟩) zOm
 have hg11 := fun o => hb1.frozen (p := ⟨w.heap.size + 1, o, none⟩) zOm
 have hy12 : w.heap.size + 1 + 1 < w1.heap.size := by omega
 have hk12 := fun o => hb1.cell (p := ⟨w.heap.size + 1 + 1, o, none⟩) zOm
 have hg12 := fun o => hb1.frozen (p := ⟨w.heap.size + 1 + 1, o, none⟩) zOm
 cases hm : minB ps lo hi
 ·have HF := Lib.hid (tk_no (v := v) hm)
  clear hm
  go_wp2
  (try go_light)
  refine bodyPost_ret (v := .tuple #[.agg #[.slice none 0 0], .bool false]) (by simp [results, Tryz.results151, go_sem, *]) rfl ?_
  refine ⟨_, by rw [HF.out.1], ?_, ?_⟩
  ·rw [HF.out.2]; exact own_nil _ _ _ _
  ·repeat (first | exact Below.refl _ _ | assumption | (refine zAc ?_ (zAd _ _)) | exact zAc (by assumption) (by assumption) | (refine zAc ?_ (zAa _ _)) | (refine zAc ?_ (by assumption)) | (refine Below.setCell ?_ (by simp <;> omega) _) | refine Below.drew ?_)
 ·have HE := Lib.hid (tk_eq (v := v) hm)
  have hmm := hm
  simp only [minB, Bool.and_eq_true] at hmm
  have HO := Lib.hid hmm.1
  have HSP := Lib.hid hmm.2
  clear hm hmm
  go_wp2_with fail
  refine (schange_sub A n c ps lo hi v _ HN.out (HR.out.below HL.out zBe) (zAi HL.out zBe) HO.out HSP.out).mono ?_
  rintro e w2 ⟨u, rfl, own2, hb2⟩
  have hs2 := hb2.size
  (try simp at hs2)
  have hy20 : w.heap.size < w2.heap.size := by omega
  have hk20 := fun o => hb2.cell (p := ⟨w.heap.size, o, none⟩) zOm
  have hg20 := fun o => hb2.frozen (p := ⟨w.heap.size, o, none⟩) zOm
  have hy21 : w.heap.size + 1 < w2.heap.size := by omega
  have hk21 := fun o => hb2.cell (p := ⟨w.heap.size + 1, o, none⟩) zOm
  have hg21 := fun o => hb2.frozen (p := ⟨w.heap.size + 1, o, none⟩) zOm
  have hy22 : w.heap.size + 1 + 1 < w2.heap.size := by omega
  have hk22 := fun o => hb2.cell (p := ⟨w.heap.size + 1 + 1, o, none⟩) zOm
  have hg22 := fun o => hb2.frozen (p := ⟨w.heap.size + 1 + 1, o, none⟩) zOm
  rw [HE.out.1, HE.out.2] at *
  obtain ⟨U, cu, rfl, ru⟩ := zAt own2
  clear ru
  have OW := Lib.hid own2
  clear own2
  have NE : Hid (∀ k, (Value.slice U (tkV ps lo hi v).length cu).ownBlock = some k → k ≠ w.heap.size + 1 + 1) := Lib.hid (fun k hk => by have := own_ge OW.out k hk; (try simp at this); omega)
  go_wp2
  (try go_light)
  refine bodyPost_ret (v := .tuple #[.agg #[.slice U (tkV ps lo hi v).length cu], .bool (takeB ps lo hi v)]) (by simp [results, Tryz.results151, go_sem, *]) rfl ?_
  refine ⟨_, rfl, ?_, ?_⟩
  ·have h9 := zAo (a := ⟨w.heap.size + 1 + 1, 0, none⟩) OW.out NE.out (.slice U (tkV ps lo hi v).length cu)
   exact zAn h9 (by have := hs1; simp <;> omega)
  ·repeat (first | exact Below.refl _ _ | assumption | (refine zAc ?_ (zAd _ _)) | exact zAc (by assumption) (by assumption) | (refine zAc ?_ (zAa _ _)) | (refine zAc ?_ (by assumption)) | (refine Below.setCell ?_ (by simp <;> omega) _) | refine Below.drew ?_)
structure P1 (wr : World) (ba : Nat) (A : Option Addr) (n c : Nat) : Prop where
 pa : wr.heap[ba]? = some (.cells #[.slice A n c] 31 (0, 0))
theorem P1.bel' {wr w' : World} {ba : Nat} {A : Option Addr} {n c : Nat} (h : P1 wr ba A n c) (hb : Below wr.heap.size wr w') : P1 w' ba A n c := ⟨zAg h.pa hb⟩
theorem P1.put {wr w1 : World} {ba b lo : Nat} {A : Option Addr} {n c : Nat} (h : P1 wr ba A n c) {u : Value} {m : Nat} {xs : List Value} {x : Value} (h2 : wr.ownsRow lo 177 4 u m xs) (hg : wr.grownBy w1 u.ownBlock) (hb : ba ≠ b) : P1 (w1.setCell ⟨b, 0, none⟩ x) ba A n c :=
 ⟨bx_set (zAr h.pa hg (fun k hk => zAm h2 h.pa (by decide) k hk)) hb _⟩
theorem mem_times {ps : List Q} {lo hi : Int} (x : Int) : x ∈ lo :: hi :: ps.map (·.t) ↔ x = hi ∨ x = lo ∨ ∃ q ∈ ps, q.t = x := by
 simp only [List.mem_cons, List.mem_map]
 constructor
 ·rintro (h | h | h)
  ·exact Or.inr (Or.inl h)
  ·exact Or.inl h
  ·exact Or.inr (Or.inr h)
 ·rintro (h | h | h)
  ·exact Or.inr (Or.inl h)
  ·exact Or.inl h
  ·exact Or.inr (Or.inr h)
theorem times_comp {ps : List Q} (hn : Norm ps) (lo hi : Int) : compZ (sortZ (lo :: hi :: ps.map (·.t))) = timesL ps lo hi := compact_times hn mem_times
set_option maxHeartbeats 8000000 in
set_option maxRecDepth 20000 in
theorem changed_any (A : Option Addr) (n c : Nat) (ps : List Q) (lo hi : Int) (FF : V → V) (FB : V → Bool) (g0 : Nat) (lb : Array Value) (w : World) (hn : n ≤ 1048576) (hr : Rd w A n 4 (flat ps)) (hl : ∀ g, A = some ⟨g, 0, none⟩ → g < w.heap.size) (hok : zAx ps = true)
  (eg : ∀ args w, (callFunc g0 args).run Tryz.prog w = .ok (.enter g0 args) w)
  (hp : ∀ (y : V) (W : World), Below w.heap.size w W → Calls Tryz.prog g0 (#[.agg #[.int .i64 y.A, .int .i64 y.B, .int .i64 y.C]] ++ lb) W fun e W' => e = .returned (.tuple #[.agg #[.int .i64 (FF y).A, .int .i64 (FF y).B, .int .i64 (FF y).C], .bool (FB y)]) ∧ Below W.heap.size W W') :
  Calls Tryz.prog 179 #[.agg #[.slice A n c], .int .i64 lo, .int .i64 hi, .func (.func g0) #[] lb] w fun e w' => ∃ u, e = .returned (.tuple #[.agg #[u], .bool (cgB ps lo hi FF FB)]) ∧ w'.ownsRow w.heap.size 177 4 u (cgV ps lo hi FF FB).length (flat (cgV ps lo hi FF FB)) ∧ Below w.heap.size w w' := by
 have hn2 : n ≤ 200 := by
  have h1 := (profOk_parts hok).2.1
  have h2 : ps.length = n := by have := hr.1; rw [flat_len] at this; omega
  omega
 have HNO := Lib.hid (profOk_norm hok)
 have HPF := Lib.hid hp
 clear hok hp
 have hpl : ps.length = n := by have := hr.1; rw [flat_len] at this; omega
 have hm : n ≤ 9223372036854775807 := by omega
 have HN := Lib.hid hn
 have HR := Lib.hid hr
 have HL := Lib.hid hl
 have HP := Lib.hid hpl
 clear hn hr hl hpl
 go_enter Tryz.func179, Tryz.ntmps179
 go_wp2
 go_loopw [10, 26] (fun v i wr => ∃ (k : Nat) (X : Option Addr) (cx : Nat), k ≤ n ∧ i = .int .i64 k ∧ v = .slice X (k + 2) cx ∧ wr.ownsRow (w.heap.size + 1 + 1) 3 1 (.slice X (k + 2) cx) (k + 2) (ints (lo :: hi :: (ps.take k).map (·.t))) ∧ Below w.heap.size w wr ∧ w.heap.size + 1 + 1 ≤ wr.heap.size ∧ wr.heap[w.heap.size + 1]? = some (.cells #[.slice none 0 0] 31 (0, 0)) ∧ P1 wr (w.heap.size) A n c) (fun _ i _ => n - (intOf i).toNat)
 case atStart =>
  refine ⟨0, _, 2, Nat.zero_le _, rfl, rfl, ?_, zBe, zOm, ?_, ⟨?_⟩⟩
  ·exact own_lit (cs := [.int .i64 lo, .int .i64 hi]) (zAk _ (by simp)) rfl (by decide) (by omega)
  ·exact zAu (zAk _ (by simp)) _
  ·exact zAu (zAu (zAk _ (by simp)) _) _
 case round =>
  obtain ⟨k, X, cx, hk, rfl, rfl, hown, hbw, hsz, hres, hpa⟩ := hrel
  have HB := Lib.hid hbw
  have HW := Lib.hid hown
  have HRS := Lib.hid hres
  have HPA := Lib.hid hpa
  by_cases hlt : k < n
  ·have hlt' : (k : Int) < n := by omega
   obtain ⟨g, q, rfl, hq, d0, d1, d2, d3⟩ := HR.out.q hlt
   have hg := HL.out g rfl
   have D0 := (hbw.cell (p := ⟨g, k * 4, none⟩) hg).trans d0
   have D1 := (hbw.cell (p := ⟨g, k * 4 + 1, none⟩) hg).trans d1
   have D2 := (hbw.cell (p := ⟨g, k * 4 + 2, none⟩) hg).trans d2
   have D3 := (hbw.cell (p := ⟨g, k * 4 + 3, none⟩) hg).trans d3
   have hgr : g < wr.heap.size := Nat.lt_of_lt_of_le hg hbw.size
   have HS := Lib.hid (take_snoc' hq)
   clear d0 d1 d2 d3 hq hbw hown hres hpa
   obtain ⟨i0, hi9, hz0, hz1, hz2⟩ := info_parts infoI
   go_wp2_with (at_builtin; refine wpList_append_own _ rfl _ _ 23 rfl (w.heap.size + 1 + 1) 3 i0 (.int .i64 0) 1 8 Tryz.underlying23 hi9 hz0 hz1 hz2 rfl (by decide) _ _ _ rfl ((HW.out.alloc _).alloc _) ⟨wr.heap.size + 1, 0, none⟩ 1 1 [.int .i64 q.t] rfl rfl ?c1 ?c2 ?c3 ?c4 ?c5 ?_)
   try case c1 =>
    intro j y hy
    match j, hy with
    | 0, hy => (simp at hy; subst hy; simp [Addr.add])
   try case c2 => simp [Value.oneCell']
   case c3 => unfold maxLen; have := HN.out; omega
   case c4 => have := HN.out; omega
   try case c5 => first | omega | (simp <;> omega)
   intro v' w1 hown1 hg1 _
   obtain ⟨X', cx', rfl, _⟩ := zAt hown1
   have hH1 := Below.grown ((HB.out.alloc HB.out.size _).alloc (by simp; have := HB.out.size; omega) _) hg1 (by simp; have := HB.out.size; omega) (fun k hk => by have := own_ge HW.out k hk; omega)
   have hR1 := zAr (zAu (zAu HRS.out _) _) hg1 (fun k hk => by have := own_ge HW.out k hk; omega)
   have hP1 := zAr (zAu (zAu HPA.out.pa _) _) hg1 (fun k hk => by have := own_ge HW.out k hk; omega)
   have hS1 : w.heap.size + 1 + 1 ≤ w1.heap.size := by have := hg1.size; simp at this; omega
   have HO1 := Lib.hid hown1
   have HB1 := Lib.hid hH1
   have HR1 := Lib.hid hR1
   have HP1 := Lib.hid hP1
   clear hown1 hg1 hH1 hR1 hP1 hz0 hz1 hz2 hi9
   go_wp2
   go_roundw
   case rel =>
    refine ⟨k + 1, X', cx', by omega, by go_num, ?_, ?_, HB1.out, hS1, HR1.out, ⟨HP1.out⟩⟩
    ·first | rfl | (congr 1; omega)
    ·have := HO1.out
     rw [HS.out, List.map_append, List.map_singleton]
     simpa [ints, Nat.add_right_comm] using this
   case measure => simp [intOf]; omega
  ·have hkn : n = k := by omega
   subst hkn
   have hk9 : ps.take n = ps := take_all (by have := HP.out; omega)
   rw [hk9] at hown
   clear hk9
   have HW := Lib.hid hown
   obtain ⟨i0, hi0⟩ : ∃ g, X = some ⟨g, 0, none⟩ := by
    rcases hown.2 with ⟨h0, h1⟩ | ⟨g, cap, cur, hv, _⟩
    ·omega
    ·injection hv with h1 h2 h3; exact ⟨g, h1⟩
   subst hi0
   have hg0 := own_ge hown i0 rfl
   have hgl := own_blk hown i0 rfl
   clear hown hbw hres hpa
   go_wp2_with fail
   refine (sort_own HW.out (by omega)).mono ?_
   rintro e w2 ⟨rfl, own2, hg2⟩
   have hB2 := Below.grown HB.out hg2 HB.out.size (fun j hj => by cases hj; omega)
   have hs2 := hg2.size
   have HO2 := Lib.hid own2
   have HB2 := Lib.hid hB2
   have HR2 := Lib.hid (zAr HRS.out hg2 (fun j hj => by cases hj; omega))
   have HP2 := Lib.hid (zAr HPA.out.pa hg2 (fun j hj => by cases hj; omega))
   clear own2 hg2 hB2 HB HW HRS HPA
   go_wp2_with fail
   refine (compact_own (zAe HO2.out (zAa _ _)) (by omega)).mono ?_
   rintro e w3 ⟨rfl, own3, hg3⟩
   obtain ⟨BB, hBB⟩ : ∃ b, b = w2.heap.size := ⟨_, rfl⟩
   obtain ⟨LO, hLO⟩ : ∃ b, b = w.heap.size + 1 + 1 := ⟨_, rfl⟩
   obtain ⟨TL, hTLe⟩ : ∃ l, l = timesL ps lo hi := ⟨_, rfl⟩
   have hTC : compZ (sortZ (lo :: hi :: ps.map (·.t))) = TL := by rw [hTLe]; exact times_comp HNO.out lo hi
   rw [hTC] at own3 ⊢
   have hTL : TL.length ≤ n + 2 := by rw [hTLe]; exact Nat.le_trans (timesL_len ps lo hi) (by have := HP.out; omega)
   have HTL := Lib.hid hTLe
   have hB3 := Below.grown (HB2.out.alloc HB2.out.size _) hg3 (by simp; have := HB2.out.size; omega) (fun j hj => by cases hj; omega)
   have H00 : PB w w3 (w.heap.size + 1) BB LO (.slice (some ⟨i0, 0, none⟩) TL.length cx) TL [] := by
    subst hBB hLO
    refine ⟨⟨none, 0, zAr (zAk _ (by simp)) hg3 (fun j hj => by cases hj; omega), own_nil _ _ _ _⟩, own3, zAr (zAu HR2.out _) hg3 (fun j hj => by cases hj; omega), hB3, by omega⟩
   have H01 : P1 w3 (w.heap.size) A n c := ⟨zAr (zAu HP2.out _) hg3 (fun j hj => by cases hj; omega)⟩
   have T0 := Lib.hid H00
   have P0 := Lib.hid H01
   rw [← hBB]
   have hBB9 : w.heap.size + 1 + 1 ≤ BB := by omega
   have hLO9 : w.heap.size + 1 + 1 ≤ LO ∧ LO ≤ w.heap.size + 1 + 1 := by omega
   clear H00 H01 hTC hTLe hB3 own3 hg3 HO2 HB2 HR2 HP2 hs2 hBB hg0 hgl hsz hLO
   go_wp2
   go_loopw [42] (fun i wr => ∃ (k : Nat) (out : List Q), k ≤ TL.length ∧ i = .int .i64 k ∧ out.length ≤ k ∧ Hid (out = chL (valAt ps lo hi FF) (TL.take k)) ∧ Hid (okTo ps lo hi FB (TL.take k)) ∧ PB w wr (w.heap.size + 1) BB LO (.slice (some ⟨i0, 0, none⟩) TL.length cx) TL out ∧ P1 wr (w.heap.size) A n c) (fun i _ => TL.length - (intOf i).toNat)
   case atStart => exact ⟨0, [], Nat.zero_le _, rfl, Nat.le_refl _, Lib.hid rfl, Lib.hid (fun t ht => by simp at ht), T0.out, P0.out⟩
   case round =>
    clear T0 P0
    obtain ⟨k, out, hk, rfl, hol, HO, HOK2, T', P'⟩ := hrel
    have T := Lib.hid T'
    have P := Lib.hid P'
    clear T' P'
    by_cases hlt : k < TL.length
    ·have hlt' : (k : Int) < TL.length := by omega
     obtain ⟨g, x, hgi, hx, cx9⟩ := Rd.int (zAv T.out.tm) hlt
     obtain rfl : i0 = g := by injection hgi with h1; injection h1
     have hgl := own_blk T.out.tm i0 rfl
     have HX := Lib.hid hx
     clear hx hgi
     have p0 := zAb P.out.pa 0 rfl
     simp only [zgc, zga, zgb] at p0
     have hbw := T.out.bel
     have HBW := Lib.hid hbw
     clear hbw
     go_wp2_with fail
     refine (free_any A n c ps x _ HN.out (HR.out.below HL.out HBW.out) (zAi HL.out HBW.out)).mono ?_
     rintro e w2 ⟨rfl, hb2⟩
     have T2 := Lib.hid (T.out.bel' hb2)
     have P2' := Lib.hid (P.out.bel' hb2)
     clear hb2 T P p0 cx9 hgl
     obtain ⟨fv, hfv⟩ : ∃ y, y = freeV x ps := ⟨_, rfl⟩
     rw [← hfv]
     have HFV := Lib.hid hfv
     clear hfv
     by_cases hin : lo ≤ x ∧ x < hi
     ·obtain ⟨hin1, hin2⟩ := hin
      have hcall := HPF.out fv (w2.alloc (.cells #[.int .i64 fv.A, .int .i64 fv.B, .int .i64 fv.C] 73)) (zAc T2.out.bel (zAa _ _))
      have HC := Lib.hid hcall
      clear hcall
      go_wp2_with fail
      refine (HC.out).mono ?_
      rintro e w3 ⟨rfl, hb3⟩
      have hs3 := hb3.size
      (try simp at hs3)
      have hy3 : w2.heap.size < w3.heap.size := by omega
      have hk3 := fun o => hb3.cell (p := ⟨w2.heap.size, o, none⟩) (by simp)
      have hg3 := fun o => hb3.frozen (p := ⟨w2.heap.size, o, none⟩) (by simp)
      have T3 := Lib.hid ((T2.out.bel' (zAa _ _)).bel' hb3)
      have hrb := zAf T2.out.res
      have hrb3 : w.heap.size + 1 < w3.heap.size := by omega
      clear HC
      cases hok : FB fv
      ·have HBF : Hid (cgB ps lo hi FF FB = false) := Lib.hid (by
        unfold cgB
        rw [chg_bad (k := k) (x := x) (by rw [← HTL.out]; exact HX.out) hin1 hin2 (by rw [← HFV.out]; exact hok)]; rfl)
       clear hok
       have r0 := zAb T3.out.res 0 rfl
       have rf := zAh T3.out.res
       simp only [zgc, zga, zgb] at r0
       go_wp2
       (try go_light)
       refine bodyPost_ret (v := .tuple #[.agg #[.slice none 0 0], .bool false]) (by simp [results, Tryz.results179, go_sem, *]) rfl ?_
       refine ⟨_, by rw [HBF.out], ?_, ?_⟩
       ·unfold cgV; rw [HBF.out]; exact own_nil _ _ _ _
       ·exact (by repeat (first | exact T2.out.bel | (with_reducible refine Below.setCell ?_ (by have hq2 := T2.out.bel.size; simp <;> omega) _) | (with_reducible refine zAc ?_ hb3) | (with_reducible refine zAc ?_ (zAa _ _))))
      ·have HVA : Hid (valAt ps lo hi FF x = FF fv) := Lib.hid (by rw [valAt_in hin1 hin2, ← HFV.out])
       have HOKN : Hid (okTo ps lo hi FB (TL.take (k + 1))) := Lib.hid (okTo_snoc HOK2.out HX.out (fun _ _ => by rw [← HFV.out]; exact hok))
       clear hok
       generalize hnv : FF fv = nv at *
       go_upto_region 18 with fail
       skip
       have hch : Below w2.heap.size w2 ((((w3.setCell ⟨w2.heap.size, 0, none⟩ (.int .i64 nv.A)).setCell ⟨w2.heap.size, 1, none⟩ (.int .i64 nv.B)).setCell ⟨w2.heap.size, 2, none⟩ (.int .i64 nv.C)).alloc (.cells #[.int .i64 nv.A, .int .i64 nv.B, .int .i64 nv.C] 73)) := (by repeat (first | exact Below.refl _ _ | (with_reducible refine Below.setCell ?_ (by simp <;> omega) _) | (with_reducible refine zAc ?_ hb3) | (with_reducible refine zAc ?_ (zAa _ _))))
       have T5 := Lib.hid (T2.out.bel' hch)
       have P5 := Lib.hid (P2'.out.bel' hch)
       have e0 : ((((w3.setCell ⟨w2.heap.size, 0, none⟩ (.int .i64 nv.A)).setCell ⟨w2.heap.size, 1, none⟩ (.int .i64 nv.B)).setCell ⟨w2.heap.size, 2, none⟩ (.int .i64 nv.C)).alloc (.cells #[.int .i64 nv.A, .int .i64 nv.B, .int .i64 nv.C] 73)).cell? ⟨w2.heap.size, 0, none⟩ = some (.int .i64 nv.A) := by simp [go_sem, *, World.cell?_alloc_some, World.cell?_setCell_far, Nat.lt_add_right, Nat.ne_of_gt]
       have e1 : ((((w3.setCell ⟨w2.heap.size, 0, none⟩ (.int .i64 nv.A)).setCell ⟨w2.heap.size, 1, none⟩ (.int .i64 nv.B)).setCell ⟨w2.heap.size, 2, none⟩ (.int .i64 nv.C)).alloc (.cells #[.int .i64 nv.A, .int .i64 nv.B, .int .i64 nv.C] 73)).cell? ⟨w2.heap.size, 1, none⟩ = some (.int .i64 nv.B) := by simp [go_sem, *, World.cell?_alloc_some, World.cell?_setCell_far, Nat.lt_add_right, Nat.ne_of_gt]
       have e2 : ((((w3.setCell ⟨w2.heap.size, 0, none⟩ (.int .i64 nv.A)).setCell ⟨w2.heap.size, 1, none⟩ (.int .i64 nv.B)).setCell ⟨w2.heap.size, 2, none⟩ (.int .i64 nv.C)).alloc (.cells #[.int .i64 nv.A, .int .i64 nv.B, .int .i64 nv.C] 73)).cell? ⟨w2.heap.size, 2, none⟩ = some (.int .i64 nv.C) := by simp [go_sem, *, World.cell?_alloc_some, World.cell?_setCell_far, Nat.lt_add_right, Nat.ne_of_gt]
       have hbt : w2.heap.size < ((((w3.setCell ⟨w2.heap.size, 0, none⟩ (.int .i64 nv.A)).setCell ⟨w2.heap.size, 1, none⟩ (.int .i64 nv.B)).setCell ⟨w2.heap.size, 2, none⟩ (.int .i64 nv.C)).alloc (.cells #[.int .i64 nv.A, .int .i64 nv.B, .int .i64 nv.C] 73)).heap.size := by simp; omega
       clear hch hk3 hg3 hb3 T2 T3 P2' hrb hrb3 hy3 hs3
       generalize ((((w3.setCell ⟨w2.heap.size, 0, none⟩ (.int .i64 nv.A)).setCell ⟨w2.heap.size, 1, none⟩ (.int .i64 nv.B)).setCell ⟨w2.heap.size, 2, none⟩ (.int .i64 nv.C)).alloc (.cells #[.int .i64 nv.A, .int .i64 nv.B, .int .i64 nv.C] 73)) = w5 at *
       generalize w2.heap.size = bt at *
       obtain ⟨X, cx, h1, h2⟩ := T5.out.bx
       have k0 := zAb h1 0 rfl
       have kf := zAh h1
       have hlb := zAf h1
       simp only [zgc, zga, zgb] at k0
       have H1 := Lib.hid h1
       have H2 := Lib.hid h2
       clear h1 h2
       have HPU : Hid (chL (valAt ps lo hi FF) (TL.take (k + 1)) = push out x (nv)) := Lib.hid (by rw [take_snoc' HX.out, chL_snoc, ← HO.out, HVA.out])
       have hlt0 := hol
       cases hgl : out.getLast? with
       | none =>
        have hnil : out = [] := List.getLast?_eq_none_iff.1 hgl
        subst hnil
        clear hgl
        simp only [List.length_nil] at k0 hol
        go_wp2_with fail
        go_quiet (fail)
        obtain ⟨i0, hi9, hz0, hz1, hz2⟩ := info_parts infoPt
        go_wp2_with (at_builtin; refine wpList_append_own _ rfl _ _ 29 rfl (LO) 177 i0 (.agg #[.int .i64 0, .int .i64 0, .int .i64 0, .int .i64 0]) 4 32 Tryz.underlying29 hi9 hz0 hz1 hz2 rfl (by decide) _ _ _ rfl (zAe (zAe H2.out (zAd w5 _)) (zAa _ _)) ⟨w5.heap.size, 0, none⟩ 1 1 [.int .i64 x, .int .i64 (nv).A, .int .i64 (nv).B, .int .i64 (nv).C] rfl rfl ?ca1 ?ca2 ?ca3 ?ca4 ?ca5 ?_)
        try case ca1 => exact news9 (w := w5.drewN _) (cs := #[.int .i64 x, .int .i64 (nv).A, .int .i64 (nv).B, .int .i64 (nv).C]) rfl
        try case ca1 =>
         intro j y hy
         match j, hy with
         | 0, hy => (simp at hy; subst hy; simp [Addr.add])
         | 1, hy => (simp at hy; subst hy; simp [Addr.add])
         | 2, hy => (simp at hy; subst hy; simp [Addr.add])
         | 3, hy => (simp at hy; subst hy; simp [Addr.add])
        try case ca2 => simp [Value.oneCell']
        case ca3 => unfold maxLen; skip; omega
        case ca4 => skip; omega
        try case ca5 => first | omega | (simp <;> omega)
        intro v6 w6 own6 hg6 _
        have T7' := (T5.out.bel' (zAl w5 nq x nv)).put (q := mkQ x (nv)) (zAg H1.out (zAl w5 nq x nv)) (zAe H2.out (zAl w5 nq x nv)) own6 hg6
        have P7' := (P5.out.bel' (zAl w5 nq x nv)).put (x := v6) (zAe H2.out (zAl w5 nq x nv)) hg6 (b := BB) (by omega)
        obtain ⟨X6, c6, rfl, rd6⟩ := zAt own6
        have e6 := zAr (zAg H1.out (zAl w5 nq x nv)) hg6 (zAm (zAe H2.out (zAl w5 nq x nv)) (zAg H1.out (zAl w5 nq x nv)) (by decide))
        have g0 := zAb e6 0 rfl
        have gf := zAh e6
        simp only [zgc, zga, zgb] at g0
        have T7 := Lib.hid T7'
        have P7 := Lib.hid P7'
        clear T7' P7' rd6 own6 hi9 hz0 hz1 hz2 k0 kf hg6 e6 e0 e1 e2
        go_wp2
        go_roundw
        case rel => exact ⟨k + 1, ([] : List Q) ++ [mkQ x (nv)], by omega, by go_num, by first | (simp; done) | (simp; omega), Lib.hid (by rw [HPU.out, push_nil]), HOKN, T7.out, P7.out⟩
        case measure => simp [intOf]; omega
       | some q =>
        obtain ⟨m, hm⟩ : ∃ m, out.length = m + 1 := by
         cases out with
         | nil => simp at hgl
         | cons a r => exact ⟨r.length, rfl⟩
        have hql : out[m]? = some q := by
         rw [List.getLast?_eq_getElem?, hm] at hgl; simpa using hgl
        have H2m : Hid (w5.ownsRow LO 177 4 (.slice X (m + 1) cx) (m + 1) (flat out)) := Lib.hid (by have := H2.out; rwa [hm] at this)
        obtain ⟨g1, q', rfl, hq', d0, d1, d2, d3⟩ := Rd.q (zAv H2m.out) (k := m) (by omega)
        have hqq : q' = q := by rw [hql] at hq'; exact (Option.some.inj hq').symm
        subst hqq
        have hg1 := own_blk H2m.out g1 rfl
        rw [hm] at k0 hol
        have HM := Lib.hid hm
        have HGL := Lib.hid hgl
        clear hm hql hq' hgl d0
        have hm1 : (m : Int) < (m : Int) + 1 := by omega
        have hm2 : ¬ ((m : Int) + 1 = 0) := by omega
        have hm3 : ((m : Int) + 1 == 0) = false := by simp; omega
        have hm4 : IntKind.i64.wrap ((m : Int) + 1 - 1) = (m : Int) := by rw [IntWalk.i64_in _ (by omega)]; omega
        have hm5 : (0 : Int) ≤ (m : Int) := by omega
        by_cases ha : q'.a = (nv).A
        ·by_cases hb : q'.b = (nv).B
         ·by_cases hc : q'.c = (nv).C
          ·have HSM : Hid (push out x (nv) = out) := Lib.hid (push_same HGL.out ha hb hc)
           go_wp2_with fail
           go_quiet (fail)
           go_wp2
           go_roundw
           case rel => exact ⟨k + 1, out, by omega, by go_num, by have := HM.out; omega, Lib.hid (by rw [HPU.out, HSM.out]), HOKN, T5.out.bel' (zAd _ _), P5.out.bel' (zAd _ _)⟩
           case measure => simp [intOf]; omega
          ·skip
           go_wp2_with fail
           go_quiet (fail)
           obtain ⟨i0, hi9, hz0, hz1, hz2⟩ := info_parts infoPt
           go_wp2_with (at_builtin; refine wpList_append_own _ rfl _ _ 29 rfl (LO) 177 i0 (.agg #[.int .i64 0, .int .i64 0, .int .i64 0, .int .i64 0]) 4 32 Tryz.underlying29 hi9 hz0 hz1 hz2 rfl (by decide) _ _ _ rfl (zAe (zAe H2m.out (zAd w5 _)) (zAa _ _)) ⟨w5.heap.size, 0, none⟩ 1 1 [.int .i64 x, .int .i64 (nv).A, .int .i64 (nv).B, .int .i64 (nv).C] rfl rfl ?cb1 ?cb2 ?cb3 ?cb4 ?cb5 ?_)
           try case cb1 => exact news9 (w := w5.drewN _) (cs := #[.int .i64 x, .int .i64 (nv).A, .int .i64 (nv).B, .int .i64 (nv).C]) rfl
           try case cb1 =>
            intro j y hy
            match j, hy with
            | 0, hy => (simp at hy; subst hy; simp [Addr.add])
            | 1, hy => (simp at hy; subst hy; simp [Addr.add])
            | 2, hy => (simp at hy; subst hy; simp [Addr.add])
            | 3, hy => (simp at hy; subst hy; simp [Addr.add])
           try case cb2 => simp [Value.oneCell']
           case cb3 => unfold maxLen; skip; omega
           case cb4 => skip; omega
           try case cb5 => first | omega | (simp <;> omega)
           intro v6 w6 own6 hg6 _
           rw [← HM.out] at own6 hg6
           have T7' := (T5.out.bel' (zAl w5 nq x nv)).put (q := mkQ x (nv)) (zAg H1.out (zAl w5 nq x nv)) (zAe H2.out (zAl w5 nq x nv)) own6 hg6
           have P7' := (P5.out.bel' (zAl w5 nq x nv)).put (x := v6) (zAe H2.out (zAl w5 nq x nv)) hg6 (b := BB) (by omega)
           obtain ⟨X6, c6, rfl, rd6⟩ := zAt own6
           have e6 := zAr (zAg H1.out (zAl w5 nq x nv)) hg6 (zAm (zAe H2.out (zAl w5 nq x nv)) (zAg H1.out (zAl w5 nq x nv)) (by decide))
           have g0 := zAb e6 0 rfl
           have gf := zAh e6
           simp only [zgc, zga, zgb] at g0
           have T7 := Lib.hid T7'
           have P7 := Lib.hid P7'
           clear T7' P7' rd6 own6 hi9 hz0 hz1 hz2 k0 kf hg6 e6 e0 e1 e2
           go_wp2
           go_roundw
           case rel => exact ⟨k + 1, out ++ [mkQ x (nv)], by omega, by go_num, by first | (simp; done) | (simp; omega), Lib.hid (by rw [HPU.out, push_diff HGL.out (fun h => hc h.2.2)]), HOKN, T7.out, P7.out⟩
           case measure => simp [intOf]; omega
         ·skip
          go_wp2_with fail
          go_quiet (fail)
          obtain ⟨i0, hi9, hz0, hz1, hz2⟩ := info_parts infoPt
          go_wp2_with (at_builtin; refine wpList_append_own _ rfl _ _ 29 rfl (LO) 177 i0 (.agg #[.int .i64 0, .int .i64 0, .int .i64 0, .int .i64 0]) 4 32 Tryz.underlying29 hi9 hz0 hz1 hz2 rfl (by decide) _ _ _ rfl (zAe (zAe H2m.out (zAd w5 _)) (zAa _ _)) ⟨w5.heap.size, 0, none⟩ 1 1 [.int .i64 x, .int .i64 (nv).A, .int .i64 (nv).B, .int .i64 (nv).C] rfl rfl ?cc1 ?cc2 ?cc3 ?cc4 ?cc5 ?_)
          try case cc1 => exact news9 (w := w5.drewN _) (cs := #[.int .i64 x, .int .i64 (nv).A, .int .i64 (nv).B, .int .i64 (nv).C]) rfl
          try case cc1 =>
           intro j y hy
           match j, hy with
           | 0, hy => (simp at hy; subst hy; simp [Addr.add])
           | 1, hy => (simp at hy; subst hy; simp [Addr.add])
           | 2, hy => (simp at hy; subst hy; simp [Addr.add])
           | 3, hy => (simp at hy; subst hy; simp [Addr.add])
          try case cc2 => simp [Value.oneCell']
          case cc3 => unfold maxLen; skip; omega
          case cc4 => skip; omega
          try case cc5 => first | omega | (simp <;> omega)
          intro v6 w6 own6 hg6 _
          rw [← HM.out] at own6 hg6
          have T7' := (T5.out.bel' (zAl w5 nq x nv)).put (q := mkQ x (nv)) (zAg H1.out (zAl w5 nq x nv)) (zAe H2.out (zAl w5 nq x nv)) own6 hg6
          have P7' := (P5.out.bel' (zAl w5 nq x nv)).put (x := v6) (zAe H2.out (zAl w5 nq x nv)) hg6 (b := BB) (by omega)
          obtain ⟨X6, c6, rfl, rd6⟩ := zAt own6
          have e6 := zAr (zAg H1.out (zAl w5 nq x nv)) hg6 (zAm (zAe H2.out (zAl w5 nq x nv)) (zAg H1.out (zAl w5 nq x nv)) (by decide))
          have g0 := zAb e6 0 rfl
          have gf := zAh e6
          simp only [zgc, zga, zgb] at g0
          have T7 := Lib.hid T7'
          have P7 := Lib.hid P7'
          clear T7' P7' rd6 own6 hi9 hz0 hz1 hz2 k0 kf hg6 e6 e0 e1 e2
          go_wp2
          go_roundw
          case rel => exact ⟨k + 1, out ++ [mkQ x (nv)], by omega, by go_num, by first | (simp; done) | (simp; omega), Lib.hid (by rw [HPU.out, push_diff HGL.out (fun h => hb h.2.1)]), HOKN, T7.out, P7.out⟩
          case measure => simp [intOf]; omega
        ·skip
         go_wp2_with fail
         go_quiet (fail)
         obtain ⟨i0, hi9, hz0, hz1, hz2⟩ := info_parts infoPt
         go_wp2_with (at_builtin; refine wpList_append_own _ rfl _ _ 29 rfl (LO) 177 i0 (.agg #[.int .i64 0, .int .i64 0, .int .i64 0, .int .i64 0]) 4 32 Tryz.underlying29 hi9 hz0 hz1 hz2 rfl (by decide) _ _ _ rfl (zAe (zAe H2m.out (zAd w5 _)) (zAa _ _)) ⟨w5.heap.size, 0, none⟩ 1 1 [.int .i64 x, .int .i64 (nv).A, .int .i64 (nv).B, .int .i64 (nv).C] rfl rfl ?cd1 ?cd2 ?cd3 ?cd4 ?cd5 ?_)
         try case cd1 => exact news9 (w := w5.drewN _) (cs := #[.int .i64 x, .int .i64 (nv).A, .int .i64 (nv).B, .int .i64 (nv).C]) rfl
         try case cd1 =>
          intro j y hy
          match j, hy with
          | 0, hy => (simp at hy; subst hy; simp [Addr.add])
          | 1, hy => (simp at hy; subst hy; simp [Addr.add])
          | 2, hy => (simp at hy; subst hy; simp [Addr.add])
          | 3, hy => (simp at hy; subst hy; simp [Addr.add])
         try case cd2 => simp [Value.oneCell']
         case cd3 => unfold maxLen; skip; omega
         case cd4 => skip; omega
         try case cd5 => first | omega | (simp <;> omega)
         intro v6 w6 own6 hg6 _
         rw [← HM.out] at own6 hg6
         have T7' := (T5.out.bel' (zAl w5 nq x nv)).put (q := mkQ x (nv)) (zAg H1.out (zAl w5 nq x nv)) (zAe H2.out (zAl w5 nq x nv)) own6 hg6
         have P7' := (P5.out.bel' (zAl w5 nq x nv)).put (x := v6) (zAe H2.out (zAl w5 nq x nv)) hg6 (b := BB) (by omega)
         obtain ⟨X6, c6, rfl, rd6⟩ := zAt own6
         have e6 := zAr (zAg H1.out (zAl w5 nq x nv)) hg6 (zAm (zAe H2.out (zAl w5 nq x nv)) (zAg H1.out (zAl w5 nq x nv)) (by decide))
         have g0 := zAb e6 0 rfl
         have gf := zAh e6
         simp only [zgc, zga, zgb] at g0
         have T7 := Lib.hid T7'
         have P7 := Lib.hid P7'
         clear T7' P7' rd6 own6 hi9 hz0 hz1 hz2 k0 kf hg6 e6 e0 e1 e2
         go_wp2
         go_roundw
         case rel => exact ⟨k + 1, out ++ [mkQ x (nv)], by omega, by go_num, by first | (simp; done) | (simp; omega), Lib.hid (by rw [HPU.out, push_diff HGL.out (fun h => ha h.1)]), HOKN, T7.out, P7.out⟩
         case measure => simp [intOf]; omega
     ·have HVA : Hid (valAt ps lo hi FF x = fv) := Lib.hid (by rw [valAt_out hin, ← HFV.out])
      have HOKN : Hid (okTo ps lo hi FB (TL.take (k + 1))) := Lib.hid (okTo_snoc HOK2.out HX.out (fun h1 h2 => absurd ⟨h1, h2⟩ hin))
      have T5 := Lib.hid (T2.out.bel' (zAa w2 (.cells #[.int .i64 fv.A, .int .i64 fv.B, .int .i64 fv.C] 73)))
      have P5 := Lib.hid (P2'.out.bel' (zAa w2 (.cells #[.int .i64 fv.A, .int .i64 fv.B, .int .i64 fv.C] 73)))
      have e0 : (w2.alloc (.cells #[.int .i64 fv.A, .int .i64 fv.B, .int .i64 fv.C] 73)).cell? ⟨w2.heap.size, 0, none⟩ = some (.int .i64 fv.A) := by simp [go_sem]
      have e1 : (w2.alloc (.cells #[.int .i64 fv.A, .int .i64 fv.B, .int .i64 fv.C] 73)).cell? ⟨w2.heap.size, 1, none⟩ = some (.int .i64 fv.B) := by simp [go_sem]
      have e2 : (w2.alloc (.cells #[.int .i64 fv.A, .int .i64 fv.B, .int .i64 fv.C] 73)).cell? ⟨w2.heap.size, 2, none⟩ = some (.int .i64 fv.C) := by simp [go_sem]
      have hbt : w2.heap.size < (w2.alloc (.cells #[.int .i64 fv.A, .int .i64 fv.B, .int .i64 fv.C] 73)).heap.size := by simp
      by_cases hin1 : lo ≤ x
      ·have hin2 : ¬ x < hi := fun h => hin ⟨hin1, h⟩
       clear hin
       go_upto_region 18 with fail
       clear T2 P2'
       generalize w2.alloc (.cells #[.int .i64 fv.A, .int .i64 fv.B, .int .i64 fv.C] 73) = w5 at *
       generalize w2.heap.size = bt at *
       obtain ⟨X, cx, h1, h2⟩ := T5.out.bx
       have k0 := zAb h1 0 rfl
       have kf := zAh h1
       have hlb := zAf h1
       simp only [zgc, zga, zgb] at k0
       have H1 := Lib.hid h1
       have H2 := Lib.hid h2
       clear h1 h2
       have HPU : Hid (chL (valAt ps lo hi FF) (TL.take (k + 1)) = push out x (fv)) := Lib.hid (by rw [take_snoc' HX.out, chL_snoc, ← HO.out, HVA.out])
       have hlt0 := hol
       cases hgl : out.getLast? with
       | none =>
        have hnil : out = [] := List.getLast?_eq_none_iff.1 hgl
        subst hnil
        clear hgl
        simp only [List.length_nil] at k0 hol
        go_wp2_with fail
        go_quiet (fail)
        obtain ⟨i0, hi9, hz0, hz1, hz2⟩ := info_parts infoPt
        go_wp2_with (at_builtin; refine wpList_append_own _ rfl _ _ 29 rfl (LO) 177 i0 (.agg #[.int .i64 0, .int .i64 0, .int .i64 0, .int .i64 0]) 4 32 Tryz.underlying29 hi9 hz0 hz1 hz2 rfl (by decide) _ _ _ rfl (zAe (zAe H2.out (zAd w5 _)) (zAa _ _)) ⟨w5.heap.size, 0, none⟩ 1 1 [.int .i64 x, .int .i64 (fv).A, .int .i64 (fv).B, .int .i64 (fv).C] rfl rfl ?ca1 ?ca2 ?ca3 ?ca4 ?ca5 ?_)
        try case ca1 => exact news9 (w := w5.drewN _) (cs := #[.int .i64 x, .int .i64 (fv).A, .int .i64 (fv).B, .int .i64 (fv).C]) rfl
        try case ca1 =>
         intro j y hy
         match j, hy with
         | 0, hy => (simp at hy; subst hy; simp [Addr.add])
         | 1, hy => (simp at hy; subst hy; simp [Addr.add])
         | 2, hy => (simp at hy; subst hy; simp [Addr.add])
         | 3, hy => (simp at hy; subst hy; simp [Addr.add])
        try case ca2 => simp [Value.oneCell']
        case ca3 => unfold maxLen; skip; omega
        case ca4 => skip; omega
        try case ca5 => first | omega | (simp <;> omega)
        intro v6 w6 own6 hg6 _
        have T7' := (T5.out.bel' (zAl w5 nq x fv)).put (q := mkQ x (fv)) (zAg H1.out (zAl w5 nq x fv)) (zAe H2.out (zAl w5 nq x fv)) own6 hg6
        have P7' := (P5.out.bel' (zAl w5 nq x fv)).put (x := v6) (zAe H2.out (zAl w5 nq x fv)) hg6 (b := BB) (by omega)
        obtain ⟨X6, c6, rfl, rd6⟩ := zAt own6
        have e6 := zAr (zAg H1.out (zAl w5 nq x fv)) hg6 (zAm (zAe H2.out (zAl w5 nq x fv)) (zAg H1.out (zAl w5 nq x fv)) (by decide))
        have g0 := zAb e6 0 rfl
        have gf := zAh e6
        simp only [zgc, zga, zgb] at g0
        have T7 := Lib.hid T7'
        have P7 := Lib.hid P7'
        clear T7' P7' rd6 own6 hi9 hz0 hz1 hz2 k0 kf hg6 e6 e0 e1 e2
        go_wp2
        go_roundw
        case rel => exact ⟨k + 1, ([] : List Q) ++ [mkQ x (fv)], by omega, by go_num, by first | (simp; done) | (simp; omega), Lib.hid (by rw [HPU.out, push_nil]), HOKN, T7.out, P7.out⟩
        case measure => simp [intOf]; omega
       | some q =>
        obtain ⟨m, hm⟩ : ∃ m, out.length = m + 1 := by
         cases out with
         | nil => simp at hgl
         | cons a r => exact ⟨r.length, rfl⟩
        have hql : out[m]? = some q := by
         rw [List.getLast?_eq_getElem?, hm] at hgl; simpa using hgl
        have H2m : Hid (w5.ownsRow LO 177 4 (.slice X (m + 1) cx) (m + 1) (flat out)) := Lib.hid (by have := H2.out; rwa [hm] at this)
        obtain ⟨g1, q', rfl, hq', d0, d1, d2, d3⟩ := Rd.q (zAv H2m.out) (k := m) (by omega)
        have hqq : q' = q := by rw [hql] at hq'; exact (Option.some.inj hq').symm
        subst hqq
        have hg1 := own_blk H2m.out g1 rfl
        rw [hm] at k0 hol
        have HM := Lib.hid hm
        have HGL := Lib.hid hgl
        clear hm hql hq' hgl d0
        have hm1 : (m : Int) < (m : Int) + 1 := by omega
        have hm2 : ¬ ((m : Int) + 1 = 0) := by omega
        have hm3 : ((m : Int) + 1 == 0) = false := by simp; omega
        have hm4 : IntKind.i64.wrap ((m : Int) + 1 - 1) = (m : Int) := by rw [IntWalk.i64_in _ (by omega)]; omega
        have hm5 : (0 : Int) ≤ (m : Int) := by omega
        by_cases ha : q'.a = (fv).A
        ·by_cases hb : q'.b = (fv).B
         ·by_cases hc : q'.c = (fv).C
          ·have HSM : Hid (push out x (fv) = out) := Lib.hid (push_same HGL.out ha hb hc)
           go_wp2_with fail
           go_quiet (fail)
           go_wp2
           go_roundw
           case rel => exact ⟨k + 1, out, by omega, by go_num, by have := HM.out; omega, Lib.hid (by rw [HPU.out, HSM.out]), HOKN, T5.out.bel' (zAd _ _), P5.out.bel' (zAd _ _)⟩
           case measure => simp [intOf]; omega
          ·skip
           go_wp2_with fail
           go_quiet (fail)
           obtain ⟨i0, hi9, hz0, hz1, hz2⟩ := info_parts infoPt
           go_wp2_with (at_builtin; refine wpList_append_own _ rfl _ _ 29 rfl (LO) 177 i0 (.agg #[.int .i64 0, .int .i64 0, .int .i64 0, .int .i64 0]) 4 32 Tryz.underlying29 hi9 hz0 hz1 hz2 rfl (by decide) _ _ _ rfl (zAe (zAe H2m.out (zAd w5 _)) (zAa _ _)) ⟨w5.heap.size, 0, none⟩ 1 1 [.int .i64 x, .int .i64 (fv).A, .int .i64 (fv).B, .int .i64 (fv).C] rfl rfl ?cb1 ?cb2 ?cb3 ?cb4 ?cb5 ?_)
           try case cb1 => exact news9 (w := w5.drewN _) (cs := #[.int .i64 x, .int .i64 (fv).A, .int .i64 (fv).B, .int .i64 (fv).C]) rfl
           try case cb1 =>
            intro j y hy
            match j, hy with
            | 0, hy => (simp at hy; subst hy; simp [Addr.add])
            | 1, hy => (simp at hy; subst hy; simp [Addr.add])
            | 2, hy => (simp at hy; subst hy; simp [Addr.add])
            | 3, hy => (simp at hy; subst hy; simp [Addr.add])
           try case cb2 => simp [Value.oneCell']
           case cb3 => unfold maxLen; skip; omega
           case cb4 => skip; omega
           try case cb5 => first | omega | (simp <;> omega)
           intro v6 w6 own6 hg6 _
           rw [← HM.out] at own6 hg6
           have T7' := (T5.out.bel' (zAl w5 nq x fv)).put (q := mkQ x (fv)) (zAg H1.out (zAl w5 nq x fv)) (zAe H2.out (zAl w5 nq x fv)) own6 hg6
           have P7' := (P5.out.bel' (zAl w5 nq x fv)).put (x := v6) (zAe H2.out (zAl w5 nq x fv)) hg6 (b := BB) (by omega)
           obtain ⟨X6, c6, rfl, rd6⟩ := zAt own6
           have e6 := zAr (zAg H1.out (zAl w5 nq x fv)) hg6 (zAm (zAe H2.out (zAl w5 nq x fv)) (zAg H1.out (zAl w5 nq x fv)) (by decide))
           have g0 := zAb e6 0 rfl
           have gf := zAh e6
           simp only [zgc, zga, zgb] at g0
           have T7 := Lib.hid T7'
           have P7 := Lib.hid P7'
           clear T7' P7' rd6 own6 hi9 hz0 hz1 hz2 k0 kf hg6 e6 e0 e1 e2
           go_wp2
           go_roundw
           case rel => exact ⟨k + 1, out ++ [mkQ x (fv)], by omega, by go_num, by first | (simp; done) | (simp; omega), Lib.hid (by rw [HPU.out, push_diff HGL.out (fun h => hc h.2.2)]), HOKN, T7.out, P7.out⟩
           case measure => simp [intOf]; omega
         ·skip
          go_wp2_with fail
          go_quiet (fail)
          obtain ⟨i0, hi9, hz0, hz1, hz2⟩ := info_parts infoPt
          go_wp2_with (at_builtin; refine wpList_append_own _ rfl _ _ 29 rfl (LO) 177 i0 (.agg #[.int .i64 0, .int .i64 0, .int .i64 0, .int .i64 0]) 4 32 Tryz.underlying29 hi9 hz0 hz1 hz2 rfl (by decide) _ _ _ rfl (zAe (zAe H2m.out (zAd w5 _)) (zAa _ _)) ⟨w5.heap.size, 0, none⟩ 1 1 [.int .i64 x, .int .i64 (fv).A, .int .i64 (fv).B, .int .i64 (fv).C] rfl rfl ?cc1 ?cc2 ?cc3 ?cc4 ?cc5 ?_)
          try case cc1 => exact news9 (w := w5.drewN _) (cs := #[.int .i64 x, .int .i64 (fv).A, .int .i64 (fv).B, .int .i64 (fv).C]) rfl
          try case cc1 =>
           intro j y hy
           match j, hy with
           | 0, hy => (simp at hy; subst hy; simp [Addr.add])
           | 1, hy => (simp at hy; subst hy; simp [Addr.add])
           | 2, hy => (simp at hy; subst hy; simp [Addr.add])
           | 3, hy => (simp at hy; subst hy; simp [Addr.add])
          try case cc2 => simp [Value.oneCell']
          case cc3 => unfold maxLen; skip; omega
          case cc4 => skip; omega
          try case cc5 => first | omega | (simp <;> omega)
          intro v6 w6 own6 hg6 _
          rw [← HM.out] at own6 hg6
          have T7' := (T5.out.bel' (zAl w5 nq x fv)).put (q := mkQ x (fv)) (zAg H1.out (zAl w5 nq x fv)) (zAe H2.out (zAl w5 nq x fv)) own6 hg6
          have P7' := (P5.out.bel' (zAl w5 nq x fv)).put (x := v6) (zAe H2.out (zAl w5 nq x fv)) hg6 (b := BB) (by omega)
          obtain ⟨X6, c6, rfl, rd6⟩ := zAt own6
          have e6 := zAr (zAg H1.out (zAl w5 nq x fv)) hg6 (zAm (zAe H2.out (zAl w5 nq x fv)) (zAg H1.out (zAl w5 nq x fv)) (by decide))
          have g0 := zAb e6 0 rfl
          have gf := zAh e6
          simp only [zgc, zga, zgb] at g0
          have T7 := Lib.hid T7'
          have P7 := Lib.hid P7'
          clear T7' P7' rd6 own6 hi9 hz0 hz1 hz2 k0 kf hg6 e6 e0 e1 e2
          go_wp2
          go_roundw
          case rel => exact ⟨k + 1, out ++ [mkQ x (fv)], by omega, by go_num, by first | (simp; done) | (simp; omega), Lib.hid (by rw [HPU.out, push_diff HGL.out (fun h => hb h.2.1)]), HOKN, T7.out, P7.out⟩
          case measure => simp [intOf]; omega
        ·skip
         go_wp2_with fail
         go_quiet (fail)
         obtain ⟨i0, hi9, hz0, hz1, hz2⟩ := info_parts infoPt
         go_wp2_with (at_builtin; refine wpList_append_own _ rfl _ _ 29 rfl (LO) 177 i0 (.agg #[.int .i64 0, .int .i64 0, .int .i64 0, .int .i64 0]) 4 32 Tryz.underlying29 hi9 hz0 hz1 hz2 rfl (by decide) _ _ _ rfl (zAe (zAe H2m.out (zAd w5 _)) (zAa _ _)) ⟨w5.heap.size, 0, none⟩ 1 1 [.int .i64 x, .int .i64 (fv).A, .int .i64 (fv).B, .int .i64 (fv).C] rfl rfl ?cd1 ?cd2 ?cd3 ?cd4 ?cd5 ?_)
         try case cd1 => exact news9 (w := w5.drewN _) (cs := #[.int .i64 x, .int .i64 (fv).A, .int .i64 (fv).B, .int .i64 (fv).C]) rfl
         try case cd1 =>
          intro j y hy
          match j, hy with
          | 0, hy => (simp at hy; subst hy; simp [Addr.add])
          | 1, hy => (simp at hy; subst hy; simp [Addr.add])
          | 2, hy => (simp at hy; subst hy; simp [Addr.add])
          | 3, hy => (simp at hy; subst hy; simp [Addr.add])
         try case cd2 => simp [Value.oneCell']
         case cd3 => unfold maxLen; skip; omega
         case cd4 => skip; omega
         try case cd5 => first | omega | (simp <;> omega)
         intro v6 w6 own6 hg6 _
         rw [← HM.out] at own6 hg6
         have T7' := (T5.out.bel' (zAl w5 nq x fv)).put (q := mkQ x (fv)) (zAg H1.out (zAl w5 nq x fv)) (zAe H2.out (zAl w5 nq x fv)) own6 hg6
         have P7' := (P5.out.bel' (zAl w5 nq x fv)).put (x := v6) (zAe H2.out (zAl w5 nq x fv)) hg6 (b := BB) (by omega)
         obtain ⟨X6, c6, rfl, rd6⟩ := zAt own6
         have e6 := zAr (zAg H1.out (zAl w5 nq x fv)) hg6 (zAm (zAe H2.out (zAl w5 nq x fv)) (zAg H1.out (zAl w5 nq x fv)) (by decide))
         have g0 := zAb e6 0 rfl
         have gf := zAh e6
         simp only [zgc, zga, zgb] at g0
         have T7 := Lib.hid T7'
         have P7 := Lib.hid P7'
         clear T7' P7' rd6 own6 hi9 hz0 hz1 hz2 k0 kf hg6 e6 e0 e1 e2
         go_wp2
         go_roundw
         case rel => exact ⟨k + 1, out ++ [mkQ x (fv)], by omega, by go_num, by first | (simp; done) | (simp; omega), Lib.hid (by rw [HPU.out, push_diff HGL.out (fun h => ha h.1)]), HOKN, T7.out, P7.out⟩
         case measure => simp [intOf]; omega
      ·clear hin
       go_upto_region 18 with fail
       clear T2 P2'
       generalize w2.alloc (.cells #[.int .i64 fv.A, .int .i64 fv.B, .int .i64 fv.C] 73) = w5 at *
       generalize w2.heap.size = bt at *
       obtain ⟨X, cx, h1, h2⟩ := T5.out.bx
       have k0 := zAb h1 0 rfl
       have kf := zAh h1
       have hlb := zAf h1
       simp only [zgc, zga, zgb] at k0
       have H1 := Lib.hid h1
       have H2 := Lib.hid h2
       clear h1 h2
       have HPU : Hid (chL (valAt ps lo hi FF) (TL.take (k + 1)) = push out x (fv)) := Lib.hid (by rw [take_snoc' HX.out, chL_snoc, ← HO.out, HVA.out])
       have hlt0 := hol
       cases hgl : out.getLast? with
       | none =>
        have hnil : out = [] := List.getLast?_eq_none_iff.1 hgl
        subst hnil
        clear hgl
        simp only [List.length_nil] at k0 hol
        go_wp2_with fail
        go_quiet (fail)
        obtain ⟨i0, hi9, hz0, hz1, hz2⟩ := info_parts infoPt
        go_wp2_with (at_builtin; refine wpList_append_own _ rfl _ _ 29 rfl (LO) 177 i0 (.agg #[.int .i64 0, .int .i64 0, .int .i64 0, .int .i64 0]) 4 32 Tryz.underlying29 hi9 hz0 hz1 hz2 rfl (by decide) _ _ _ rfl (zAe (zAe H2.out (zAd w5 _)) (zAa _ _)) ⟨w5.heap.size, 0, none⟩ 1 1 [.int .i64 x, .int .i64 (fv).A, .int .i64 (fv).B, .int .i64 (fv).C] rfl rfl ?ca1 ?ca2 ?ca3 ?ca4 ?ca5 ?_)
        try case ca1 => exact news9 (w := w5.drewN _) (cs := #[.int .i64 x, .int .i64 (fv).A, .int .i64 (fv).B, .int .i64 (fv).C]) rfl
        try case ca1 =>
         intro j y hy
         match j, hy with
         | 0, hy => (simp at hy; subst hy; simp [Addr.add])
         | 1, hy => (simp at hy; subst hy; simp [Addr.add])
         | 2, hy => (simp at hy; subst hy; simp [Addr.add])
         | 3, hy => (simp at hy; subst hy; simp [Addr.add])
        try case ca2 => simp [Value.oneCell']
        case ca3 => unfold maxLen; skip; omega
        case ca4 => skip; omega
        try case ca5 => first | omega | (simp <;> omega)
        intro v6 w6 own6 hg6 _
        have T7' := (T5.out.bel' (zAl w5 nq x fv)).put (q := mkQ x (fv)) (zAg H1.out (zAl w5 nq x fv)) (zAe H2.out (zAl w5 nq x fv)) own6 hg6
        have P7' := (P5.out.bel' (zAl w5 nq x fv)).put (x := v6) (zAe H2.out (zAl w5 nq x fv)) hg6 (b := BB) (by omega)
        obtain ⟨X6, c6, rfl, rd6⟩ := zAt own6
        have e6 := zAr (zAg H1.out (zAl w5 nq x fv)) hg6 (zAm (zAe H2.out (zAl w5 nq x fv)) (zAg H1.out (zAl w5 nq x fv)) (by decide))
        have g0 := zAb e6 0 rfl
        have gf := zAh e6
        simp only [zgc, zga, zgb] at g0
        have T7 := Lib.hid T7'
        have P7 := Lib.hid P7'
        clear T7' P7' rd6 own6 hi9 hz0 hz1 hz2 k0 kf hg6 e6 e0 e1 e2
        go_wp2
        go_roundw
        case rel => exact ⟨k + 1, ([] : List Q) ++ [mkQ x (fv)], by omega, by go_num, by first | (simp; done) | (simp; omega), Lib.hid (by rw [HPU.out, push_nil]), HOKN, T7.out, P7.out⟩
        case measure => simp [intOf]; omega
       | some q =>
        obtain ⟨m, hm⟩ : ∃ m, out.length = m + 1 := by
         cases out with
         | nil => simp at hgl
         | cons a r => exact ⟨r.length, rfl⟩
        have hql : out[m]? = some q := by
         rw [List.getLast?_eq_getElem?, hm] at hgl; simpa using hgl
        have H2m : Hid (w5.ownsRow LO 177 4 (.slice X (m + 1) cx) (m + 1) (flat out)) := Lib.hid (by have := H2.out; rwa [hm] at this)
        obtain ⟨g1, q', rfl, hq', d0, d1, d2, d3⟩ := Rd.q (zAv H2m.out) (k := m) (by omega)
        have hqq : q' = q := by rw [hql] at hq'; exact (Option.some.inj hq').symm
        subst hqq
        have hg1 := own_blk H2m.out g1 rfl
        rw [hm] at k0 hol
        have HM := Lib.hid hm
        have HGL := Lib.hid hgl
        clear hm hql hq' hgl d0
        have hm1 : (m : Int) < (m : Int) + 1 := by omega
        have hm2 : ¬ ((m : Int) + 1 = 0) := by omega
        have hm3 : ((m : Int) + 1 == 0) = false := by simp; omega
        have hm4 : IntKind.i64.wrap ((m : Int) + 1 - 1) = (m : Int) := by rw [IntWalk.i64_in _ (by omega)]; omega
        have hm5 : (0 : Int) ≤ (m : Int) := by omega
        by_cases ha : q'.a = (fv).A
        ·by_cases hb : q'.b = (fv).B
         ·by_cases hc : q'.c = (fv).C
          ·have HSM : Hid (push out x (fv) = out) := Lib.hid (push_same HGL.out ha hb hc)
           go_wp2_with fail
           go_quiet (fail)
           go_wp2
           go_roundw
           case rel => exact ⟨k + 1, out, by omega, by go_num, by have := HM.out; omega, Lib.hid (by rw [HPU.out, HSM.out]), HOKN, T5.out.bel' (zAd _ _), P5.out.bel' (zAd _ _)⟩
           case measure => simp [intOf]; omega
          ·skip
           go_wp2_with fail
           go_quiet (fail)
           obtain ⟨i0, hi9, hz0, hz1, hz2⟩ := info_parts infoPt
           go_wp2_with (at_builtin; refine wpList_append_own _ rfl _ _ 29 rfl (LO) 177 i0 (.agg #[.int .i64 0, .int .i64 0, .int .i64 0, .int .i64 0]) 4 32 Tryz.underlying29 hi9 hz0 hz1 hz2 rfl (by decide) _ _ _ rfl (zAe (zAe H2m.out (zAd w5 _)) (zAa _ _)) ⟨w5.heap.size, 0, none⟩ 1 1 [.int .i64 x, .int .i64 (fv).A, .int .i64 (fv).B, .int .i64 (fv).C] rfl rfl ?cb1 ?cb2 ?cb3 ?cb4 ?cb5 ?_)
           try case cb1 => exact news9 (w := w5.drewN _) (cs := #[.int .i64 x, .int .i64 (fv).A, .int .i64 (fv).B, .int .i64 (fv).C]) rfl
           try case cb1 =>
            intro j y hy
            match j, hy with
            | 0, hy => (simp at hy; subst hy; simp [Addr.add])
            | 1, hy => (simp at hy; subst hy; simp [Addr.add])
            | 2, hy => (simp at hy; subst hy; simp [Addr.add])
            | 3, hy => (simp at hy; subst hy; simp [Addr.add])
           try case cb2 => simp [Value.oneCell']
           case cb3 => unfold maxLen; skip; omega
           case cb4 => skip; omega
           try case cb5 => first | omega | (simp <;> omega)
           intro v6 w6 own6 hg6 _
           rw [← HM.out] at own6 hg6
           have T7' := (T5.out.bel' (zAl w5 nq x fv)).put (q := mkQ x (fv)) (zAg H1.out (zAl w5 nq x fv)) (zAe H2.out (zAl w5 nq x fv)) own6 hg6
           have P7' := (P5.out.bel' (zAl w5 nq x fv)).put (x := v6) (zAe H2.out (zAl w5 nq x fv)) hg6 (b := BB) (by omega)
           obtain ⟨X6, c6, rfl, rd6⟩ := zAt own6
           have e6 := zAr (zAg H1.out (zAl w5 nq x fv)) hg6 (zAm (zAe H2.out (zAl w5 nq x fv)) (zAg H1.out (zAl w5 nq x fv)) (by decide))
           have g0 := zAb e6 0 rfl
           have gf := zAh e6
           simp only [zgc, zga, zgb] at g0
           have T7 := Lib.hid T7'
           have P7 := Lib.hid P7'
           clear T7' P7' rd6 own6 hi9 hz0 hz1 hz2 k0 kf hg6 e6 e0 e1 e2
           go_wp2
           go_roundw
           case rel => exact ⟨k + 1, out ++ [mkQ x (fv)], by omega, by go_num, by first | (simp; done) | (simp; omega), Lib.hid (by rw [HPU.out, push_diff HGL.out (fun h => hc h.2.2)]), HOKN, T7.out, P7.out⟩
           case measure => simp [intOf]; omega
         ·skip
          go_wp2_with fail
          go_quiet (fail)
          obtain ⟨i0, hi9, hz0, hz1, hz2⟩ := info_parts infoPt
          go_wp2_with (at_builtin; refine wpList_append_own _ rfl _ _ 29 rfl (LO) 177 i0 (.agg #[.int .i64 0, .int .i64 0, .int .i64 0, .int .i64 0]) 4 32 Tryz.underlying29 hi9 hz0 hz1 hz2 rfl (by decide) _ _ _ rfl (zAe (zAe H2m.out (zAd w5 _)) (zAa _ _)) ⟨w5.heap.size, 0, none⟩ 1 1 [.int .i64 x, .int .i64 (fv).A, .int .i64 (fv).B, .int .i64 (fv).C] rfl rfl ?cc1 ?cc2 ?cc3 ?cc4 ?cc5 ?_)
          try case cc1 => exact news9 (w := w5.drewN _) (cs := #[.int .i64 x, .int .i64 (fv).A, .int .i64 (fv).B, .int .i64 (fv).C]) rfl
          try case cc1 =>
           intro j y hy
           match j, hy with
           | 0, hy => (simp at hy; subst hy; simp [Addr.add])
           | 1, hy => (simp at hy; subst hy; simp [Addr.add])
           | 2, hy => (simp at hy; subst hy; simp [Addr.add])
           | 3, hy => (simp at hy; subst hy; simp [Addr.add])
          try case cc2 => simp [Value.oneCell']
          case cc3 => unfold maxLen; skip; omega
          case cc4 => skip; omega
          try case cc5 => first | omega | (simp <;> omega)
          intro v6 w6 own6 hg6 _
          rw [← HM.out] at own6 hg6
          have T7' := (T5.out.bel' (zAl w5 nq x fv)).put (q := mkQ x (fv)) (zAg H1.out (zAl w5 nq x fv)) (zAe H2.out (zAl w5 nq x fv)) own6 hg6
          have P7' := (P5.out.bel' (zAl w5 nq x fv)).put (x := v6) (zAe H2.out (zAl w5 nq x fv)) hg6 (b := BB) (by omega)
          obtain ⟨X6, c6, rfl, rd6⟩ := zAt own6
          have e6 := zAr (zAg H1.out (zAl w5 nq x fv)) hg6 (zAm (zAe H2.out (zAl w5 nq x fv)) (zAg H1.out (zAl w5 nq x fv)) (by decide))
          have g0 := zAb e6 0 rfl
          have gf := zAh e6
          simp only [zgc, zga, zgb] at g0
          have T7 := Lib.hid T7'
          have P7 := Lib.hid P7'
          clear T7' P7' rd6 own6 hi9 hz0 hz1 hz2 k0 kf hg6 e6 e0 e1 e2
          go_wp2
          go_roundw
          case rel => exact ⟨k + 1, out ++ [mkQ x (fv)], by omega, by go_num, by first | (simp; done) | (simp; omega), Lib.hid (by rw [HPU.out, push_diff HGL.out (fun h => hb h.2.1)]), HOKN, T7.out, P7.out⟩
          case measure => simp [intOf]; omega
        ·skip
         go_wp2_with fail
         go_quiet (fail)
         obtain ⟨i0, hi9, hz0, hz1, hz2⟩ := info_parts infoPt
         go_wp2_with (at_builtin; refine wpList_append_own _ rfl _ _ 29 rfl (LO) 177 i0 (.agg #[.int .i64 0, .int .i64 0, .int .i64 0, .int .i64 0]) 4 32 Tryz.underlying29 hi9 hz0 hz1 hz2 rfl (by decide) _ _ _ rfl (zAe (zAe H2m.out (zAd w5 _)) (zAa _ _)) ⟨w5.heap.size, 0, none⟩ 1 1 [.int .i64 x, .int .i64 (fv).A, .int .i64 (fv).B, .int .i64 (fv).C] rfl rfl ?cd1 ?cd2 ?cd3 ?cd4 ?cd5 ?_)
         try case cd1 => exact news9 (w := w5.drewN _) (cs := #[.int .i64 x, .int .i64 (fv).A, .int .i64 (fv).B, .int .i64 (fv).C]) rfl
         try case cd1 =>
          intro j y hy
          match j, hy with
          | 0, hy => (simp at hy; subst hy; simp [Addr.add])
          | 1, hy => (simp at hy; subst hy; simp [Addr.add])
          | 2, hy => (simp at hy; subst hy; simp [Addr.add])
          | 3, hy => (simp at hy; subst hy; simp [Addr.add])
         try case cd2 => simp [Value.oneCell']
         case cd3 => unfold maxLen; skip; omega
         case cd4 => skip; omega
         try case cd5 => first | omega | (simp <;> omega)
         intro v6 w6 own6 hg6 _
         rw [← HM.out] at own6 hg6
         have T7' := (T5.out.bel' (zAl w5 nq x fv)).put (q := mkQ x (fv)) (zAg H1.out (zAl w5 nq x fv)) (zAe H2.out (zAl w5 nq x fv)) own6 hg6
         have P7' := (P5.out.bel' (zAl w5 nq x fv)).put (x := v6) (zAe H2.out (zAl w5 nq x fv)) hg6 (b := BB) (by omega)
         obtain ⟨X6, c6, rfl, rd6⟩ := zAt own6
         have e6 := zAr (zAg H1.out (zAl w5 nq x fv)) hg6 (zAm (zAe H2.out (zAl w5 nq x fv)) (zAg H1.out (zAl w5 nq x fv)) (by decide))
         have g0 := zAb e6 0 rfl
         have gf := zAh e6
         simp only [zgc, zga, zgb] at g0
         have T7 := Lib.hid T7'
         have P7 := Lib.hid P7'
         clear T7' P7' rd6 own6 hi9 hz0 hz1 hz2 k0 kf hg6 e6 e0 e1 e2
         go_wp2
         go_roundw
         case rel => exact ⟨k + 1, out ++ [mkQ x (fv)], by omega, by go_num, by first | (simp; done) | (simp; omega), Lib.hid (by rw [HPU.out, push_diff HGL.out (fun h => ha h.1)]), HOKN, T7.out, P7.out⟩
         case measure => simp [intOf]; omega
    ·have hkT : k = TL.length := by omega
     have hlt' : ¬ (k : Int) < TL.length := by omega
     have HCB : Hid (chgB ps lo hi FB = true) := Lib.hid (okTo_all (by
      have := HOK2.out
      rwa [hkT, List.take_length, HTL.out] at this))
     have HCV : Hid (out = chgV ps lo hi FF) := Lib.hid (by
      have := HO.out
      rw [hkT, List.take_length, HTL.out] at this
      exact this)
     clear hkT
     obtain ⟨X, cx, h1, h2⟩ := T.out.bx
     have k0 := zAb h1 0 rfl
     have kf := zAh h1
     simp only [zgc, zga, zgb] at k0
     have H2 := Lib.hid h2
     clear h1 h2
     by_cases h200 : out.length ≤ 200
     ·have h201 : ¬ (200 : Int) < out.length := by omega
      have HBF : Hid (cgB ps lo hi FF FB = true) := Lib.hid (by unfold cgB; rw [← HCV.out, HCB.out, decide_eq_true h200]; rfl)
      clear h200
      have r0 := zAb T.out.res 0 rfl
      have rf := zAh T.out.res
      simp only [zgc, zga, zgb] at r0
      go_wp2
      (try go_light)
      refine bodyPost_ret (v := .tuple #[.agg #[.slice X out.length cx], .bool true]) (by simp [results, Tryz.results179, go_sem, *]) rfl ?_
      refine ⟨_, by rw [HBF.out], ?_, ?_⟩
      ·unfold cgV; rw [HBF.out, if_pos rfl, ← HCV.out]
       exact zAn (zAo H2.out (zAm H2.out T.out.res (by decide)) _) T.out.hb.2.2.2
      ·exact T.out.bel.setCell (by simp <;> omega) _
     ·have h201 : (200 : Int) < out.length := by omega
      have HBF : Hid (cgB ps lo hi FF FB = false) := Lib.hid (by unfold cgB; rw [← HCV.out, decide_eq_false h200, Bool.and_false])
      clear h200
      have r0 := zAb T.out.res 0 rfl
      have rf := zAh T.out.res
      simp only [zgc, zga, zgb] at r0
      go_wp2
      (try go_light)
      refine bodyPost_ret (v := .tuple #[.agg #[.slice none 0 0], .bool false]) (by simp [results, Tryz.results179, go_sem, *]) rfl ?_
      refine ⟨_, by rw [HBF.out], ?_, ?_⟩
      ·unfold cgV; rw [HBF.out]; exact own_nil _ _ _ _
      ·exact T.out.bel.setCell (by simp <;> omega) _
end Go.Proofs.YtnphjhbfpoekpaaGreat
namespace Go.Proofs.YtnphjhbfpoekpaaGreat
set_option linter.unusedSimpArgs false
set_option linter.unusedVariables false
set_option linter.unnecessarySimpa false
open Go.RowKit Go.Shelf
theorem chg_vbad {ps : List Q} {lo hi : Int} {fb : V → Bool} (h : ∀ y, fb y = false) (hs : spanB lo hi = true) : chgB ps lo hi fb = false := by
 cases h1 : chgB ps lo hi fb with
 | false => rfl
 | true =>
  have h2 : lo < hi := by
   unfold spanB at hs
   simp only [Bool.and_eq_true, decide_eq_true_eq] at hs
   exact hs.2
  have := chgB_at h1 (timesL_mem.2 (Or.inr (Or.inl rfl))) (Int.le_refl _) h2
  rw [h] at this; cases this
theorem tk_vbad {ps : List Q} {lo hi : Int} {v : V} (hv : v.ok = false) (hs : spanB lo hi = true) : takeB ps lo hi v = false ∧ tkV ps lo hi v = [] := by
 have e : takeB ps lo hi v = false := by
  have : chgB ps lo hi (fun x => subB x v) = false := chg_vbad (fun y => by
   cases h : subB y v with
   | false => rfl
   | true => have := (sub_ok h).2.2; rw [hv] at this; cases this) hs
  unfold takeB; rw [this]; simp
 exact ⟨e, by unfold tkV; rw [e]; rfl⟩
set_option maxHeartbeats 2000000 in
theorem take1_any (y v : V) (bv : Nat) (w : World) (hl : bv < w.heap.size) (h0 : w.cell? ⟨bv, 0, none⟩ = some (.int .i64 v.A)) (h1 : w.cell? ⟨bv, 1, none⟩ = some (.int .i64 v.B)) (h2 : w.cell? ⟨bv, 2, none⟩ = some (.int .i64 v.C)) :
  Calls Tryz.prog 180 #[.agg #[.int .i64 y.A, .int .i64 y.B, .int .i64 y.C], .pointer (some ⟨bv, 0, none⟩)] w fun e w' => e = .returned (.tuple #[.agg #[.int .i64 (subV y v).A, .int .i64 (subV y v).B, .int .i64 (subV y v).C], .bool (subB y v)]) ∧ Below w.heap.size w w' := by
 go_enter Tryz.func180, Tryz.ntmps180
 go_wp2_with fail
 refine (sub_raw y v _).mono ?_
 rintro e w1 ⟨rfl, hb1⟩
 have hs1 := hb1.size
 (try simp at hs1)
 have hy10 : w.heap.size < w1.heap.size := by omega
 have hk10 := fun o => hb1.cell (p := ⟨w.heap.size, o, none⟩) zOm
 have hg10 := fun o => hb1.frozen (p := ⟨w.heap.size, o, none⟩) zOm
 have hy11 : w.heap.size + 1 < w1.heap.size := by omega
 have hk11 := fun o => hb1.cell (p := ⟨w.heap.size + 1, o, none⟩) zOm
 have hg11 := fun o => hb1.frozen (p := ⟨w.heap.size + 1, o, none⟩) zOm
 go_wp2
 (try go_light)
 refine bodyPost_ret (v := .tuple #[.agg #[.int .i64 (subV y v).A, .int .i64 (subV y v).B, .int .i64 (subV y v).C], .bool (subB y v)]) (by simp [results, Tryz.results180, go_sem, *]) rfl ?_
 exact ⟨rfl, zBe⟩
set_option maxHeartbeats 4000000 in
theorem take_any (A : Option Addr) (n c : Nat) (ps : List Q) (lo hi : Int) (v : V) (w : World) (hn : n ≤ 1048576) (hr : Rd w A n 4 (flat ps)) (hl : ∀ g, A = some ⟨g, 0, none⟩ → g < w.heap.size) :
  Calls Tryz.prog 105 #[.agg #[.slice A n c], .int .i64 lo, .int .i64 hi, .agg #[.int .i64 v.A, .int .i64 v.B, .int .i64 v.C]] w fun e w' => ∃ u, e = .returned (.tuple #[.agg #[u], .bool (takeB ps lo hi v)]) ∧ w'.ownsRow w.heap.size 177 4 u (tkV ps lo hi v).length (flat (tkV ps lo hi v)) ∧ Below w.heap.size w w' := by
 cases hok : zAx ps
 ·have HF := Lib.hid (tk_no (lo := lo) (hi := hi) (v := v) (show minB ps lo hi = false by unfold minB; rw [hok]; rfl))
  have HK := Lib.hid hok
  clear hok
  have hpl : ps.length = n := by have := hr.1; rw [flat_len] at this; omega
  have hm : n ≤ 9223372036854775807 := by omega
  have HN := Lib.hid hn
  have HR := Lib.hid hr
  have HL := Lib.hid hl
  have HP := Lib.hid hpl
  clear hn hr hl hpl
  go_enter Tryz.func105, Tryz.ntmps105
  go_wp2_with fail
  refine (profOk_any A n c ps _ HN.out (HR.out.below HL.out zBe) (zAi HL.out zBe)).mono ?_
  rintro e w1 ⟨rfl, hb1⟩
  have hs1 := hb1.size
  (try simp at hs1)
  have hy10 : w.heap.size < w1.heap.size := by omega
  have hk10 := fun o => hb1.cell (p := ⟨w.heap.size, o, none⟩) zOm
  have hg10 := fun o => hb1.frozen (p := ⟨w.heap.size, o, none⟩) zOm
  have hy11 : w.heap.size + 1 < w1.heap.size := by omega
  have hk11 := fun o => hb1.cell (p := ⟨w.heap.size + 1, o, none⟩) zOm
  have hg11 := fun o => hb1.frozen (p := ⟨w.heap.size + 1, o, none⟩) zOm
  have hy12 : w.heap.size + 1 + 1 < w1.heap.size := by omega
  have hk12 := fun o => hb1.cell (p := ⟨w.heap.size + 1 + 1, o, none⟩) zOm
  have hg12 := fun o => hb1.frozen (p := ⟨w.heap.size + 1 + 1, o, none⟩) zOm
  rw [HK.out]
  go_wp2
  (try go_light)
  refine bodyPost_ret (v := .tuple #[.agg #[.slice none 0 0], .bool false]) (by simp [results, Tryz.results105, go_sem, *]) rfl ?_
  refine ⟨_, by rw [HF.out.1], ?_, ?_⟩
  ·rw [HF.out.2]; exact own_nil _ _ _ _
  ·repeat (first | exact Below.refl _ _ | assumption | (refine zAc ?_ (zAd _ _)) | exact zAc (by assumption) (by assumption) | (refine zAc ?_ (zAa _ _)) | (refine zAc ?_ (by assumption)) | (refine Below.setCell ?_ (by simp <;> omega) _) | refine Below.drew ?_)
 ·have HK := Lib.hid hok
  clear hok
  cases hsp : spanB lo hi
  ·have HF := Lib.hid (tk_no (ps := ps) (v := v) (show minB ps lo hi = false by unfold minB; rw [hsp, Bool.and_false]))
   have HS := Lib.hid hsp
   clear hsp
   have hpl : ps.length = n := by have := hr.1; rw [flat_len] at this; omega
   have hm : n ≤ 9223372036854775807 := by omega
   have HN := Lib.hid hn
   have HR := Lib.hid hr
   have HL := Lib.hid hl
   have HP := Lib.hid hpl
   clear hn hr hl hpl
   go_enter Tryz.func105, Tryz.ntmps105
   go_wp2_with fail
   refine (profOk_any A n c ps _ HN.out (HR.out.below HL.out zBe) (zAi HL.out zBe)).mono ?_
   rintro e w1 ⟨rfl, hb1⟩
   have hs1 := hb1.size
   (try simp at hs1)
   have hy10 : w.heap.size < w1.heap.size := by omega
   have hk10 := fun o => hb1.cell (p := ⟨w.heap.size, o, none⟩) zOm
   have hg10 := fun o => hb1.frozen (p := ⟨w.heap.size, o, none⟩) zOm
   have hy11 : w.heap.size + 1 < w1.heap.size := by omega
   have hk11 := fun o => hb1.cell (p := ⟨w.heap.size + 1, o, none⟩) zOm
   have hg11 := fun o => hb1.frozen (p := ⟨w.heap.size + 1, o, none⟩) zOm
   have hy12 : w.heap.size + 1 + 1 < w1.heap.size := by omega
   have hk12 := fun o => hb1.cell (p := ⟨w.heap.size + 1 + 1, o, none⟩) zOm
   have hg12 := fun o => hb1.frozen (p := ⟨w.heap.size + 1 + 1, o, none⟩) zOm
   rw [HK.out]
   go_wp2_with fail
   refine (isSpan_any lo hi _).mono ?_
   rintro e w3 ⟨rfl, rfl⟩
   rw [HS.out]
   go_wp2
   (try go_light)
   refine bodyPost_ret (v := .tuple #[.agg #[.slice none 0 0], .bool false]) (by simp [results, Tryz.results105, go_sem, *]) rfl ?_
   refine ⟨_, by rw [HF.out.1], ?_, ?_⟩
   ·rw [HF.out.2]; exact own_nil _ _ _ _
   ·repeat (first | exact Below.refl _ _ | assumption | (refine zAc ?_ (zAd _ _)) | exact zAc (by assumption) (by assumption) | (refine zAc ?_ (zAa _ _)) | (refine zAc ?_ (by assumption)) | (refine Below.setCell ?_ (by simp <;> omega) _) | refine Below.drew ?_)
  ·cases hv : v.ok
   ·have HF := Lib.hid (tk_vbad (ps := ps) hv hsp)
    have HS := Lib.hid hsp
    have HV : Hid (vecOkB v.A v.B v.C = false) := Lib.hid hv
    clear hsp hv
    have hpl : ps.length = n := by have := hr.1; rw [flat_len] at this; omega
    have hm : n ≤ 9223372036854775807 := by omega
    have HN := Lib.hid hn
    have HR := Lib.hid hr
    have HL := Lib.hid hl
    have HP := Lib.hid hpl
    clear hn hr hl hpl
    go_enter Tryz.func105, Tryz.ntmps105
    go_wp2_with fail
    refine (profOk_any A n c ps _ HN.out (HR.out.below HL.out zBe) (zAi HL.out zBe)).mono ?_
    rintro e w1 ⟨rfl, hb1⟩
    have hs1 := hb1.size
    (try simp at hs1)
    have hy10 : w.heap.size < w1.heap.size := by omega
    have hk10 := fun o => hb1.cell (p := ⟨w.heap.size, o, none⟩) zOm
    have hg10 := fun o => hb1.frozen (p := ⟨w.heap.size, o, none⟩) zOm
    have hy11 : w.heap.size + 1 < w1.heap.size := by omega
    have hk11 := fun o => hb1.cell (p := ⟨w.heap.size + 1, o, none⟩) zOm
    have hg11 := fun o => hb1.frozen (p := ⟨w.heap.size + 1, o, none⟩) zOm
    have hy12 : w.heap.size + 1 + 1 < w1.heap.size := by omega
    have hk12 := fun o => hb1.cell (p := ⟨w.heap.size + 1 + 1, o, none⟩) zOm
    have hg12 := fun o => hb1.frozen (p := ⟨w.heap.size + 1 + 1, o, none⟩) zOm
    rw [HK.out]
    go_wp2_with fail
    refine (isSpan_any lo hi _).mono ?_
    rintro e w3 ⟨rfl, rfl⟩
    rw [HS.out]
    go_wp2_with fail
    refine (vecOk_raw v.A v.B v.C _).mono ?_
    rintro e w2 ⟨rfl, hb2⟩
    have hs2 := hb2.size
    (try simp at hs2)
    have hy20 : w.heap.size < w2.heap.size := by omega
    have hk20 := fun o => hb2.cell (p := ⟨w.heap.size, o, none⟩) zOm
    have hg20 := fun o => hb2.frozen (p := ⟨w.heap.size, o, none⟩) zOm
    have hy21 : w.heap.size + 1 < w2.heap.size := by omega
    have hk21 := fun o => hb2.cell (p := ⟨w.heap.size + 1, o, none⟩) zOm
    have hg21 := fun o => hb2.frozen (p := ⟨w.heap.size + 1, o, none⟩) zOm
    have hy22 : w.heap.size + 1 + 1 < w2.heap.size := by omega
    have hk22 := fun o => hb2.cell (p := ⟨w.heap.size + 1 + 1, o, none⟩) zOm
    have hg22 := fun o => hb2.frozen (p := ⟨w.heap.size + 1 + 1, o, none⟩) zOm
    rw [HV.out]
    go_wp2
    (try go_light)
    refine bodyPost_ret (v := .tuple #[.agg #[.slice none 0 0], .bool false]) (by simp [results, Tryz.results105, go_sem, *]) rfl ?_
    refine ⟨_, by rw [HF.out.1], ?_, ?_⟩
    ·rw [HF.out.2]; exact own_nil _ _ _ _
    ·repeat (first | exact Below.refl _ _ | assumption | (refine zAc ?_ (zAd _ _)) | exact zAc (by assumption) (by assumption) | (refine zAc ?_ (zAa _ _)) | (refine zAc ?_ (by assumption)) | (refine Below.setCell ?_ (by simp <;> omega) _) | refine Below.drew ?_)
   ·have HE := Lib.hid (tk_eq (v := v) (show minB ps lo hi = true by unfold minB; rw [HK.out, hsp]; rfl))
    have HS := Lib.hid hsp
    have HV : Hid (vecOkB v.A v.B v.C = true) := Lib.hid hv
    clear hsp hv
    have hpl : ps.length = n := by have := hr.1; rw [flat_len] at this; omega
    have hm : n ≤ 9223372036854775807 := by omega
    have HN := Lib.hid hn
    have HR := Lib.hid hr
    have HL := Lib.hid hl
    have HP := Lib.hid hpl
    clear hn hr hl hpl
    have HEG : Hid (∀ args w, (callFunc 180 args).run Tryz.prog w = .ok (.enter 180 args) w) := Lib.hid (enters_of Tryz.func180 (by kernel_rfl) rfl)
    go_enter Tryz.func105, Tryz.ntmps105
    go_wp2_with fail
    refine (profOk_any A n c ps _ HN.out (HR.out.below HL.out zBe) (zAi HL.out zBe)).mono ?_
    rintro e w1 ⟨rfl, hb1⟩
    have hs1 := hb1.size
    (try simp at hs1)
    have hy10 : w.heap.size < w1.heap.size := by omega
    have hk10 := fun o => hb1.cell (p := ⟨w.heap.size, o, none⟩) zOm
    have hg10 := fun o => hb1.frozen (p := ⟨w.heap.size, o, none⟩) zOm
    have hy11 : w.heap.size + 1 < w1.heap.size := by omega
    have hk11 := fun o => hb1.cell (p := ⟨w.heap.size + 1, o, none⟩) zOm
    have hg11 := fun o => hb1.frozen (p := ⟨w.heap.size + 1, o, none⟩) zOm
    have hy12 : w.heap.size + 1 + 1 < w1.heap.size := by omega
    have hk12 := fun o => hb1.cell (p := ⟨w.heap.size + 1 + 1, o, none⟩) zOm
    have hg12 := fun o => hb1.frozen (p := ⟨w.heap.size + 1 + 1, o, none⟩) zOm
    rw [HK.out]
    go_wp2_with fail
    refine (isSpan_any lo hi _).mono ?_
    rintro e w3 ⟨rfl, rfl⟩
    rw [HS.out]
    go_wp2_with fail
    refine (vecOk_raw v.A v.B v.C _).mono ?_
    rintro e w2 ⟨rfl, hb2⟩
    have hs2 := hb2.size
    (try simp at hs2)
    have hy20 : w.heap.size < w2.heap.size := by omega
    have hk20 := fun o => hb2.cell (p := ⟨w.heap.size, o, none⟩) zOm
    have hg20 := fun o => hb2.frozen (p := ⟨w.heap.size, o, none⟩) zOm
    have hy21 : w.heap.size + 1 < w2.heap.size := by omega
    have hk21 := fun o => hb2.cell (p := ⟨w.heap.size + 1, o, none⟩) zOm
    have hg21 := fun o => hb2.frozen (p := ⟨w.heap.size + 1, o, none⟩) zOm
    have hy22 : w.heap.size + 1 + 1 < w2.heap.size := by omega
    have hk22 := fun o => hb2.cell (p := ⟨w.heap.size + 1 + 1, o, none⟩) zOm
    have hg22 := fun o => hb2.frozen (p := ⟨w.heap.size + 1 + 1, o, none⟩) zOm
    rw [HV.out]
    have hw2 : w.heap.size + 1 < w2.heap.size := by omega
    have x0 : w2.cell? ⟨w.heap.size + 1, 0, none⟩ = some (.int .i64 v.A) := by simp [go_sem, *]
    have x1 : w2.cell? ⟨w.heap.size + 1, 1, none⟩ = some (.int .i64 v.B) := by simp [go_sem, *]
    have x2 : w2.cell? ⟨w.heap.size + 1, 2, none⟩ = some (.int .i64 v.C) := by simp [go_sem, *]
    go_wp2_with fail
    refine (changed_any A n c ps lo hi (fun y => subV y v) (fun y => subB y v) 180 #[.pointer (some ⟨w.heap.size + 1, 0, none⟩)] _ HN.out (HR.out.below HL.out zBe) (zAi HL.out zBe) HK.out HEG.out (fun y W hW => take1_any y v (w.heap.size + 1) W (Nat.lt_of_lt_of_le hw2 hW.size) ((hW.cell (p := ⟨w.heap.size + 1, 0, none⟩) hw2).trans x0) ((hW.cell (p := ⟨w.heap.size + 1, 1, none⟩) hw2).trans x1) ((hW.cell (p := ⟨w.heap.size + 1, 2, none⟩) hw2).trans x2))).mono ?_
    rintro e w4 ⟨u, rfl, own4, hb4⟩
    have hs4 := hb4.size
    (try simp at hs4)
    have hy40 : w.heap.size < w4.heap.size := by omega
    have hk40 := fun o => hb4.cell (p := ⟨w.heap.size, o, none⟩) zOm
    have hg40 := fun o => hb4.frozen (p := ⟨w.heap.size, o, none⟩) zOm
    have hy41 : w.heap.size + 1 < w4.heap.size := by omega
    have hk41 := fun o => hb4.cell (p := ⟨w.heap.size + 1, o, none⟩) zOm
    have hg41 := fun o => hb4.frozen (p := ⟨w.heap.size + 1, o, none⟩) zOm
    have hy42 : w.heap.size + 1 + 1 < w4.heap.size := by omega
    have hk42 := fun o => hb4.cell (p := ⟨w.heap.size + 1 + 1, o, none⟩) zOm
    have hg42 := fun o => hb4.frozen (p := ⟨w.heap.size + 1 + 1, o, none⟩) zOm
    rw [HE.out.1, HE.out.2] at *
    obtain ⟨U, cu, rfl, ru⟩ := zAt own4
    clear ru
    have OW := Lib.hid own4
    clear own4
    have NE : Hid (∀ k, (Value.slice U (tkV ps lo hi v).length cu).ownBlock = some k → k ≠ w.heap.size + 1 + 1) := Lib.hid (fun k hk => by have := own_ge OW.out k hk; (try simp at this); omega)
    go_wp2
    (try go_light)
    refine bodyPost_ret (v := .tuple #[.agg #[.slice U (tkV ps lo hi v).length cu], .bool (takeB ps lo hi v)]) (by simp [results, Tryz.results105, go_sem, *]) rfl ?_
    refine ⟨_, rfl, ?_, ?_⟩
    ·have h9 := zAo (a := ⟨w.heap.size + 1 + 1, 0, none⟩) OW.out NE.out (.slice U (tkV ps lo hi v).length cu)
     exact zAn h9 (by have := hs1; have := hs2; simp <;> omega)
    ·repeat (first | exact Below.refl _ _ | assumption | (refine zAc ?_ (zAd _ _)) | exact zAc (by assumption) (by assumption) | (refine zAc ?_ (zAa _ _)) | (refine zAc ?_ (by assumption)) | (refine Below.setCell ?_ (by simp <;> omega) _) | refine Below.drew ?_)
end Go.Proofs.YtnphjhbfpoekpaaGreat
