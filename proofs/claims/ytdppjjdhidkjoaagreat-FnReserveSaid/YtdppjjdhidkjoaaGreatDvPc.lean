/-
  Drawn nodes of a topology.
-/
import Derived.Test.YtdppjjdhidkjoaaGreatA24Pc
import Derived.Deep.RegionHeld3
namespace Go.Proofs.YtdppjjdhidkjoaaGreat
set_option linter.unusedSimpArgs false
set_option linter.unusedVariables false
set_option linter.unnecessarySimpa false
open Go.RowKit
set_option maxHeartbeats 1000000 in
theorem cur_belowN (g : Nat) (m : Nat) (w : World) (h : Cur w g) (h1 : m ≤ 1000000000) :
    Calls Tryz.prog 79 #[.pointer (some ⟨g, 0, none⟩), .int .i64 m] w fun e w' => ∃ x : Int, e = .returned (.int .i64 x) ∧ 0 ≤ x ∧ x ≤ m ∧ Cur w' g ∧ Fr (· = g) w w' := by
  by_cases hm : m = 0
  · subst hm
    go_enter Tryz.func79, Tryz.ntmps79
    go_wp2
    go_ret
    exact ⟨0, rfl, Int.le_refl _, Int.le_refl _, h, Fr.refl _ _⟩
  · refine (cur_below g (m : Int) w h (by omega) (by omega)).mono ?_
    rintro e w1 ⟨x, rfl, a, b, cu, fr⟩
    exact ⟨x, rfl, a, by omega, cu, fr⟩
/-- What the drawing of nodes keeps. -/
structure DS (w wr : World) (g : Nat) (X : Value) (xs : List Int) (A B : Option Addr) (n c m d : Nat) : Prop where
  own : wr.ownsRow w.heap.size 3 1 X xs.length (ints xs)
  bx : wr.heap[w.heap.size]? = some (.cells #[.slice A n c, .slice B m d] 26 (0, 0))
  cur : Cur wr g
  fr : Fr (· = g) w wr
  hg : g < w.heap.size
theorem DS.bel {w wr w' : World} {g : Nat} {X : Value} {xs : List Int} {A B : Option Addr} {n c m d : Nat} (h : DS w wr g X xs A B n c m d) (hb : Below wr.heap.size wr w') : DS w w' g X xs A B n c m d :=
  ⟨own_bel h.own hb, bx_below h.bx hb, h.cur.below hb, h.fr.of_bel hb, h.hg⟩
theorem DS.cs {w wr w' : World} {g : Nat} {X : Value} {xs : List Int} {A B : Option Addr} {n c m d : Nat} (h : DS w wr g X xs A B n c m d) (hf : Fr (· = g) wr w') (hc : Cur w' g) : DS w w' g X xs A B n c m d := by
  have hh := h.hg
  exact ⟨own_fr h.own hf (fun k hk e => by have := own_ge h.own k hk; omega), bx_fr h.bx hf (by omega), hc, h.fr.trans hf, hh⟩
theorem DS.put {w wr w1 : World} {g : Nat} {X v : Value} {xs : List Int} {A B : Option Addr} {n c m d : Nat} {x : Int} (h : DS w wr g X xs A B n c m d) (hv : w1.ownsRow w.heap.size 3 1 v (xs.length + 1) (ints xs ++ [.int .i64 x])) (hg : wr.grownBy w1 X.ownBlock) : DS w w1 g v (xs ++ [x]) A B n c m d := by
  have hh := h.hg
  have hrow : ∀ k, X.ownBlock = some k → w.heap.size ≤ k := fun k hk => own_ge h.own k hk
  exact ⟨by rw [ints_snoc, List.length_append]; exact hv, bx_grown h.bx hg (fun k hk => own_ne h.own h.bx (by decide) k hk), h.cur.grown hg (fun k hk => by have := hrow k hk; omega), h.fr.grown hg hrow, hh⟩

set_option maxHeartbeats 4000000 in
theorem cur_some (g : Nat) (A B : Option Addr) (n c m d : Nat) (w : World) (h : Cur w g) (hm : m ≤ 1000000000) :
    Calls Tryz.prog 113 #[.pointer (some ⟨g, 0, none⟩), .agg #[.slice A n c, .slice B m d]] w fun e w' => ∃ (D : Option Addr) (e' : Nat) (nd : List Int), e = .returned (.slice D nd.length e') ∧ nd.length ≤ 5 ∧ w'.ownsRow w.heap.size 3 1 (.slice D nd.length e') nd.length (ints nd) ∧ Cur w' g ∧ Fr (· = g) w w' := by
  have C := Lib.hid h
  have hgw := h.lt
  clear h
  go_enter Tryz.func113, Tryz.ntmps113
  go_wp2_with fail
  refine (cur_below g 5 _ (by repeat (first | exact C.out | refine Cur.alloc ?_ _ | refine Cur.drewN ?_ _ | refine Cur.drew ?_ | refine Cur.set ?_ (by simp <;> omega) _)) (by omega) (by omega)).mono ?_
  rintro e w1 ⟨x1, rfl, a1, q1, cu1, fr1⟩
  have T1 : Hid (DS w w1 g (.slice (some ⟨w.heap.size + 1, 0, none⟩) 0 0) [] A B n c m d) := Lib.hid (by
    refine ⟨?_, bx_fr (bx_alloc (heap_at (w := w) (.cells #[.slice A n c, .slice B m d] 26) rfl) (.cells #[] 3)) fr1 (by show ¬ _ = _; omega), cu1, (((Fr.refl _ w).alloc _).alloc _).trans fr1, hgw⟩
    exact own_fr (own_mono (own_lit (cs := []) (n := 0) (heap_at (w := w.alloc (.cells #[.slice A n c, .slice B m d] 26)) (.cells #[] 3) (by simp)) rfl (by decide) (Nat.le_refl _)) (by omega)) fr1 (fun k hk e => by simp [Value.ownBlock] at hk; omega))
  clear fr1 cu1
  go_wp2
  go_loopw [5, 6] (fun X nv wr => ∃ (j : Int) (xs : List Int), 0 ≤ j ∧ j + xs.length ≤ 4 ∧ nv = .int .i64 j ∧ DS w wr g X xs A B n c m d) (fun _ nv _ => (intOf nv).toNat)
  case atStart => exact ⟨x1, [], a1, by simp; omega, rfl, T1.out⟩
  case round =>
    clear T1
    obtain ⟨j, xs, hj0, hj4, rfl, T'⟩ := hrel
    have T := Lib.hid T'
    clear T'
    have k0 := bx_cell T.out.bx 0 rfl
    have k1 := bx_cell T.out.bx 1 rfl
    have hlb := heap_lt T.out.bx
    simp only [List.getElem_toArray, List.getElem_cons_zero, List.getElem_cons_succ] at k0 k1
    by_cases hj : 0 < j
    · go_wp2_with fail
      refine (cur_belowN g m _ T.out.cur (by omega)).mono ?_
      rintro e w2 ⟨x2, rfl, a2, q2, cu2, fr2⟩
      have T2 := Lib.hid (T.out.cs fr2 cu2)
      clear fr2 cu2 T k0 k1 hlb
      obtain ⟨i0, hi, hz0, hz1, hz2⟩ := info_parts infoI
      have hsza := T2.out.fr.size
      go_wp2_with (at_builtin; refine wpList_append_own _ rfl _ _ 23 rfl (w.heap.size) 3 i0 (.int .i64 0) 1 8 Tryz.underlying23 hi hz0 hz1 hz2 rfl (by decide) _ _ _ rfl (own_bel T2.out.own (below_alloc _ _)) ⟨w2.heap.size, 0, none⟩ 1 1 [.int .i64 x2] rfl rfl ?ca1 ?ca2 ?ca3 ?ca4 ?ca5 ?_)
      try case ca1 =>
        intro j y hy
        match j, hy with
        | 0, hy => (simp at hy; subst hy; simp [Addr.add])
      try case ca2 => simp [Value.oneCell']
      case ca3 => unfold maxLen; skip; omega
      case ca4 => skip; omega
      try case ca5 => first | omega | (simp <;> omega)
      intro v3 w3 own3 hg3 _
      have T3' := (T2.out.bel (below_alloc w2 (.cells #[.int .i64 x2] 3))).put own3 hg3
      obtain ⟨xs3, hxs3⟩ : ∃ p, p = xs ++ [x2] := ⟨_, rfl⟩
      have hxl3 : xs3.length ≤ xs.length + 1 := by rw [hxs3]; simp
      rw [← hxs3] at T3'
      have T3 := Lib.hid T3'
      clear T3' hxs3 own3 hg3 hi hz0 hz1 hz2
      go_wp2
      go_roundw
      case rel => exact ⟨j - 1, xs3, by omega, by omega, rfl, T3.out⟩
      case measure => simp [intOf]; omega
    · clear k0 k1 hlb
      go_wp2_with fail
      refine (cur_below g 10 _ T.out.cur (by omega) (by omega)).mono ?_
      rintro e w2 ⟨x2, rfl, a2, q2, cu2, fr2⟩
      have T2 := Lib.hid (T.out.cs fr2 cu2)
      clear fr2 cu2 T
      by_cases h0 : x2 = 0
      · subst h0
        go_wp2_with fail
        refine (cur_raw g _ T2.out.cur).mono ?_
        rintro e w4 ⟨x4, rfl, i4, cu4, fr4⟩
        have T4 := Lib.hid (T2.out.cs fr4 cu4)
        clear fr4 cu4 T2
        obtain ⟨i0, hi, hz0, hz1, hz2⟩ := info_parts infoI
        have hszb := T4.out.fr.size
        go_wp2_with (at_builtin; refine wpList_append_own _ rfl _ _ 23 rfl (w.heap.size) 3 i0 (.int .i64 0) 1 8 Tryz.underlying23 hi hz0 hz1 hz2 rfl (by decide) _ _ _ rfl (own_bel T4.out.own (below_alloc _ _)) ⟨w4.heap.size, 0, none⟩ 1 1 [.int .i64 x4] rfl rfl ?cb1 ?cb2 ?cb3 ?cb4 ?cb5 ?_)
        try case cb1 =>
          intro j y hy
          match j, hy with
          | 0, hy => (simp at hy; subst hy; simp [Addr.add])
        try case cb2 => simp [Value.oneCell']
        case cb3 => unfold maxLen; skip; omega
        case cb4 => skip; omega
        try case cb5 => first | omega | (simp <;> omega)
        intro v5 w5 own5 hg5 _
        have T5' := (T4.out.bel (below_alloc w4 (.cells #[.int .i64 x4] 3))).put own5 hg5
        obtain ⟨xs5, hxs5⟩ : ∃ p, p = xs ++ [x4] := ⟨_, rfl⟩
        have hxl5 : xs5.length ≤ xs.length + 1 := by rw [hxs5]; simp
        rw [← hxs5] at T5'
        have T5 := Lib.hid T5'
        clear T5' hxs5 own5 hg5 hi hz0 hz1 hz2
        obtain ⟨D, e', rfl, rd⟩ := own_rd T5.out.own
        clear rd
        go_wp2
        go_ret
        exact ⟨D, e', xs5, rfl, by omega, T5.out.own, T5.out.cur, T5.out.fr⟩
      · obtain ⟨D, e', rfl, rd⟩ := own_rd T2.out.own
        clear rd
        go_wp2
        go_ret
        exact ⟨D, e', xs, rfl, by omega, T2.out.own, T2.out.cur, T2.out.fr⟩

end Go.Proofs.YtdppjjdhidkjoaaGreat
