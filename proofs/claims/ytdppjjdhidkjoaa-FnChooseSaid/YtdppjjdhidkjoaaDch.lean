/-
  Drawn arguments of Choose.
-/
import Derived.Test.YtdppjjdhidkjoaaDv
namespace Go.Proofs.Ytdppjjdhidkjoaa
set_option linter.unusedSimpArgs false
set_option linter.unusedVariables false
set_option linter.unnecessarySimpa false
open Go.RowKit

set_option maxHeartbeats 8000000 in
set_option maxRecDepth 20000 in
theorem drawChoose_any (A0 : Option Addr) (n c0 : Nat) (w : World) (hn : n ≤ 1048576) (h : ByIn w A0 n) :
    Calls Try.prog 5 #[.slice A0 n c0] w fun e w' => ∃ (A B D : Option Addr) (c d e9 : Nat) (ps : List Int) (ns : List Q) (nd : List Int) (nn most : Int), e = .returned (.tuple #[.agg #[.slice A ps.length c, .slice B ns.length d], .slice D nd.length e9, .int .i64 nn, .int .i64 most]) ∧ ps.length ≤ 19 ∧ ns.length ≤ 10 ∧ nd.length ≤ 11 ∧ w'.ownsRow w.heap.size 3 1 (.slice A ps.length c) ps.length (ints ps) ∧ w'.ownsRow w.heap.size 61 4 (.slice B ns.length d) ns.length (flat ns) ∧ w'.ownsRow w.heap.size 3 1 (.slice D nd.length e9) nd.length (ints nd) ∧ Below w.heap.size w w' := by
  have HB := Lib.hid h
  clear h
  go_enter Try.func5, Try.ntmps5
  go_wp2_with fail
  refine (cur_new A0 n c0 _ hn (HB.out.below (by repeat (first | exact Below.refl _ _ | assumption | (refine bstep ?_ (below_drewN _ _)) | exact bstep (by assumption) (by assumption) | (refine bstep ?_ (below_alloc _ _)) | (refine bstep ?_ (by assumption)) | (refine Below.setCell ?_ (by simp <;> omega) _) | refine Below.drew ?_)))).mono ?_
  rintro e w1 ⟨g, rfl, hg, cu1, hb1⟩
  have hs1 := hb1.size
  (try simp at hs1)
  have hy10 : w.heap.size < w1.heap.size := by omega
  have hk10 := fun o => hb1.cell (p := ⟨w.heap.size, o, none⟩) (by first | omega | (simp <;> omega))
  have hg10 := fun o => hb1.frozen (p := ⟨w.heap.size, o, none⟩) (by first | omega | (simp <;> omega))
  have hgl := cu1.lt
  simp at hg
  have C1 := Lib.hid cu1
  clear cu1
  have B1 : Below w.heap.size w w1 := bstep (below_alloc _ _) hb1
  have RX1 := Lib.hid (bx_below (heap_at (w := w) (.cells #[.slice none 0 0, .slice none 0 0] 26) rfl) hb1)
  clear hk10 hg10
  go_wp2_with fail
  refine (cur_topo g _ C1.out).mono ?_
  rintro e w2 ⟨A, B, c, d, ps, ns, rfl, hp1, hp, hn2, oa, ob, cu2, fr2⟩
  have hs2 := fr2.size
  have B2 : Hid (Below w.heap.size w w2) := Lib.hid (B1.trans (fr2.bel (B := w.heap.size) (fun k e => by omega) (by omega)))
  have RX2 := Lib.hid (bx_fr RX1.out fr2 (by omega))
  have RS := Lib.hid (own_ge oa)
  have RT := Lib.hid (own_ge ob)
  have OA := Lib.hid (own_mono oa (show w.heap.size ≤ w1.heap.size by omega))
  have OB := Lib.hid (own_mono ob (show w.heap.size ≤ w1.heap.size by omega))
  have hg2 : g < w2.heap.size := by omega
  have T2 : Hid (DS w2 ((w2.alloc (.cells #[.slice A ps.length c, .slice B ns.length d] 26)).alloc (.cells #[] 3)) g (.slice (some ⟨w2.heap.size + 1, 0, none⟩) 0 0) [] A B ps.length c ns.length d) := Lib.hid (by
    refine ⟨?_, bx_alloc (heap_at (w := w2) (.cells #[.slice A ps.length c, .slice B ns.length d] 26) rfl) (.cells #[] 3), (cu2.alloc _).alloc _, ((Fr.refl _ w2).alloc _).alloc _, hg2⟩
    exact own_mono (own_lit (cs := []) (n := 0) (heap_at (w := w2.alloc (.cells #[.slice A ps.length c, .slice B ns.length d] 26)) (.cells #[] 3) (by simp)) rfl (by decide) (Nat.le_refl _)) (by omega))
  have hw1 : w.heap.size + 1 ≤ w1.heap.size := by omega
  have hgw : w.heap.size + 1 ≤ g := by omega
  clear fr2 cu2 oa ob C1 RX1 hb1 B1 hg hs1
  go_wp2
  go_loopw [8, 21] (fun X i wr => ∃ (j : Nat) (xs : List Int), j ≤ ns.length ∧ xs.length ≤ j ∧ i = .int .i64 j ∧ DS w2 wr g X xs A B ps.length c ns.length d) (fun _ i _ => ns.length - (intOf i).toNat)
  case atStart => exact ⟨0, [], Nat.zero_le _, Nat.le_refl _, rfl, T2.out⟩
  case round =>
    clear T2
    obtain ⟨j, xs, hj, hxj, rfl, T'⟩ := hrel
    have T := Lib.hid T'
    clear T'
    by_cases hlt : j < ns.length
    · have hlt' : (j : Int) < ns.length := by omega
      go_wp2_with fail
      refine (cur_below g 3 _ T.out.cur (by omega) (by omega)).mono ?_
      rintro e w3 ⟨x3, rfl, a3, q3, cu3, fr3⟩
      have T3 := Lib.hid (T.out.cs fr3 cu3)
      clear fr3 cu3 T
      by_cases hx3 : 0 < x3
      · skip
        obtain ⟨i0, hi, hz0, hz1, hz2⟩ := info_parts infoI
        have hsza := T3.out.fr.size
        go_wp2_with (at_builtin; refine wpList_append_own _ rfl _ _ 23 rfl (w2.heap.size) 3 i0 (.int .i64 0) 1 8 Try.underlying23 hi hz0 hz1 hz2 rfl (by decide) _ _ _ rfl (own_bel T3.out.own (below_alloc _ _)) ⟨w3.heap.size, 0, none⟩ 1 1 [.int .i64 (j : Int)] rfl rfl ?ca1 ?ca2 ?ca3 ?ca4 ?ca5 ?_)
        try case ca1 =>
          intro j y hy
          match j, hy with
          | 0, hy => (simp at hy; subst hy; simp [Addr.add])
        try case ca2 => simp [Value.oneCell']
        case ca3 => unfold maxLen; skip; omega
        case ca4 => skip; omega
        try case ca5 => first | omega | (simp <;> omega)
        intro v4 w4 own4 hg4 _
        have T4' := (T3.out.bel (below_alloc w3 (.cells #[.int .i64 (j : Int)] 3))).put own4 hg4
        obtain ⟨xs4, hxs4⟩ : ∃ p, p = xs ++ [(j : Int)] := ⟨_, rfl⟩
        have hxl4 : xs4.length ≤ xs.length + 1 := by rw [hxs4]; simp
        rw [← hxs4] at T4'
        have T4 := Lib.hid T4'
        clear T4' hxs4 own4 hg4 hi hz0 hz1 hz2
        go_wp2
        go_roundw
        case rel => exact ⟨j + 1, xs4, by omega, by omega, by go_num, T4.out⟩
        case measure => simp [intOf]; omega
      · go_wp2
        go_roundw
        case rel => exact ⟨j + 1, xs, by omega, by omega, by go_num, T3.out⟩
        case measure => simp [intOf]; omega
    · have hlt' : ¬ (j : Int) < ns.length := by omega
      have hxl : xs.length ≤ 10 := by omega
      go_wp2_with fail
      refine (cur_below g 4 _ T.out.cur (by omega) (by omega)).mono ?_
      rintro e w3 ⟨x3, rfl, a3, q3, cu3, fr3⟩
      have T3 := Lib.hid (T.out.cs fr3 cu3)
      clear fr3 cu3 T
      go_wp2_with fail
      refine (cur_below g 3 _ T3.out.cur (by omega) (by omega)).mono ?_
      rintro e w4 ⟨x4, rfl, a4, q4, cu4, fr4⟩
      have T4 := Lib.hid (T3.out.cs fr4 cu4)
      clear fr4 cu4 T3
      go_wp2_with fail
      refine (cur_below g 14 _ T4.out.cur (by omega) (by omega)).mono ?_
      rintro e w5 ⟨x5, rfl, a5, q5, cu5, fr5⟩
      have T5 := Lib.hid (T4.out.cs fr5 cu5)
      clear fr5 cu5 T4
      by_cases h0 : x5 = 0
      · subst h0
        have hs52 := T5.out.fr.size
        go_wp2_with fail
        refine (cur_topoAny g _ T5.out.cur).mono ?_
        rintro e w6 ⟨A', B', c', d', ps', ns', rfl, hp', hn', oa', ob', cu6, fr6⟩
        have hs6 := fr6.size
        have T6 := Lib.hid (T5.out.cs fr6 cu6)
        have OA' := Lib.hid oa'
        have OB' := Lib.hid ob'
        have hw5 : w2.heap.size + 1 ≤ w5.heap.size := heap_lt T5.out.bx
        clear fr6 cu6 T5 oa' ob'
        obtain ⟨D, e9, hD, rd⟩ := own_rd T6.out.own
        clear rd
        have O9 := Lib.hid (hD ▸ T6.out.own)
        have NX := Lib.hid (own_ne T6.out.own T6.out.bx (by decide))
        subst hD
        have k0 := bx_cell T6.out.bx 0 rfl
        have k1 := bx_cell T6.out.bx 1 rfl
        have hlb := heap_lt T6.out.bx
        simp only [List.getElem_toArray, List.getElem_cons_zero, List.getElem_cons_succ] at k0 k1
        have kf := bx_frz T6.out.bx
        have r9 := bx_fr RX2.out T6.out.fr (by omega)
        have r0 := bx_cell r9 0 rfl
        have r1 := bx_cell r9 1 rfl
        have rf := bx_frz r9
        have hlr := heap_lt r9
        simp only [List.getElem_toArray, List.getElem_cons_zero, List.getElem_cons_succ] at r0 r1
        clear r9
        have HNA : Hid (∀ k, (Value.slice A' ps'.length c').ownBlock = some k → k ≠ w.heap.size ∧ k ≠ w2.heap.size) := Lib.hid (fun k hk => by have := own_ge OA'.out k hk; omega)
        have HNB : Hid (∀ k, (Value.slice B' ns'.length d').ownBlock = some k → k ≠ w.heap.size ∧ k ≠ w2.heap.size) := Lib.hid (fun k hk => by have := own_ge OB'.out k hk; omega)
        have HND : Hid (∀ k, (Value.slice D xs.length e9).ownBlock = some k → k ≠ w.heap.size ∧ k ≠ w2.heap.size) := Lib.hid (fun k hk => ⟨by have := own_ge O9.out k hk; omega, NX.out k hk⟩)
        have hne : w.heap.size ≠ w2.heap.size := by omega
        clear NX
        go_wp2
        (try go_light)
        refine bodyPost_ret (v := .tuple #[.agg #[.slice A' ps'.length c', .slice B' ns'.length d'], .slice D xs.length e9, .int .i64 (1 + x3), .int .i64 x4]) (by simp [results, Try.results5, go_sem, *]) rfl ?_
        refine ⟨A', B', D, c', d', e9, ps', ns', xs, (1 + x3), x4, rfl, by omega, hn', by omega, ?_, ?_, ?_, ?_⟩
        · exact own_mono (own_set (a := ⟨w.heap.size, 1, none⟩) (own_set (a := ⟨w.heap.size, 0, none⟩) (own_set (a := ⟨w2.heap.size, 1, none⟩) (own_set (a := ⟨w2.heap.size, 0, none⟩) OA'.out (fun k hk => (HNA.out k hk).2) _) (fun k hk => (HNA.out k hk).2) _) (fun k hk => (HNA.out k hk).1) _) (fun k hk => (HNA.out k hk).1) _) (by omega)
        · exact own_mono (own_set (a := ⟨w.heap.size, 1, none⟩) (own_set (a := ⟨w.heap.size, 0, none⟩) (own_set (a := ⟨w2.heap.size, 1, none⟩) (own_set (a := ⟨w2.heap.size, 0, none⟩) OB'.out (fun k hk => (HNB.out k hk).2) _) (fun k hk => (HNB.out k hk).2) _) (fun k hk => (HNB.out k hk).1) _) (fun k hk => (HNB.out k hk).1) _) (by omega)
        · exact own_mono (own_set (a := ⟨w.heap.size, 1, none⟩) (own_set (a := ⟨w.heap.size, 0, none⟩) (own_set (a := ⟨w2.heap.size, 1, none⟩) (own_set (a := ⟨w2.heap.size, 0, none⟩) O9.out (fun k hk => (HND.out k hk).2) _) (fun k hk => (HND.out k hk).2) _) (fun k hk => (HND.out k hk).1) _) (fun k hk => (HND.out k hk).1) _) (by omega)
        · exact (((B2.out.trans (T6.out.fr.bel (B := w.heap.size) (fun k e => by omega) (by omega))).setCell (by show w.heap.size ≤ w2.heap.size; omega) _).setCell (by show w.heap.size ≤ w2.heap.size; omega) _).setCell (Nat.le_refl _) _ |>.setCell (Nat.le_refl _) _
      · by_cases h1 : x5 = 1
        · subst h1
          go_wp2_with fail
          refine (cur_raw g _ T5.out.cur).mono ?_
          rintro e w6 ⟨x6, rfl, i6, cu6, fr6⟩
          have T6 := Lib.hid (T5.out.cs fr6 cu6)
          clear fr6 cu6 T5
          obtain ⟨i0, hi, hz0, hz1, hz2⟩ := info_parts infoI
          have hszb := T6.out.fr.size
          go_wp2_with (at_builtin; refine wpList_append_own _ rfl _ _ 23 rfl (w2.heap.size) 3 i0 (.int .i64 0) 1 8 Try.underlying23 hi hz0 hz1 hz2 rfl (by decide) _ _ _ rfl (own_bel T6.out.own (below_alloc _ _)) ⟨w6.heap.size, 0, none⟩ 1 1 [.int .i64 x6] rfl rfl ?cb1 ?cb2 ?cb3 ?cb4 ?cb5 ?_)
          try case cb1 =>
            intro j y hy
            match j, hy with
            | 0, hy => (simp at hy; subst hy; simp [Addr.add])
          try case cb2 => simp [Value.oneCell']
          case cb3 => unfold maxLen; skip; omega
          case cb4 => skip; omega
          try case cb5 => first | omega | (simp <;> omega)
          intro v7 w7 own7 hg7 _
          have T7' := (T6.out.bel (below_alloc w6 (.cells #[.int .i64 x6] 3))).put own7 hg7
          obtain ⟨xs7, hxs7⟩ : ∃ p, p = xs ++ [x6] := ⟨_, rfl⟩
          have hxl7 : xs7.length ≤ xs.length + 1 := by rw [hxs7]; simp
          rw [← hxs7] at T7'
          have T7 := Lib.hid T7'
          clear T7' hxs7 own7 hg7 hi hz0 hz1 hz2
          obtain ⟨D, e9, hD, rd⟩ := own_rd T7.out.own
          clear rd
          have O9 := Lib.hid (hD ▸ T7.out.own)
          subst hD
          have k0 := bx_cell T7.out.bx 0 rfl
          have k1 := bx_cell T7.out.bx 1 rfl
          have hlb := heap_lt T7.out.bx
          simp only [List.getElem_toArray, List.getElem_cons_zero, List.getElem_cons_succ] at k0 k1
          have r9 := bx_fr RX2.out T7.out.fr (by omega)
          have r0 := bx_cell r9 0 rfl
          have r1 := bx_cell r9 1 rfl
          have rf := bx_frz r9
          have hlr := heap_lt r9
          simp only [List.getElem_toArray, List.getElem_cons_zero, List.getElem_cons_succ] at r0 r1
          clear r9
          have NEA : ∀ k, (Value.slice A ps.length c).ownBlock = some k → k ≠ w.heap.size := fun k hk => by have := RS.out k hk; omega
          have NEB : ∀ k, (Value.slice B ns.length d).ownBlock = some k → k ≠ w.heap.size := fun k hk => by have := RT.out k hk; omega
          have NED : ∀ k, (Value.slice D xs7.length e9).ownBlock = some k → k ≠ w.heap.size := fun k hk => by have := own_ge O9.out k hk; have := hs2; omega
          have HNA := Lib.hid NEA
          have HNB := Lib.hid NEB
          have HND := Lib.hid NED
          clear NEA NEB NED
          go_wp2
          (try go_light)
          refine bodyPost_ret (v := .tuple #[.agg #[.slice A ps.length c, .slice B ns.length d], .slice D xs7.length e9, .int .i64 (1 + x3), .int .i64 x4]) (by simp [results, Try.results5, go_sem, *]) rfl ?_
          refine ⟨A, B, D, c, d, e9, ps, ns, xs7, (1 + x3), x4, rfl, by omega, hn2, by omega, ?_, ?_, ?_, ?_⟩
          · exact own_set (a := ⟨w.heap.size, 1, none⟩) (own_set (a := ⟨w.heap.size, 0, none⟩) (own_fr OA.out T7.out.fr (fun k hk e => by have := RS.out k hk; omega)) HNA.out _) HNA.out _
          · exact own_set (a := ⟨w.heap.size, 1, none⟩) (own_set (a := ⟨w.heap.size, 0, none⟩) (own_fr OB.out T7.out.fr (fun k hk e => by have := RT.out k hk; omega)) HNB.out _) HNB.out _
          · exact own_mono (own_set (a := ⟨w.heap.size, 1, none⟩) (own_set (a := ⟨w.heap.size, 0, none⟩) O9.out HND.out _) HND.out _) (by omega)
          · exact ((B2.out.trans (T7.out.fr.bel (B := w.heap.size) (fun k e => by omega) (by omega))).setCell (Nat.le_refl _) _).setCell (Nat.le_refl _) _
        · by_cases h2 : x5 = 2
          · subst h2
            go_wp2_with fail
            refine (cur_raw g _ T5.out.cur).mono ?_
            rintro e w6 ⟨x6, rfl, i6, cu6, fr6⟩
            have T6 := Lib.hid (T5.out.cs fr6 cu6)
            clear fr6 cu6 T5
            obtain ⟨D, e9, hD, rd⟩ := own_rd T6.out.own
            clear rd
            have O9 := Lib.hid (hD ▸ T6.out.own)
            subst hD
            have k0 := bx_cell T6.out.bx 0 rfl
            have k1 := bx_cell T6.out.bx 1 rfl
            have hlb := heap_lt T6.out.bx
            simp only [List.getElem_toArray, List.getElem_cons_zero, List.getElem_cons_succ] at k0 k1
            have r9 := bx_fr RX2.out T6.out.fr (by omega)
            have r0 := bx_cell r9 0 rfl
            have r1 := bx_cell r9 1 rfl
            have rf := bx_frz r9
            have hlr := heap_lt r9
            simp only [List.getElem_toArray, List.getElem_cons_zero, List.getElem_cons_succ] at r0 r1
            clear r9
            have NEA : ∀ k, (Value.slice A ps.length c).ownBlock = some k → k ≠ w.heap.size := fun k hk => by have := RS.out k hk; omega
            have NEB : ∀ k, (Value.slice B ns.length d).ownBlock = some k → k ≠ w.heap.size := fun k hk => by have := RT.out k hk; omega
            have NED : ∀ k, (Value.slice D xs.length e9).ownBlock = some k → k ≠ w.heap.size := fun k hk => by have := own_ge O9.out k hk; have := hs2; omega
            have HNA := Lib.hid NEA
            have HNB := Lib.hid NEB
            have HND := Lib.hid NED
            clear NEA NEB NED
            go_wp2
            (try go_light)
            refine bodyPost_ret (v := .tuple #[.agg #[.slice A ps.length c, .slice B ns.length d], .slice D xs.length e9, .int .i64 x6, .int .i64 x4]) (by simp [results, Try.results5, go_sem, *]) rfl ?_
            refine ⟨A, B, D, c, d, e9, ps, ns, xs, x6, x4, rfl, by omega, hn2, by omega, ?_, ?_, ?_, ?_⟩
            · exact own_set (a := ⟨w.heap.size, 1, none⟩) (own_set (a := ⟨w.heap.size, 0, none⟩) (own_fr OA.out T6.out.fr (fun k hk e => by have := RS.out k hk; omega)) HNA.out _) HNA.out _
            · exact own_set (a := ⟨w.heap.size, 1, none⟩) (own_set (a := ⟨w.heap.size, 0, none⟩) (own_fr OB.out T6.out.fr (fun k hk e => by have := RT.out k hk; omega)) HNB.out _) HNB.out _
            · exact own_mono (own_set (a := ⟨w.heap.size, 1, none⟩) (own_set (a := ⟨w.heap.size, 0, none⟩) O9.out HND.out _) HND.out _) (by omega)
            · exact ((B2.out.trans (T6.out.fr.bel (B := w.heap.size) (fun k e => by omega) (by omega))).setCell (Nat.le_refl _) _).setCell (Nat.le_refl _) _
          · by_cases h3 : x5 = 3
            · subst h3
              go_wp2_with fail
              refine (cur_raw g _ T5.out.cur).mono ?_
              rintro e w6 ⟨x6, rfl, i6, cu6, fr6⟩
              have T6 := Lib.hid (T5.out.cs fr6 cu6)
              clear fr6 cu6 T5
              obtain ⟨D, e9, hD, rd⟩ := own_rd T6.out.own
              clear rd
              have O9 := Lib.hid (hD ▸ T6.out.own)
              subst hD
              have k0 := bx_cell T6.out.bx 0 rfl
              have k1 := bx_cell T6.out.bx 1 rfl
              have hlb := heap_lt T6.out.bx
              simp only [List.getElem_toArray, List.getElem_cons_zero, List.getElem_cons_succ] at k0 k1
              have r9 := bx_fr RX2.out T6.out.fr (by omega)
              have r0 := bx_cell r9 0 rfl
              have r1 := bx_cell r9 1 rfl
              have rf := bx_frz r9
              have hlr := heap_lt r9
              simp only [List.getElem_toArray, List.getElem_cons_zero, List.getElem_cons_succ] at r0 r1
              clear r9
              have NEA : ∀ k, (Value.slice A ps.length c).ownBlock = some k → k ≠ w.heap.size := fun k hk => by have := RS.out k hk; omega
              have NEB : ∀ k, (Value.slice B ns.length d).ownBlock = some k → k ≠ w.heap.size := fun k hk => by have := RT.out k hk; omega
              have NED : ∀ k, (Value.slice D xs.length e9).ownBlock = some k → k ≠ w.heap.size := fun k hk => by have := own_ge O9.out k hk; have := hs2; omega
              have HNA := Lib.hid NEA
              have HNB := Lib.hid NEB
              have HND := Lib.hid NED
              clear NEA NEB NED
              go_wp2
              (try go_light)
              refine bodyPost_ret (v := .tuple #[.agg #[.slice A ps.length c, .slice B ns.length d], .slice D xs.length e9, .int .i64 (1 + x3), .int .i64 x6]) (by simp [results, Try.results5, go_sem, *]) rfl ?_
              refine ⟨A, B, D, c, d, e9, ps, ns, xs, (1 + x3), x6, rfl, by omega, hn2, by omega, ?_, ?_, ?_, ?_⟩
              · exact own_set (a := ⟨w.heap.size, 1, none⟩) (own_set (a := ⟨w.heap.size, 0, none⟩) (own_fr OA.out T6.out.fr (fun k hk e => by have := RS.out k hk; omega)) HNA.out _) HNA.out _
              · exact own_set (a := ⟨w.heap.size, 1, none⟩) (own_set (a := ⟨w.heap.size, 0, none⟩) (own_fr OB.out T6.out.fr (fun k hk e => by have := RT.out k hk; omega)) HNB.out _) HNB.out _
              · exact own_mono (own_set (a := ⟨w.heap.size, 1, none⟩) (own_set (a := ⟨w.heap.size, 0, none⟩) O9.out HND.out _) HND.out _) (by omega)
              · exact ((B2.out.trans (T6.out.fr.bel (B := w.heap.size) (fun k e => by omega) (by omega))).setCell (Nat.le_refl _) _).setCell (Nat.le_refl _) _
            · skip
              obtain ⟨D, e9, hD, rd⟩ := own_rd T5.out.own
              clear rd
              have O9 := Lib.hid (hD ▸ T5.out.own)
              subst hD
              have k0 := bx_cell T5.out.bx 0 rfl
              have k1 := bx_cell T5.out.bx 1 rfl
              have hlb := heap_lt T5.out.bx
              simp only [List.getElem_toArray, List.getElem_cons_zero, List.getElem_cons_succ] at k0 k1
              have r9 := bx_fr RX2.out T5.out.fr (by omega)
              have r0 := bx_cell r9 0 rfl
              have r1 := bx_cell r9 1 rfl
              have rf := bx_frz r9
              have hlr := heap_lt r9
              simp only [List.getElem_toArray, List.getElem_cons_zero, List.getElem_cons_succ] at r0 r1
              clear r9
              have NEA : ∀ k, (Value.slice A ps.length c).ownBlock = some k → k ≠ w.heap.size := fun k hk => by have := RS.out k hk; omega
              have NEB : ∀ k, (Value.slice B ns.length d).ownBlock = some k → k ≠ w.heap.size := fun k hk => by have := RT.out k hk; omega
              have NED : ∀ k, (Value.slice D xs.length e9).ownBlock = some k → k ≠ w.heap.size := fun k hk => by have := own_ge O9.out k hk; have := hs2; omega
              have HNA := Lib.hid NEA
              have HNB := Lib.hid NEB
              have HND := Lib.hid NED
              clear NEA NEB NED
              go_wp2
              (try go_light)
              refine bodyPost_ret (v := .tuple #[.agg #[.slice A ps.length c, .slice B ns.length d], .slice D xs.length e9, .int .i64 (1 + x3), .int .i64 x4]) (by simp [results, Try.results5, go_sem, *]) rfl ?_
              refine ⟨A, B, D, c, d, e9, ps, ns, xs, (1 + x3), x4, rfl, by omega, hn2, by omega, ?_, ?_, ?_, ?_⟩
              · exact own_set (a := ⟨w.heap.size, 1, none⟩) (own_set (a := ⟨w.heap.size, 0, none⟩) (own_fr OA.out T5.out.fr (fun k hk e => by have := RS.out k hk; omega)) HNA.out _) HNA.out _
              · exact own_set (a := ⟨w.heap.size, 1, none⟩) (own_set (a := ⟨w.heap.size, 0, none⟩) (own_fr OB.out T5.out.fr (fun k hk e => by have := RT.out k hk; omega)) HNB.out _) HNB.out _
              · exact own_mono (own_set (a := ⟨w.heap.size, 1, none⟩) (own_set (a := ⟨w.heap.size, 0, none⟩) O9.out HND.out _) HND.out _) (by omega)
              · exact ((B2.out.trans (T5.out.fr.bel (B := w.heap.size) (fun k e => by omega) (by omega))).setCell (Nat.le_refl _) _).setCell (Nat.le_refl _) _
end Go.Proofs.Ytdppjjdhidkjoaa
