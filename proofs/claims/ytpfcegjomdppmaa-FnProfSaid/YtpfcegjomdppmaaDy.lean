/-
  A drawn topology.
-/
import Derived.Test.YtpfcegjomdppmaaDx
import Derived.Deep.RegionHeld3
import Derived.Test.YtpfcegjomdppmaaDu
namespace Go.Proofs.Ytpfcegjomdppmaa
set_option linter.unusedSimpArgs false
set_option linter.unusedVariables false
set_option linter.unnecessarySimpa false
open Go.RowKit
/-- A number between two others. -/
def rI (lo hi : Int) : Value → World → Prop := fun u _ => ∃ x : Int, u = .int .i64 x ∧ lo ≤ x ∧ x ≤ hi
def rV : Value → World → Prop := fun u _ => ∃ a b c : Int, u = .agg #[.int .i64 a, .int .i64 b, .int .i64 c]
def rN (x : Int) : Value → World → Prop := fun u _ => ∃ a b c : Int, u = .agg #[.int .i64 x, .int .i64 a, .int .i64 b, .int .i64 c]
def rB (x : Int) (g : Nat) : Value → World → Prop := fun u w => ∃ (k : Nat) (a b c : Int), u = .slice (some ⟨k, 0, none⟩) 1 1 ∧ w.heap[k]? = some (.cells #[.int .i64 x, .int .i64 a, .int .i64 b, .int .i64 c] 103 (0, 0)) ∧ g < k
theorem rB_fr {x : Int} {g : Nat} {u : Value} {w w' : World} (h : rB x g u w) (hf : Fr (· = g) w w') : rB x g u w' := by
  obtain ⟨k, a, b, c, h1, h2, h3⟩ := h
  exact ⟨k, a, b, c, h1, bx_fr h2 hf (by show ¬ _ = _; omega), h3⟩
/-- What the drawing of a node keeps. -/
structure JN (w wr : World) (g b0 b : Nat) (ps : List Int) (ns : List Q) (L : Value) (ls : List Int) (A B : Option Addr) (c d : Nat) : Prop where
  dn : DN w wr g b0 b ps ns L ls
  bx : wr.heap[b]? = some (.cells #[.slice A ps.length c, .slice B ns.length d] 26 (0, 0))
  oa : wr.ownsRow w.heap.size 3 1 (.slice A ps.length c) ps.length (ints ps)
  ob : wr.ownsRow w.heap.size 103 4 (.slice B ns.length d) ns.length (flat ns)
theorem JN.bel {w wr w' : World} {g b0 b : Nat} {ps : List Int} {ns : List Q} {L : Value} {ls : List Int} {A B : Option Addr} {c d : Nat} (h : JN w wr g b0 b ps ns L ls A B c d) (hb : Below wr.heap.size wr w') : JN w w' g b0 b ps ns L ls A B c d :=
  ⟨h.dn.bel hb, bx_below h.bx hb, own_bel h.oa hb, own_bel h.ob hb⟩
theorem JN.cs {w wr w' : World} {g b0 b : Nat} {ps : List Int} {ns : List Q} {L : Value} {ls : List Int} {A B : Option Addr} {c d : Nat} (h : JN w wr g b0 b ps ns L ls A B c d) (hf : Fr (· = g) wr w') (hc : Cur w' g) : JN w w' g b0 b ps ns L ls A B c d := by
  have hh := h.dn.hb
  exact ⟨h.dn.cs hf hc, bx_fr h.bx hf (by omega), own_fr h.oa hf (fun k hk e => by have := own_ge h.oa k hk; omega), own_fr h.ob hf (fun k hk e => by have := own_ge h.ob k hk; omega)⟩
theorem infoNd : (Try.prog.info? 103).map (fun i => (i.zero, i.size, i.bytes)) = some (some (.agg #[.int .i64 0, .int .i64 0, .int .i64 0, .int .i64 0]), 4, 32) := by kernel_rfl

set_option maxHeartbeats 8000000 in
set_option maxRecDepth 20000 in
theorem cur_topo (g : Nat) (w : World) (h : Cur w g) :
    Calls Try.prog 55 #[.pointer (some ⟨g, 0, none⟩)] w fun e w' => ∃ (A B : Option Addr) (c d : Nat) (ps : List Int) (ns : List Q), e = .returned (.agg #[.slice A ps.length c, .slice B ns.length d]) ∧ 1 ≤ ps.length ∧ ps.length ≤ 18 ∧ ns.length ≤ 10 ∧ w'.ownsRow w.heap.size 3 1 (.slice A ps.length c) ps.length (ints ps) ∧ w'.ownsRow w.heap.size 103 4 (.slice B ns.length d) ns.length (flat ns) ∧ Cur w' g ∧ Fr (· = g) w w' := by
  have C := Lib.hid h
  have hgw := h.lt
  clear h
  go_enter Try.func55, Try.ntmps55
  go_wp2_with fail
  refine (cur_below g 3 _ (by repeat (first | exact C.out | refine Cur.alloc ?_ _ | refine Cur.drewN ?_ _ | refine Cur.drew ?_ | refine Cur.set ?_ (by simp <;> omega) _)) (by omega) (by omega)).mono ?_
  rintro e w1 ⟨x1, rfl, a1, q1, cu1, fr1⟩
  have hs1 := fr1.size
  (try simp at hs1)
  have hy10 : w.heap.size < w1.heap.size := by omega
  have hk10 := fun o => fr1.cell (b := w.heap.size) (by first | omega | (simp <;> omega)) (by omega) o
  have hg10 := fun o => fr1.frozen (b := w.heap.size) (by first | omega | (simp <;> omega)) (by omega) o
  have hy11 : w.heap.size + 1 < w1.heap.size := by omega
  have hk11 := fun o => fr1.cell (b := w.heap.size + 1) (by first | omega | (simp <;> omega)) (by omega) o
  have hg11 := fun o => fr1.frozen (b := w.heap.size + 1) (by first | omega | (simp <;> omega)) (by omega) o
  have hy12 : w.heap.size + 1 + 1 < w1.heap.size := by omega
  have hk12 := fun o => fr1.cell (b := w.heap.size + 1 + 1) (by first | omega | (simp <;> omega)) (by omega) o
  have hg12 := fun o => fr1.frozen (b := w.heap.size + 1 + 1) (by first | omega | (simp <;> omega)) (by omega) o
  have C1 := Lib.hid cu1
  have hgl1 := cu1.lt
  clear cu1
  have T0 := Lib.hid (DT.start C1.out fr1 hgw)
  clear hk10 hk11 hk12 hg10 hg11 hg12 fr1 hs1
  go_wp2
  go_loopw [5, 6] (fun L i wr => ∃ (k : Nat) (ps ls : List Int), (k : Int) ≤ x1 ∧ i = .int .i64 k ∧ 1 ≤ ps.length ∧ ps.length ≤ 18 ∧ 1 ≤ ls.length ∧ ls.length ≤ 18 ∧ DT w wr g w.heap.size (w.heap.size + 1 + 1) ps L ls (.slice none 0 0) []) (fun _ i _ => 3 - (intOf i).toNat)
  case atStart => exact ⟨0, [0], [0], by omega, rfl, by simp, by simp, by simp, by simp, T0.out⟩
  case round =>
    obtain ⟨k, ps, ls, hk, rfl, hp1, hp2, hl1, hl2, T'⟩ := hrel
    have T := Lib.hid T'
    clear T'
    obtain ⟨AL, cL, rfl, rdL⟩ := own_rd T.out.last
    clear rdL
    by_cases hlt : (k : Int) < x1
    · have T1 := Lib.hid (T.out.fresh)
      go_wp2
      go_loopw [7, 26] (fun X i wi => ∃ (j : Nat) (ps xs : List Int), j ≤ ls.length ∧ i = .int .i64 j ∧ 1 ≤ ps.length ∧ ps.length ≤ 18 ∧ xs.length + 1 ≤ ps.length ∧ DT w wi g w.heap.size (w.heap.size + 1 + 1) ps (.slice AL ls.length cL) ls X xs) (fun _ i _ => ls.length - (intOf i).toNat)
      case atStart => exact ⟨0, ps, [], Nat.zero_le _, rfl, hp1, hp2, by simp; omega, T1.out⟩
      case round =>
        clear T1 T hp1 hp2
        obtain ⟨j, ps, xs, hj, rfl, hp1, hp2, hxl, T'⟩ := hrel
        have T := Lib.hid T'
        clear T'
        by_cases hjl : j < ls.length
        · have hjl' : (j : Int) < ls.length := by omega
          obtain ⟨g1, x, rfl, hx, cx⟩ := Rd.int (own_rdd' T.out.last) hjl
          have hg1 := own_blk T.out.last g1 rfl
          go_wp2_with fail
          refine (cur_below g 3 _ T.out.cur (by omega) (by omega)).mono ?_
          rintro e w2 ⟨x2, rfl, a2, q2, cu2, fr2⟩
          have T2 := Lib.hid (T.out.cs fr2 cu2)
          clear fr2 cu2
          clear cx
          go_wp2
          go_loopw [7, 10] (fun X n wi => ∃ (m : Int) (ps xs : List Int), 0 ≤ m ∧ m ≤ 3 ∧ n = .int .i64 m ∧ 1 ≤ ps.length ∧ ps.length ≤ 18 ∧ xs.length + 1 ≤ ps.length ∧ DT w wi g w.heap.size (w.heap.size + 1 + 1) ps (.slice (some ⟨g1, 0, none⟩) ls.length cL) ls X xs) (fun _ n _ => (intOf n).toNat)
          case atStart => exact ⟨1 + x2, ps, xs, by omega, by omega, rfl, hp1, hp2, hxl, T2.out⟩
          case round =>
            clear T2 T hp1 hp2 hxl
            obtain ⟨m, ps, xs, hm0, hm3, rfl, hp1, hp2, hxl, T'⟩ := hrel
            have T := Lib.hid T'
            clear T'
            obtain ⟨A5, c5, h1, h2, h3⟩ := T.out.box
            have hlw := heap_lt h1
            have k0 := bx_cell h1 0 rfl
            have kf := bx_frz h1
            simp only [List.getElem_toArray, List.getElem_cons_zero, List.getElem_cons_succ] at k0
            have H1 := Lib.hid h1
            have H2 := Lib.hid h2
            have H3 := Lib.hid h3
            clear h1 h2 h3
            by_cases hm : 0 < m
            · by_cases hp : ps.length < 18
              · have hp' : (ps.length : Int) < 18 := by omega
                obtain ⟨i0, hi, hz0, hz1, hz2⟩ := info_parts infoI
                go_wp2_with (at_builtin; refine wpList_append_own_at _ rfl _ _ 23 rfl (w.heap.size) 3 i0 (.int .i64 0) 1 8 Try.underlying23 hi hz0 hz1 hz2 rfl (by decide) _ _ _ rfl (own_bel H2.out (below_alloc _ _)) ⟨wr.heap.size, 0, none⟩ 1 1 [.int .i64 x] rfl rfl ?ca1 ?ca2 ?ca3 ?ca4 ?ca5 ?_)
                try case ca1 =>
                  intro j y hy
                  match j, hy with
                  | 0, hy => (simp at hy; subst hy; simp [Addr.add])
                try case ca2 => simp [Value.oneCell']
                case ca3 => unfold maxLen; skip; omega
                case ca4 => skip; omega
                try case ca5 => first | omega | (simp <;> omega)
                intro v5 w5 own5 hg5 _ hw5
                have al := below_alloc wr (.cells #[.int .i64 x] 3)
                have T5' := (T.out.bel al).put (bx_below H1.out al) (own_bel H2.out al) H3.out own5 hg5 (hw5.imp_right (fun h => h.trans (by simp)))
                obtain ⟨A6, c6, rfl, rd6⟩ := own_rd own5
                have e5 := bx_grown (bx_below H1.out al) hg5 (own_ne (own_bel H2.out al) (bx_below H1.out al) (by decide))
                have g0 := bx_cell e5 0 rfl
                have gf := bx_frz e5
                simp only [List.getElem_toArray, List.getElem_cons_zero, List.getElem_cons_succ] at g0
                clear rd6 own5 hi hz0 hz1 hz2 k0 kf H1 H2 H3 hg5 e5 al hw5
                go_upto_region 15 with fail
                obtain ⟨ps', hps'⟩ : ∃ p, p = ps ++ [x] := ⟨_, rfl⟩
                have hp1' : 1 ≤ ps'.length := by rw [hps']; simp
                have hp2' : ps'.length ≤ 18 := by rw [hps']; simp; omega
                have hxl' : xs.length + 2 ≤ ps'.length := by rw [hps']; simp; omega
                rw [← hps'] at T5'
                have T5 := Lib.hid T5'
                clear T5' hps' g0 gf T
                generalize w5.setCell _ _ = w6 at *
                clear hlw
                obtain ⟨A5, c5, h1, h2, h3⟩ := T5.out.box
                have hlw := heap_lt h1
                have k0 := bx_cell h1 0 rfl
                have kf := bx_frz h1
                simp only [List.getElem_toArray, List.getElem_cons_zero, List.getElem_cons_succ] at k0
                have H1 := Lib.hid h1
                have H2 := Lib.hid h2
                have H3 := Lib.hid h3
                clear h1 h2 h3
                obtain ⟨i0, hi, hz0, hz1, hz2⟩ := info_parts infoI
                have hp9 : 0 ≤ (ps'.length : Int) - 1 := by omega
                go_wp2_with (at_builtin; refine wpList_append_own_at _ rfl _ _ 23 rfl (w.heap.size) 3 i0 (.int .i64 0) 1 8 Try.underlying23 hi hz0 hz1 hz2 rfl (by decide) _ _ _ rfl (own_bel T5.out.next (below_alloc _ _)) ⟨w6.heap.size, 0, none⟩ 1 1 [.int .i64 ((ps'.length : Int) - 1)] rfl rfl ?cb1 ?cb2 ?cb3 ?cb4 ?cb5 ?_)
                try case cb1 =>
                  intro j y hy
                  match j, hy with
                  | 0, hy => (simp at hy; subst hy; simp [Addr.add])
                try case cb2 => simp [Value.oneCell']
                case cb3 => unfold maxLen; skip; omega
                case cb4 => skip; omega
                try case cb5 => first | omega | (simp <;> omega)
                intro v7 w7 own7 hg7 _ hw7
                have al := below_alloc w6 (.cells #[.int .i64 ((ps'.length : Int) - 1)] 3)
                have T7 := Lib.hid ((T5.out.bel al).app (x := (ps'.length : Int) - 1) hp9 own7 hg7 (hw7.imp_right (fun h => h.trans (by simp))))
                clear hi hz0 hz1 hz2 k0 kf H1 H2 H3 hg7 al hw7 own7 T5
                go_wp2
                go_roundw
                case rel => exact ⟨m - 1, ps', xs ++ [(ps'.length : Int) - 1], by omega, by omega, rfl, hp1', hp2', by simp; omega, T7.out⟩
                case measure => simp [intOf]; omega
              · have hp' : ¬ (ps.length : Int) < 18 := by omega
                go_wp2
                go_roundw
                case rel => exact ⟨j + 1, ps, xs, by omega, by go_num, hp1, hp2, hxl, T.out⟩
                case measure => simp [intOf]; omega
            · go_wp2
              go_roundw
              case rel => exact ⟨j + 1, ps, xs, by omega, by go_num, hp1, hp2, hxl, T.out⟩
              case measure => simp [intOf]; omega
        · have hjl' : ¬ (j : Int) < ls.length := by omega
          obtain ⟨AX, cX, rfl, rdX⟩ := own_rd T.out.next
          clear rdX
          by_cases hx0 : 0 < xs.length
          · have hx0' : (0 : Int) < xs.length := by omega
            go_wp2
            go_roundw
            case rel => exact ⟨k + 1, ps, xs, by omega, by go_num, hp1, hp2, by omega, by omega, T.out.turn⟩
            case measure => simp [intOf]; omega
          · have hx0' : ¬ (0 : Int) < xs.length := by omega
            go_wp2
            go_roundw
            case rel => exact ⟨k + 1, ps, ls, by omega, by go_num, hp1, hp2, hl1, hl2, T.out.setNext (own_nil _ _ _ _) (Or.inl rfl)⟩
            case measure => simp [intOf]; omega
    · have T2 := Lib.hid T.out.nodes
      clear T T0
      go_wp2_with fail
      refine (cur_below g 10 _ T2.out.cur (by omega) (by omega)).mono ?_
      rintro e w9 ⟨x9, rfl, a9, q9, cu9, fr9⟩
      have T3 := Lib.hid (T2.out.cs fr9 cu9)
      clear fr9 cu9
      go_wp2
      go_loopw [11] (fun n wi => ∃ (m : Int) (ns : List Q), 0 ≤ m ∧ m + ns.length ≤ 10 ∧ n = .int .i64 m ∧ DN w wi g w.heap.size (w.heap.size + 1 + 1) ps ns (.slice AL ls.length cL) ls) (fun n _ => (intOf n).toNat)
      case atStart => exact ⟨1 + x9, [], by omega, by simp; omega, rfl, T3.out⟩
      case round =>
        obtain ⟨m, ns, hm0, hmn, rfl, T'⟩ := hrel
        have T := Lib.hid T'
        clear T' T3 T2
        by_cases hm : 0 < m
        · skip
          go_wp2_with fail
          refine (cur_below g (ls.length : Int) _ T.out.cur (by omega) (by omega)).mono ?_
          rintro e w2 ⟨x2, rfl, a2, q2, cu2, fr2⟩
          have T2 := Lib.hid (T.out.cs fr2 cu2)
          clear fr2 cu2
          clear T
          obtain ⟨y, rfl⟩ : ∃ y : Nat, x2 = y := ⟨x2.toNat, by omega⟩
          have hy : y < ls.length := by omega
          obtain ⟨g1, x, rfl, hx, cx⟩ := Rd.int (own_rdd' T2.out.last) hy
          have hg1 := own_blk T2.out.last g1 rfl
          have hx0 := T2.out.nl x (List.mem_of_getElem? hx)
          clear hx
          obtain ⟨sx, rfl⟩ : ∃ n : Nat, x = n := ⟨x.toNat, by omega⟩
          obtain ⟨A5, c5, B5, d5, h1, h2, h3⟩ := T2.out.box.ex
          have hlw := heap_lt h1
          have k0 := bx_cell h1 0 rfl
          have k1 := bx_cell h1 1 rfl
          have kf := bx_frz h1
          simp only [List.getElem_toArray, List.getElem_cons_zero, List.getElem_cons_succ] at k0 k1
          have H1 := Lib.hid h1
          have H2 := Lib.hid h2
          have H3 := Lib.hid h3
          clear h1 h2 h3
          go_wp2_with fail
          refine (kids_any A5 B5 _ c5 _ d5 ps sx _ (by omega) (own_rdd' H2.out) (own_blk H2.out)).mono ?_
          rintro e w3 ⟨v3, rfl, own3, hb3⟩
          obtain ⟨A3, c3, rfl, rd3⟩ := own_rd own3
          have T4 := Lib.hid (T2.out.bel hb3)
          clear own3 rd3 hb3 T2 k0 k1 kf H1 H2 H3 hlw cx hg1
          generalize (kids ps sx).length = K
          obtain ⟨A6, c6, B6, d6, h1, h2, h3⟩ := T4.out.box.ex
          have hlw := heap_lt h1
          have k0 := bx_cell h1 0 rfl
          have k1 := bx_cell h1 1 rfl
          have kf := bx_frz h1
          simp only [List.getElem_toArray, List.getElem_cons_zero, List.getElem_cons_succ] at k0 k1
          have H1 := Lib.hid h1
          have H2 := Lib.hid h2
          have H3 := Lib.hid h3
          clear h1 h2 h3
          by_cases hK : K = 0
          · subst hK
            go_upto_region 24 with fail
            have TJ : Hid (JN w w3 g w.heap.size (w.heap.size + 1 + 1) ps ns (.slice (some ⟨g1, 0, none⟩) ls.length cL) ls A6 B6 c6 d6) := Lib.hid ⟨T4.out, H1.out, H2.out, H3.out⟩
            refine wp_region_tail 14 (fun w' => JN w w' g w.heap.size (w.heap.size + 1 + 1) ps ns (.slice (some ⟨g1, 0, none⟩) ls.length cL) ls A6 B6 c6 d6) (Fr (· = g)) (by kernel_rfl) (by kernel_rfl) (TJ.out.bel (below_drewN _ 1)) ?_
            clear k0 k1 kf hlw
            show Det _ _ _ _ _ _ (_ :: _ :: _ :: _ :: _ :: _ :: _ :: _ :: _ :: _ :: _ :: _ :: _ :: _ :: []) _ _
            refine Det.val ?_ rfl ?_ (Fr.refl _) ?_
            rotate_left
            · intro f w9 hJ
              skip
              go_simp
              with_reducible rfl
            (try simp only [putA, List.setIfInBounds_toArray, List.set_cons_zero, List.set_cons_succ, Option.getD_some])
            refine Det.val ?_ rfl ?_ (Fr.refl _) ?_
            rotate_left
            · intro f w9 hJ
              have k1 := bx_cell hJ.bx 1 rfl; have kf := bx_frz hJ.bx; simp only [List.getElem_toArray, List.getElem_cons_zero, List.getElem_cons_succ] at k1
              go_simp
              with_reducible rfl
            (try simp only [putA, List.setIfInBounds_toArray, List.set_cons_zero, List.set_cons_succ, Option.getD_some])
            refine Det.val ?_ rfl ?_ (Fr.refl _) ?_
            rotate_left
            · intro f w9 hJ
              skip
              go_simp
              with_reducible rfl
            (try simp only [putA, List.setIfInBounds_toArray, List.set_cons_zero, List.set_cons_succ, Option.getD_some])
            refine Det.val ?_ rfl ?_ (Fr.refl _) ?_
            rotate_left
            · intro f w9 hJ
              skip
              go_simp
              with_reducible rfl
            (try simp only [putA, List.setIfInBounds_toArray, List.set_cons_zero, List.set_cons_succ, Option.getD_some])
            refine Det.flo (rI 0 4) rfl rfl (fun _ _ _ h _ => h) ?_ ?_
            · intro f w9 K hJ hR hK
              have HK := Lib.hid hK
              clear hK hR
              go_simp
              go_at_call 56
              refine (cur_below g 5 _ hJ.dn.cur (by omega) (by omega)).mono ?_
              rintro e w10 ⟨x, rfl, h0, h1, cu, fr⟩
              exact HK.out _ _ (hJ.cs fr cu) fr ⟨x, rfl, by omega, by omega⟩
            (try simp only [putA, List.setIfInBounds_toArray, List.set_cons_zero, List.set_cons_succ, Option.getD_some])
            refine Det.flo (rI 4 8) rfl rfl (fun _ _ _ h _ => h) ?_ ?_
            · intro f w9 K hJ hR hK
              obtain ⟨y, hy9, y0, y1⟩ := hR (84, rI 0 4) (by simp [addF, dropF]) (by show (84 : Nat) ∈ _; decide)
              simp only [hy9] at hK
              have HK := Lib.hid hK
              clear hK
              clear hR
              have hwr : IntKind.i64.wrap (4 + y) = 4 + y := IntWalk.i64_in _ (by omega)
              go_simp
              exact HK.out _ _ hJ (Fr.refl _ _) ⟨4 + y, rfl, by omega, by omega⟩
            (try simp only [putA, List.setIfInBounds_toArray, List.set_cons_zero, List.set_cons_succ, Option.getD_some])
            refine Det.val ?_ rfl ?_ (Fr.refl _) ?_
            rotate_left
            · intro f w9 hJ
              skip
              go_simp
              with_reducible rfl
            (try simp only [putA, List.setIfInBounds_toArray, List.set_cons_zero, List.set_cons_succ, Option.getD_some])
            refine Det.flo (rI 0 8) rfl rfl (fun _ _ _ h _ => h) ?_ ?_
            · intro f w9 K hJ hR hK
              have HK := Lib.hid hK
              clear hK hR
              go_simp
              go_at_call 56
              refine (cur_below g 9 _ hJ.dn.cur (by omega) (by omega)).mono ?_
              rintro e w10 ⟨x, rfl, h0, h1, cu, fr⟩
              exact HK.out _ _ (hJ.cs fr cu) fr ⟨x, rfl, by omega, by omega⟩
            (try simp only [putA, List.setIfInBounds_toArray, List.set_cons_zero, List.set_cons_succ, Option.getD_some])
            refine Det.flo (rI 8 16) rfl rfl (fun _ _ _ h _ => h) ?_ ?_
            · intro f w9 K hJ hR hK
              obtain ⟨y, hy9, y0, y1⟩ := hR (87, rI 0 8) (by simp [addF, dropF]) (by show (87 : Nat) ∈ _; decide)
              simp only [hy9] at hK
              have HK := Lib.hid hK
              clear hK
              clear hR
              have hwr : IntKind.i64.wrap (8 + y) = 8 + y := IntWalk.i64_in _ (by omega)
              go_simp
              exact HK.out _ _ hJ (Fr.refl _ _) ⟨8 + y, rfl, by omega, by omega⟩
            (try simp only [putA, List.setIfInBounds_toArray, List.set_cons_zero, List.set_cons_succ, Option.getD_some])
            refine Det.val ?_ rfl ?_ (Fr.refl _) ?_
            rotate_left
            · intro f w9 hJ
              skip
              go_simp
              with_reducible rfl
            (try simp only [putA, List.setIfInBounds_toArray, List.set_cons_zero, List.set_cons_succ, Option.getD_some])
            refine Det.flo (rI 0 2) rfl rfl (fun _ _ _ h _ => h) ?_ ?_
            · intro f w9 K hJ hR hK
              have HK := Lib.hid hK
              clear hK hR
              go_simp
              go_at_call 56
              refine (cur_below g 3 _ hJ.dn.cur (by omega) (by omega)).mono ?_
              rintro e w10 ⟨x, rfl, h0, h1, cu, fr⟩
              exact HK.out _ _ (hJ.cs fr cu) fr ⟨x, rfl, by omega, by omega⟩
            (try simp only [putA, List.setIfInBounds_toArray, List.set_cons_zero, List.set_cons_succ, Option.getD_some])
            refine Det.flo (rV) rfl rfl (fun _ _ _ h _ => h) ?_ ?_
            · intro f w9 K hJ hR hK
              obtain ⟨ya, hya, -, -⟩ := hR (85, rI 4 8) (by simp [addF, dropF]) (by show (85 : Nat) ∈ _; decide)
              simp only [hya] at hK
              obtain ⟨yb, hyb, -, -⟩ := hR (88, rI 8 16) (by simp [addF, dropF]) (by show (88 : Nat) ∈ _; decide)
              simp only [hyb] at hK
              obtain ⟨yc, hyc, -, -⟩ := hR (90, rI 0 2) (by simp [addF, dropF]) (by show (90 : Nat) ∈ _; decide)
              simp only [hyc] at hK
              have HK := Lib.hid hK
              clear hK
              clear hR
              skip
              go_simp
              exact HK.out _ _ hJ (Fr.refl _ _) ⟨_, _, _, rfl⟩
            (try simp only [putA, List.setIfInBounds_toArray, List.set_cons_zero, List.set_cons_succ, Option.getD_some])
            refine Det.flo (rN sx) rfl rfl (fun _ _ _ h _ => h) ?_ ?_
            · intro f w9 K hJ hR hK
              obtain ⟨ya, yb, yc, hya⟩ := hR (91, rV) (by simp [addF, dropF]) (by show (91 : Nat) ∈ _; decide)
              simp only [hya] at hK
              have HK := Lib.hid hK
              clear hK
              clear hR
              skip
              go_simp
              exact HK.out _ _ hJ (Fr.refl _ _) ⟨_, _, _, rfl⟩
            (try simp only [putA, List.setIfInBounds_toArray, List.set_cons_zero, List.set_cons_succ, Option.getD_some])
            refine Det.flo (rB sx g) rfl rfl (fun _ _ _ h hf => rB_fr h hf) ?_ ?_
            · intro f w9 K hJ hR hK
              obtain ⟨ya, yb, yc, hya⟩ := hR (92, rN sx) (by simp [addF, dropF]) (by show (92 : Nat) ∈ _; decide)
              simp only [hya] at hK
              have HK := Lib.hid hK
              clear hK
              clear hR
              have hgl9 := hJ.dn.cur.lt
              go_simp
              exact HK.out _ _ (hJ.bel (below_alloc _ _)) ((Fr.refl _ _).alloc _) ⟨_, _, _, _, rfl, heap_at _ rfl, hgl9⟩
            (try simp only [putA, List.setIfInBounds_toArray, List.set_cons_zero, List.set_cons_succ, Option.getD_some])
            refine Det.nil ?_
            intro f w9 hJ hR
            obtain ⟨kk, ya, yb, yc, h93, hb93, hgk⟩ := hR (93, rB sx g) (by simp [addF, dropF])
            clear hR
            simp only [h93]
            clear h93
            have hnl := heap_lt hb93
            have n0 := bx_cell hb93 0 rfl
            have n1 := bx_cell hb93 1 rfl
            have n2 := bx_cell hb93 2 rfl
            have n3 := bx_cell hb93 3 rfl
            have k0 := bx_cell hJ.bx 0 rfl
            have k1 := bx_cell hJ.bx 1 rfl
            have kf := bx_frz hJ.bx
            simp only [List.getElem_toArray, List.getElem_cons_zero, List.getElem_cons_succ] at k0 k1 n0 n1 n2 n3
            have TH := Lib.hid hJ
            clear hJ hb93 TJ H1 H2 H3 T4
            obtain ⟨i0, hi, hz0, hz1, hz2⟩ := info_parts infoNd
            show wpList _ _ _ (_ :: _ :: _ :: []) _ _
            have hlo9 : w.heap.size ≤ w9.heap.size := TH.out.dn.fr.size
            go_wp2_with (at_builtin; refine wpList_append_own _ rfl _ _ 24 rfl (w.heap.size) 103 i0 (.agg #[.int .i64 0, .int .i64 0, .int .i64 0, .int .i64 0]) 4 32 Try.underlying24 hi hz0 hz1 hz2 rfl (by decide) _ _ _ rfl (TH.out.ob) ⟨kk, 0, none⟩ 1 1 [.int .i64 sx, .int .i64 ya, .int .i64 yb, .int .i64 yc] rfl rfl ?cn1 ?cn2 ?cn3 ?cn4 ?cn5 ?_)
            try case cn1 =>
              intro j y hy
              match j, hy with
              | 0, hy => (simp at hy; subst hy; simp [Addr.add, n0, n1, n2, n3])
              | 1, hy => (simp at hy; subst hy; simp [Addr.add, n0, n1, n2, n3])
              | 2, hy => (simp at hy; subst hy; simp [Addr.add, n0, n1, n2, n3])
              | 3, hy => (simp at hy; subst hy; simp [Addr.add, n0, n1, n2, n3])
            try case cn2 => simp [Value.oneCell']
            case cn3 => unfold maxLen; skip; omega
            case cn4 => skip; omega
            try case cn5 => first | omega | (simp <;> omega)
            intro v6 w6 own6 hg6 _
            have T7' := TH.out.dn.put (q := ⟨sx, ya, yb, yc⟩) TH.out.bx TH.out.oa TH.out.ob own6 hg6
            obtain ⟨A7, c7, rfl, rd7⟩ := own_rd own6
            have e6 := bx_grown TH.out.bx hg6 (own_ne TH.out.ob TH.out.bx (by decide))
            have g0 := bx_cell e6 0 rfl
            have g1' := bx_cell e6 1 rfl
            have gf := bx_frz e6
            simp only [List.getElem_toArray, List.getElem_cons_zero, List.getElem_cons_succ] at g0 g1'
            have T7 := Lib.hid T7'
            clear T7' rd7 own6 hi hz0 hz1 hz2 k0 k1 kf n0 n1 n2 n3 hg6 e6 TH
            go_upto_region 21 with fail
            clear g0 g1' gf
            generalize w6.setCell _ _ = w7 at *
            go_wp2
            go_roundw
            case rel => exact ⟨m - 1, ns ++ [⟨sx, ya, yb, yc⟩], by omega, by simp; omega, rfl, T7.out⟩
            case measure => simp [intOf]; omega
          · have hK' : ¬ (K : Int) = 0 := by omega
            go_wp2
            go_roundw
            case rel => exact ⟨m - 1, ns, by omega, by omega, rfl, T4.out⟩
            case measure => simp [intOf]; omega
        · skip
          obtain ⟨A5, c5, B5, d5, h1, h2, h3⟩ := T.out.box.ex
          have hlw := heap_lt h1
          have k0 := bx_cell h1 0 rfl
          have k1 := bx_cell h1 1 rfl
          have kf := bx_frz h1
          simp only [List.getElem_toArray, List.getElem_cons_zero, List.getElem_cons_succ] at k0 k1
          have H1 := Lib.hid h1
          have H2 := Lib.hid h2
          have H3 := Lib.hid h3
          clear h1 h2 h3
          have r0 := bx_cell T.out.res 0 rfl
          have r1 := bx_cell T.out.res 1 rfl
          have rf := bx_frz T.out.res
          simp only [List.getElem_toArray, List.getElem_cons_zero, List.getElem_cons_succ] at r0 r1
          go_wp2
          (try go_light)
          refine bodyPost_ret (v := .agg #[.slice A5 ps.length c5, .slice B5 ns.length d5]) (by simp [results, Try.results55, go_sem, *]) rfl ?_
          refine ⟨A5, B5, c5, d5, ps, ns, rfl, hp1, hp2, by omega, ?_, ?_, ?_, ?_⟩
          · exact own_set (own_set H2.out (own_ne H2.out T.out.res (by decide)) _) (own_ne H2.out T.out.res (by decide)) _
          · exact own_set (own_set H3.out (own_ne H3.out T.out.res (by decide)) _) (own_ne H3.out T.out.res (by decide)) _
          · exact (T.out.cur.set hgw _).set hgw _
          · exact (T.out.fr.setCell (Or.inr (Nat.le_refl _)) _).setCell (Or.inr (Nat.le_refl _)) _
end Go.Proofs.Ytpfcegjomdppmaa
