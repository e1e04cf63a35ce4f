/-
  FnTree: the lowest switch of some nodes has all of them below it and is on the path to the root from each.
-/
import Derived.Test.YtjnfdcojccgfoaaDv
import Derived.Test.YtjnfdcojccgfoaaA13
import Derived.Deep.RegionHeld3
namespace Go.Proofs.Ytjnfdcojccgfoaa
set_option linter.unusedSimpArgs false
set_option linter.unusedVariables false
set_option linter.unnecessarySimpa false
open Go.RowKit
theorem up_last0 {ps : List Int} (h : parOk ps) : ∀ (s : Nat), s < ps.length → (up ps s).getLast? = some 0 := by
  intro s
  induction s using Nat.strongRecOn with
  | _ s ih =>
    intro hs
    by_cases h0 : s = 0
    · subst h0; rw [up_zero]; rfl
    · have hp := par_lt h (s := s) (by omega) hs
      rw [up_pos h (by omega) hs]
      have := ih (par ps s) hp (by omega)
      rw [List.getLast?_cons, this]; rfl
theorem tree_cases (ps : List Int) (ns : List Q) (nd : List Int) : lowestV ps ns nd = -1 ∨ ∃ b : Nat, lowestV ps ns nd = b ∧ topoOkB ps ns = true ∧ b < ps.length ∧ ∀ x ∈ nd, 0 ≤ x ∧ x < ns.length ∧ b ∈ up ps (lfN ns x) := by
  by_cases h : (areB ps ns nd && decide (1 ≤ nd.length)) = true
  · simp only [Bool.and_eq_true, decide_eq_true_eq] at h
    obtain ⟨b, h1, h2, h3, _⟩ := lowest_spec h.1 h.2
    have ha := h.1
    simp only [areB, Bool.and_eq_true] at ha
    exact Or.inr ⟨b, h1, ha.2, h2, fun x hx => ⟨(inNodes_iff.1 ha.1 x hx).1, (inNodes_iff.1 ha.1 x hx).2, h3 x hx⟩⟩
  · left; unfold lowestV; rw [if_neg h]
theorem tree_below {ps : List Int} {ns : List Q} {b y : Nat} (ht : topoOkB ps ns = true) (hb : b < ps.length) (hy : y < ns.length) (hu : b ∈ up ps (lfN ns (y : Int))) : hasZ (belowV ps ns (b : Int)) (y : Int) = true := by
  have hB : hasB ps ns (b : Int) = true := by unfold hasB; rw [ht]; simp; omega
  rw [hasZ_iff]
  unfold belowV
  rw [hB, if_pos rfl]
  unfold preI
  rw [List.mem_map]
  refine ⟨y, ?_, rfl⟩
  unfold belowN
  rw [List.mem_filter]
  exact ⟨List.mem_range.2 hy, by simpa using hu⟩
theorem tree_above {ps : List Int} {ns : List Q} {b l : Nat} (ht : topoOkB ps ns = true) (hl : l < ps.length) (hu : b ∈ up ps l) : hasZ (aboveV ps ns (l : Int)) (b : Int) = true := by
  have hB : hasB ps ns (l : Int) = true := by unfold hasB; rw [ht]; simp; omega
  unfold aboveV
  rw [hB, if_pos rfl, hasZ_up]
  simpa using hu
theorem tree_blen {ps : List Int} {ns : List Q} (h : ns.length ≤ 1048577) (b : Int) (_ _ : Unit) : (belowV ps ns b).length ≤ 1048577 := by
  unfold belowV
  split
  · unfold preI; rw [List.length_map]; have := belowN_len ps ns b.toNat ns.length; omega
  · simp
theorem tree_alen {ps : List Int} {ns : List Q} (h : ps.length ≤ 1048570) (s : Int) (_ : Unit) : (aboveV ps ns s).length ≤ 1048577 := by
  unfold aboveV
  split
  · rename_i hb
    obtain ⟨ht, h0, h1⟩ := hasB_parts hb
    have hp := (topo_parts ht).2.2.2.2.1
    unfold upI
    rw [List.length_map, up_len hp s.toNat (by omega)]
    have := dep_le hp s.toNat (by omega)
    omega
  · simp
theorem tree_end {ps : List Int} {ns : List Q} {b : Nat} (ht : topoOkB ps ns = true) (hb : b < ps.length) : ∃ (dp : Nat) (L0 : Int), (aboveV ps ns (b : Int)).length = dp + 1 ∧ dp ≤ 24 ∧ 0 ≤ L0 ∧ L0 ≤ 24 ∧ (aboveV ps ns (b : Int))[dp]? = some 0 ∧ levelV ps ns 0 = L0 ∧ levelV ps ns (b : Int) = L0 - dp ∧ (dp : Int) ≤ L0 := by
  obtain ⟨h1, h24, _, _, hp, he, _⟩ := topo_parts ht
  have hB : hasB ps ns (b : Int) = true := by unfold hasB; rw [ht]; simp; omega
  have hB0 : hasB ps ns 0 = true := by unfold hasB; rw [ht]; simp; omega
  have hlen := up_len hp b hb
  obtain ⟨e1, e2⟩ := lev_height hp h1 he hb
  obtain ⟨e3, e4⟩ := lev_height hp h1 he (s := 0) (by omega)
  have hd0 : dep ps 0 = 0 := rfl
  have hdl := dep_le hp (ps.length - 1) (by omega)
  have ea : aboveV ps ns (b : Int) = upI ps b := by unfold aboveV; rw [hB]; rfl
  refine ⟨dep ps b, dep ps (ps.length - 1), ?_, by omega, by omega, by omega, ?_, ?_, ?_, by omega⟩
  · rw [ea]; unfold upI; rw [List.length_map, hlen]
  · rw [ea]; unfold upI
    have := up_last0 hp b hb
    rw [List.getLast?_eq_getElem?, hlen] at this
    rw [List.getElem?_map]
    simp only [Nat.add_sub_cancel] at this
    rw [this]; rfl
  · unfold levelV; rw [hB0, if_pos rfl]; show lev ps 0 = _; rw [e3, hd0]; omega
  · unfold levelV; rw [hB, if_pos rfl]; show lev ps b = _; rw [e1]

set_option maxHeartbeats 8000000 in
set_option maxRecDepth 20000 in
theorem law_tree_go (A0 : Option Addr) (n c0 : Nat) (w : World) (hn : n ≤ 1048576) (h : ByIn w A0 n) :
    Calls Try.prog 23 #[.slice A0 n c0] w fun e w' => e = .returned (.bool true) ∧ Below w.heap.size w w' := by
  have HB := Lib.hid h
  have HN := Lib.hid hn
  have hn' : ¬ (1048576 : Int) < n := by omega
  clear h hn
  go_enter Try.func23, Try.ntmps23
  go_wp2_with fail
  refine (drawLowest_any A0 n c0 _ HN.out HB.out).mono ?_
  rintro e w1 ⟨A, B, D, c, d, e9, ps, ns, nd, rfl, hp, hn2, hnd, oa, ob, od, hb1⟩
  have hs1 := hb1.size
  (try simp at hs1)
  have OA := Lib.hid oa
  have OB := Lib.hid ob
  have OD := Lib.hid od
  clear oa ob od
  go_wp2_with fail
  refine (lowest_any A B ps.length c ns.length d ps ns D nd.length e9 nd _ (by omega) (by omega) (own_rdd' (own_bel OA.out (below_alloc _ _))) (own_rdd' (own_bel OB.out (below_alloc _ _))) (own_blk (own_bel OA.out (below_alloc _ _))) (own_blk (own_bel OB.out (below_alloc _ _))) (by omega) (own_rdd' (own_bel OD.out (below_alloc _ _))) (own_blk (own_bel OD.out (below_alloc _ _)))).mono ?_
  rintro e w2 ⟨rfl, hb2⟩
  have hs2 := hb2.size
  (try simp at hs2)
  have hy20 : w1.heap.size < w2.heap.size := by omega
  have hk20 := fun o => hb2.cell (p := ⟨w1.heap.size, o, none⟩) (by first | omega | (simp <;> omega))
  have hg20 := fun o => hb2.frozen (p := ⟨w1.heap.size, o, none⟩) (by first | omega | (simp <;> omega))
  have OA2 := Lib.hid (own_bel (own_bel OA.out (below_alloc _ _)) hb2)
  have OB2 := Lib.hid (own_bel (own_bel OB.out (below_alloc _ _)) hb2)
  have OD2 := Lib.hid (own_bel (own_bel OD.out (below_alloc _ _)) hb2)
  clear OA OB OD
  go_wp2_with fail
  refine (slowest_any A B ps.length c ns.length d ps ns D nd.length e9 nd _ (by omega) (by omega) (own_rdd' (own_bel OA2.out (Below.refl _ _))) (own_rdd' (own_bel OB2.out (Below.refl _ _))) (own_blk (own_bel OA2.out (Below.refl _ _))) (own_blk (own_bel OB2.out (Below.refl _ _))) (by omega) (own_rdd' (own_bel OD2.out (Below.refl _ _))) (own_blk (own_bel OD2.out (Below.refl _ _)))).mono ?_
  rintro e w3 ⟨rfl, hb3⟩
  have hs3 := hb3.size
  (try simp at hs3)
  have hy30 : w1.heap.size < w3.heap.size := by omega
  have hk30 := fun o => hb3.cell (p := ⟨w1.heap.size, o, none⟩) (by first | omega | (simp <;> omega))
  have hg30 := fun o => hb3.frozen (p := ⟨w1.heap.size, o, none⟩) (by first | omega | (simp <;> omega))
  have OA3 := Lib.hid (own_bel OA2.out hb3)
  have OB3 := Lib.hid (own_bel OB2.out hb3)
  have OD3 := Lib.hid (own_bel OD2.out hb3)
  clear OA2 OB2 OD2
  have hcase := tree_cases ps ns nd
  obtain ⟨sv, hsv⟩ : ∃ x, x = lowestV ps ns nd := ⟨_, rfl⟩
  rw [← hsv] at hcase ⊢
  clear hsv
  have B3 := Lib.hid (show Below w.heap.size w w3 from (by repeat (first | exact Below.refl _ _ | assumption | (refine bstep ?_ (below_drewN _ _)) | exact bstep (by assumption) (by assumption) | (refine bstep ?_ (below_alloc _ _)) | (refine bstep ?_ (by assumption)) | (refine Below.setCell ?_ (by simp <;> omega) _) | refine Below.drew ?_)))
  rcases hcase with rfl | ⟨b, rfl, ht, hb, hx⟩
  · go_wp2
    go_ret
    exact ⟨rfl, B3.out⟩
  · have HT := Lib.hid ht
    have HX := Lib.hid hx
    have k0 : w3.cell? ⟨w1.heap.size, 0, none⟩ = some (.slice A ps.length c) := by simp [go_sem, *]
    have k1 : w3.cell? ⟨w1.heap.size, 1, none⟩ = some (.slice B ns.length d) := by simp [go_sem, *]
    have hlk : w1.heap.size < w3.heap.size := by omega
    obtain ⟨k3, hk3⟩ : ∃ k, k = w1.heap.size := ⟨_, rfl⟩
    have hbi : ¬ ((b : Int) < 0) := by omega
    clear ht hx hb1 hb2 hb3 hk20 hg20 hk30 hg30 hy20 hy30
    rw [← hk3] at k0 k1 hlk ⊢
    clear hk3 hs1 hs2 hs3
    go_wp2
    go_loopw [31] (fun i wr => ∃ k : Nat, k ≤ nd.length ∧ i = .int .i64 k ∧ Below w3.heap.size w3 wr) (fun i _ => nd.length - (intOf i).toNat)
    case atStart => exact ⟨0, Nat.zero_le _, rfl, Below.refl _ _⟩
    case round =>
      obtain ⟨k, hk, rfl, hbw⟩ := hrel
      have HBW := Lib.hid hbw
      have OAr := Lib.hid (own_bel OA3.out hbw)
      have OBr := Lib.hid (own_bel OB3.out hbw)
      have ODr := Lib.hid (own_bel OD3.out hbw)
      have k0r := (hbw.cell (p := ⟨k3, 0, none⟩) hlk).trans k0
      have k1r := (hbw.cell (p := ⟨k3, 1, none⟩) hlk).trans k1
      have hlr : k3 < wr.heap.size := Nat.lt_of_lt_of_le hlk hbw.size
      clear hbw k0 k1 OA3 OB3 OD3
      by_cases hlt : k < nd.length
      · have hlt' : (k : Int) < nd.length := by omega
        obtain ⟨g1, x, rfl, hx, cx⟩ := Rd.int (own_rdd' ODr.out) hlt
        have hg1 := own_blk ODr.out g1 rfl
        obtain ⟨x0, x1, x2⟩ := HX.out x (List.mem_of_getElem? hx)
        clear hx
        obtain ⟨y, rfl⟩ : ∃ y : Nat, x = y := ⟨x.toNat, by omega⟩
        have hy : y < ns.length := by omega
        have hy' : (y : Int) < ns.length := by omega
        have hy0 : (0 : Int) ≤ y := by omega
        obtain ⟨g2, q, rfl, hq, d0, d1, d2, d3⟩ := Rd.q (own_rdd' OBr.out) hy
        have hg2 := own_blk OBr.out g2 rfl
        obtain ⟨hl1, _, q', hq', hqt, _⟩ := lfN_ok HT.out x0 x1
        have hqq : q' = q := by
          have h8 : ns[y]? = some q' := by simpa using hq'
          rw [hq] at h8; exact (Option.some.inj h8).symm
        subst hqq
        have HQT := Lib.hid hqt
        have HZ1 := Lib.hid (tree_below HT.out hb hy x2)
        have HZ2 : Hid (hasZ (aboveV ps ns q'.t) (b : Int) = true) := Lib.hid (by rw [hqt]; exact tree_above HT.out hl1 x2)
        clear x0 x1 x2 hq hq' hqt hl1 d1 d2 d3
        go_wp2_with fail
        clear cx hg1
        go_region_held3 (fun w' => w'.cell? ⟨k3, 0, none⟩ = some (.slice A ps.length c) ∧ w'.cell? ⟨k3, 1, none⟩ = some (.slice (some ⟨g2, 0, none⟩) ns.length d) ∧ w'.cell? ⟨g2, y * 4, none⟩ = some (.int .i64 q'.t)) (simp [go_sem, *, World.cell?_alloc_some, World.cell?_setCell_far, Nat.lt_add_right, Nat.ne_of_gt]) (first | (go_at_call 85; (with_reducible refine (Below_any A (some ⟨g2, 0, none⟩) ps.length c ns.length d ps ns (b : Int) _ (by omega) (by omega) (own_rdd' (own_bel OAr.out ((Below.refl wr.heap.size wr).drew))) (own_rdd' (own_bel OBr.out ((Below.refl wr.heap.size wr).drew))) (own_blk (own_bel OAr.out ((Below.refl wr.heap.size wr).drew))) (own_blk (own_bel OBr.out ((Below.refl wr.heap.size wr).drew)))).mono ?_); rintro e w21 ⟨v21, rfl, own21, hb21⟩; have hs21 := hb21.size; (try simp at hs21); have hy210 : k3 < w21.heap.size := (by omega); have hk210 := fun o => hb21.cell (p := ⟨k3, o, none⟩) (by first | omega | (simp <;> omega)); have hy211 : g2 < w21.heap.size := (by omega); have hk211 := fun o => hb21.cell (p := ⟨g2, o, none⟩) (by first | omega | (simp <;> omega)); have BW21 : Below wr.heap.size wr w21 := bstep ((Below.refl _ _).drew) hb21; obtain ⟨V1, d21, rfl, r21⟩ := own_rd own21; have hl21 : (belowV ps ns (b : Int)).length ≤ 1048577 := tree_blen (by omega) _ () (); clear own21; have R21 := Lib.hid r21; clear r21) | (go_at_call 91; (with_reducible refine (lhas_any V1 _ d21 (belowV ps ns (b : Int)) (y : Int) _ hl21 (by first | exact R21.out | exact R21.out.drewN _)).mono ?_); rintro e w22 ⟨rfl, rfl⟩; rw [HZ1.out]) | (go_at_call 80; (with_reducible refine (Above_any A (some ⟨g2, 0, none⟩) ps.length c ns.length d ps ns q'.t _ (by omega) (by omega) (own_rdd' (own_bel OAr.out BW21)) (own_rdd' (own_bel OBr.out BW21)) (own_blk (own_bel OAr.out BW21)) (own_blk (own_bel OBr.out BW21))).mono ?_); rintro e w23 ⟨v23, rfl, own23, hb23⟩; have hs23 := hb23.size; (try simp at hs23); have hy230 : k3 < w23.heap.size := (by omega); have hk230 := fun o => hb23.cell (p := ⟨k3, o, none⟩) (by first | omega | (simp <;> omega)); have hy231 : g2 < w23.heap.size := (by omega); have hk231 := fun o => hb23.cell (p := ⟨g2, o, none⟩) (by first | omega | (simp <;> omega)); have BW23 := bstep BW21 hb23; obtain ⟨V2, d23, rfl, r23⟩ := own_rd own23; have hl23 : (aboveV ps ns q'.t).length ≤ 1048577 := tree_alen (by omega) _ (); clear own23; have R23 := Lib.hid r23; clear r23) | (go_at_call 91; (with_reducible refine (lhas_any V2 _ d23 (aboveV ps ns q'.t) (b : Int) _ hl23 R23.out).mono ?_); rintro e w24 ⟨rfl, rfl⟩; rw [HZ2.out]))
        all_goals go_wp2
        all_goals go_roundw
        case rel => exact ⟨k + 1, by omega, by go_num, bstep HBW.out BW23⟩
        case measure => simp [intOf]; omega
      · have hlt' : ¬ (k : Int) < nd.length := by omega
        have Br := Lib.hid (bstep B3.out HBW.out)
        clear HBW
        go_wp2_with fail
        refine (Above_any A B ps.length c ns.length d ps ns (b : Int) _ (by omega) (by omega) (own_rdd' (own_bel OAr.out (Below.refl _ _))) (own_rdd' (own_bel OBr.out (Below.refl _ _))) (own_blk (own_bel OAr.out (Below.refl _ _))) (own_blk (own_bel OBr.out (Below.refl _ _)))).mono ?_
        rintro e w4 ⟨v4, rfl, own4, hb4⟩
        obtain ⟨U, cu, rfl, ru⟩ := own_rd own4
        clear ru
        obtain ⟨dp, L0, t1, t2, t3, t4, t5, t6, t7, t8⟩ := tree_end HT.out hb
        rw [t1] at own4 ⊢
        obtain ⟨gU, z, rfl, hz, cz⟩ := Rd.int (own_rdd' own4) (k := dp) (by omega)
        have hz0 : z = 0 := by rw [t5] at hz; exact (Option.some.inj hz).symm
        subst hz0
        have hgU := own_blk own4 gU rfl
        have HL0 := Lib.hid t6
        have HLb := Lib.hid t7
        have OA4 := Lib.hid (own_bel OAr.out hb4)
        have OB4 := Lib.hid (own_bel OBr.out hb4)
        have B4 := Lib.hid (bstep Br.out hb4)
        have k04 := (hb4.cell (p := ⟨k3, 0, none⟩) hlr).trans k0r
        have k14 := (hb4.cell (p := ⟨k3, 1, none⟩) hlr).trans k1r
        have hl4 : k3 < w4.heap.size := Nat.lt_of_lt_of_le hlr hb4.size
        clear t1 t5 t6 t7 hz own4 hb4 OAr OBr Br k0r k1r hlr
        have hm1 : (dp : Int) < (dp : Int) + 1 := by omega
        have hm2 : (0 : Int) < (dp : Int) + 1 := by omega
        have hm4 : IntKind.i64.wrap ((dp : Int) + 1 - 1) = (dp : Int) := by rw [IntWalk.i64_in _ (by omega)]; omega
        have hm6 : IntKind.i64.wrap (L0 - (L0 - (dp : Int))) = (dp : Int) := by rw [IntWalk.i64_in _ (by omega)]; omega
        have hm7 : (0 : Int) ≤ (dp : Int) := by omega
        have hm8 : dp < dp + 1 := by omega
        have hm10 : IntKind.i64.wrap (dp : Int) = (dp : Int) := IntWalk.i64_in _ (by omega)
        have hm11 : IntKind.i64.wrap (((dp + 1 : Nat) : Int) - 1) = (dp : Int) := by rw [IntWalk.i64_in _ (by omega)]; omega
        go_wp2_with fail
        go_region_held3 (fun w' => w'.cell? ⟨k3, 0, none⟩ = some (.slice A ps.length c) ∧ w'.cell? ⟨k3, 1, none⟩ = some (.slice B ns.length d) ∧ w'.cell? ⟨gU, dp, none⟩ = some (.int .i64 0)) (simp [go_sem, *, World.cell?_alloc_some, World.cell?_setCell_far, Nat.lt_add_right, Nat.ne_of_gt]) (first | (go_at_call 73; (with_reducible refine (Level_any A B ps.length c ns.length d ps ns 0 _ (by omega) (by omega) (own_rdd' (own_bel OA4.out ((Below.refl w4.heap.size w4).drew))) (own_rdd' (own_bel OB4.out ((Below.refl w4.heap.size w4).drew))) (own_blk (own_bel OA4.out ((Below.refl w4.heap.size w4).drew))) (own_blk (own_bel OB4.out ((Below.refl w4.heap.size w4).drew)))).mono ?_); rintro e w31 ⟨rfl, hb31⟩; have hs31 := hb31.size; (try simp at hs31); have hy310 : k3 < w31.heap.size := (by omega); have hk310 := fun o => hb31.cell (p := ⟨k3, o, none⟩) (by first | omega | (simp <;> omega)); have hy311 : gU < w31.heap.size := (by omega); have hk311 := fun o => hb31.cell (p := ⟨gU, o, none⟩) (by first | omega | (simp <;> omega)); have BW31 : Below w4.heap.size w4 w31 := bstep ((Below.refl _ _).drew) hb31; rw [HL0.out]) | (go_at_call 73; (with_reducible refine (Level_any A B ps.length c ns.length d ps ns (b : Int) _ (by omega) (by omega) (own_rdd' (own_bel OA4.out BW31)) (own_rdd' (own_bel OB4.out BW31)) (own_blk (own_bel OA4.out BW31)) (own_blk (own_bel OB4.out BW31))).mono ?_); rintro e w32 ⟨rfl, hb32⟩; have hs32 := hb32.size; (try simp at hs32); have hy320 : k3 < w32.heap.size := (by omega); have hk320 := fun o => hb32.cell (p := ⟨k3, o, none⟩) (by first | omega | (simp <;> omega)); have hy321 : gU < w32.heap.size := (by omega); have hk321 := fun o => hb32.cell (p := ⟨gU, o, none⟩) (by first | omega | (simp <;> omega)); have BW32 := bstep BW31 hb32; rw [HLb.out]))
        all_goals go_wp2
        all_goals go_ret
        all_goals exact ⟨rfl, bstep B4.out (by repeat (first | exact Below.refl _ _ | assumption | (refine bstep ?_ (below_drewN _ _)) | exact bstep (by assumption) (by assumption) | (refine bstep ?_ (below_alloc _ _)) | (refine bstep ?_ (by assumption)) | (refine Below.setCell ?_ (by simp <;> omega) _) | refine Below.drew ?_))⟩
theorem law_tree (A : Option Addr) (n c : Nat) (w : World) (hn : n ≤ maxLen) (h : ByIn w A n) :
    Calls Try.prog 23 #[.slice A n c] w fun e w' => e = .returned (.bool true) ∧ Below w.heap.size w w' := by
  by_cases hs : n ≤ 1048576
  · exact law_tree_go A n c w hs h
  · have hs' : (1048576 : Int) < n := by omega
    unfold maxLen at hn
    go_enter Try.func23, Try.ntmps23
    go_wp2
    go_ret
    exact ⟨rfl, Below.refl _ _⟩
end Go.Proofs.Ytjnfdcojccgfoaa
