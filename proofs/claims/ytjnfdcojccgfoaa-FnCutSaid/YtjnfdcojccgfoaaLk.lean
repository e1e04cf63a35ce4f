/-
  FnCut: a cut profile is unchanged from the cut on.
-/
import Derived.Test.YtjnfdcojccgfoaaDr
import Derived.Test.YtjnfdcojccgfoaaPj
import Derived.Test.YtjnfdcojccgfoaaA3
import Derived.Test.YtjnfdcojccgfoaaA12
import Derived.Test.YtjnfdcojccgfoaaQf
import Derived.Deep.RegionHeld3
namespace Go.Proofs.Ytjnfdcojccgfoaa
set_option linter.unusedSimpArgs false
set_option linter.unusedVariables false
set_option linter.unnecessarySimpa false
open Go.RowKit
theorem own_pt {ps : List Q} (h : profOkB ps = true) {x : Q} (hx : x ∈ ps) : freeV x.t ps = x.v := by
  have hn := profOk_norm h
  obtain ⟨q, hq, h1, h2, h3⟩ := last_at (t := x.t) hn ⟨x, hx, Int.le_refl _⟩
  have h4 := h3 x hx (Int.le_refl _)
  have : q = x := by
    have he : q.t = x.t := by omega
    obtain ⟨i, hi, rfl⟩ := List.getElem_of_mem hq
    obtain ⟨j, hj, rfl⟩ := List.getElem_of_mem hx
    have hp := (profOk_parts h).2.2.2.2
    rw [List.pairwise_iff_getElem] at hp
    have hij : i = j := by
      rcases Nat.lt_trichotomy i j with hl | hl | hl
      · have := hp i j hi hj hl; omega
      · exact hl
      · have := hp j i hj hi hl; omega
    subst hij; rfl
  rw [h2, this]
theorem cut_no {ps : List Q} {t : Int} (h : (profOkB ps && timeB t) = false) : CutV t ps = [] ∧ profOkB (CutV t ps) = false := by
  have e : CutV t ps = [] := by unfold CutV; rw [h]; rfl
  exact ⟨e, by rw [e]; decide⟩
theorem cut_yes {ps : List Q} {t : Int} (hp : profOkB ps = true) (ht : timeB t = true) : profOkB (CutV t ps) = true ∧ (CutV t ps).length ≤ ps.length ∧ (∀ x ∈ ps, t ≤ x.t → atV x.t (CutV t ps) = x.v) ∧ atV 0 (CutV t ps) = atV t ps ∧ CutV t (CutV t ps) = CutV t ps := by
  have e : CutV t ps = cutV t ps := by unfold CutV; rw [hp, ht]; rfl
  have hc := cut_ok hp ht
  have ht' := ht
  simp [timeB, inB] at ht'
  have e0 : timeB 0 = true := by decide
  rw [e]
  refine ⟨hc, cut_len hp ht, ?_, ?_, ?_⟩
  · intro x hx hle
    have hq := (profOk_parts hp).2.2.2.1 x hx
    have hxt : timeB x.t = true := by unfold Q.ok at hq; simp only [Bool.and_eq_true] at hq; exact hq.1
    have hx' := hxt
    simp [timeB, inB] at hx'
    unfold atV
    rw [hc, hxt]
    simp only [Bool.and_self, if_true]
    rw [cut_free hp ht'.1 hx'.1, if_pos hle, own_pt hp hx]
  · unfold atV
    rw [hc, hp, ht, e0]
    simp only [Bool.and_self, if_true]
    rw [cut_free hp ht'.1 (Int.le_refl 0)]
    by_cases h0 : t ≤ 0
    · rw [if_pos h0]
      have : t = 0 := by omega
      rw [this]
    · rw [if_neg h0]
  · unfold CutV
    rw [hc, ht]
    simp only [Bool.and_self, if_true]
    exact cut_cut hp ht'.1
theorem same_self {ps : List Q} (h : profOkB ps = true) : sameB ps ps = true := by
  unfold sameB; rw [h]
  have : eqL ps ps = true := eqL_self ps
  rw [this]; rfl
theorem tms_len {ps : List Q} (h : profOkB ps = true) : (tmsV ps).length = ps.length := by unfold tmsV; rw [h]; simp

set_option maxHeartbeats 8000000 in
set_option maxRecDepth 20000 in
theorem law_cut_go (A0 : Option Addr) (n c0 : Nat) (w : World) (hn : n ≤ 1048576) (h : ByIn w A0 n) :
    Calls Try.prog 21 #[.slice A0 n c0] w fun e w' => e = .returned (.bool true) ∧ Below w.heap.size w w' := by
  have HB := Lib.hid h
  have HN := Lib.hid hn
  have hn' : ¬ (1048576 : Int) < n := by omega
  clear h hn
  go_enter Try.func21, Try.ntmps21
  go_wp2_with fail
  refine (drawProfCut_any A0 n c0 _ HN.out HB.out).mono ?_
  rintro e w1 ⟨A, c, ps, t, rfl, hp, i1, oa, hb1⟩
  have hs1 := hb1.size
  (try simp at hs1)
  have OA1 := Lib.hid (own_bel oa (below_alloc w1 (.cells #[.slice A ps.length c] 35)))
  clear oa
  obtain ⟨l0, l1⟩ := i1
  go_wp2_with fail
  refine (profCut_any A ps.length c ps t _ (by omega) (own_rdd' OA1.out) (own_blk OA1.out)).mono ?_
  rintro e w2 ⟨u2, rfl, own2, hb2⟩
  have hs2 := hb2.size
  (try simp at hs2)
  have hy20 : w1.heap.size < w2.heap.size := by omega
  have hk20 := fun o => hb2.cell (p := ⟨w1.heap.size, o, none⟩) (by first | omega | (simp <;> omega))
  have hg20 := fun o => hb2.frozen (p := ⟨w1.heap.size, o, none⟩) (by first | omega | (simp <;> omega))
  have hcase : (profOkB ps && timeB t) = false ∧ CutV t ps = [] ∧ profOkB (CutV t ps) = false ∨ profOkB ps = true ∧ timeB t = true := by
    cases hk : (profOkB ps && timeB t)
    · exact Or.inl ⟨rfl, cut_no hk⟩
    · simp only [Bool.and_eq_true] at hk; exact Or.inr hk
  obtain ⟨qs, hqs⟩ : ∃ q, q = CutV t ps := ⟨_, rfl⟩
  have HCY := Lib.hid (fun (a : profOkB ps = true) (b : timeB t = true) => cut_yes a b)
  rw [← hqs] at own2 hcase HCY
  clear hqs
  obtain ⟨U, cu, rfl, ru⟩ := own_rd own2
  clear ru
  have OA2 := Lib.hid (own_bel (own_bel OA1.out hb2) (below_alloc w2 (.cells #[.slice U qs.length cu] 35)))
  have OU2 := Lib.hid (own_bel own2 (below_alloc w2 (.cells #[.slice U qs.length cu] 35)))
  have HBB : Hid (Below w.heap.size w (w2.alloc (.cells #[.slice U qs.length cu] 35))) := Lib.hid (by repeat (first | exact Below.refl _ _ | assumption | (refine bstep ?_ (below_drewN _ _)) | exact bstep (by assumption) (by assumption) | (refine bstep ?_ (below_alloc _ _)) | (refine bstep ?_ (by assumption)) | (refine Below.setCell ?_ (by simp <;> omega) _) | refine Below.drew ?_))
  have z3 : (w2.alloc (.cells #[.slice U qs.length cu] 35)).cell? ⟨w1.heap.size, 0, none⟩ = some (.slice A ps.length c) := by simp [go_sem, *]
  have z5 : (w2.alloc (.cells #[.slice U qs.length cu] 35)).cell? ⟨w2.heap.size, 0, none⟩ = some (.slice U qs.length cu) := by simp [go_sem]
  have hz3 : w1.heap.size < (w2.alloc (.cells #[.slice U qs.length cu] 35)).heap.size := by simp; omega
  have hz5 : w2.heap.size < (w2.alloc (.cells #[.slice U qs.length cu] 35)).heap.size := by simp
  clear own2 OA1 hb1 hb2 hk20 hg20 hy20
  go_upto_region 5 with fail
  generalize w2.alloc (.cells #[.slice U qs.length cu] 35) = w3 at *
  generalize hg3 : w1.heap.size = k3 at *
  generalize hg5 : w2.heap.size = k5 at *
  clear hg3 hg5 hs1 hs2
  rcases hcase with ⟨hk, hE, hQ⟩ | ⟨hP, hT⟩
  · have HQ := Lib.hid hQ
    clear hQ
    have HQL := Lib.hid (show qs.length = 0 by rw [hE]; rfl)
    have hql9 : qs.length ≤ 12 := by rw [hE]; simp
    clear hE
    cases hP : profOkB ps
    · have HPO := Lib.hid hP
      clear hP hk
      refine wp_region_below (by kernel_rfl) (by kernel_rfl) (fun W hW => ?_)
      have X3 : W.cell? ⟨k3, 0, none⟩ = some (.slice A ps.length c) := by rw [hW]; exact z3
      have X5 : W.cell? ⟨k5, 0, none⟩ = some (.slice U qs.length cu) := by rw [hW]; exact z5
      have WS3 : k3 < W.heap.size := by rw [hW]; exact hz3
      have WS5 : k5 < W.heap.size := by rw [hW]; exact hz5
      have OAW : Hid (W.ownsRow w.heap.size 97 4 (.slice A ps.length c) ps.length (flat ps)) := Lib.hid (by rw [hW]; exact own_bel OA2.out (Below.drew (Below.refl _ _)))
      have OUW := Lib.hid (show W.ownsRow _ 97 4 (.slice U qs.length cu) qs.length (flat qs) from by rw [hW]; exact own_bel OU2.out (Below.drew (Below.refl _ _)))
      have WB : Hid (Below w.heap.size w W) := Lib.hid (by rw [hW]; exact HBB.out.drew)
      clear hW OA2 OU2 HBB z3 z5 hz3 hz5
      show Det0 _ _ _ _ _ (_ :: _) _
      ((try dsimp only); repeat (first | (refine Det0.skip ?_ ?_; (focus (rfl; done)); (try simp only [putA, List.setIfInBounds_toArray, List.set_cons_zero, List.set_cons_succ])) | (refine Det0.pure ?_ ?_ ?_ ?_; rotate_left; (focus (rfl; done)); (focus ((intro w9 hJ); (have hk0 := fun o => hJ.cell (p := ⟨k3, o, none⟩) WS3; have hk1 := fun o => hJ.cell (p := ⟨k5, o, none⟩) WS5); go_simp; (first | with_reducible rfl | exact eq_if3 | exact neq_if3 | skip); done)); (try simp only [putA, List.setIfInBounds_toArray, List.set_cons_zero, List.set_cons_succ])) | (refine Det0.step ?_ ?_ ?_ ?_; rotate_left; (focus (rfl; done)); (focus ((intro w9 K hJ hK); (have hk0 := fun o => hJ.cell (p := ⟨k3, o, none⟩) WS3; have hk1 := fun o => hJ.cell (p := ⟨k5, o, none⟩) WS5); go_simp; (first | (go_at_call 32; refine (profOk_any U qs.length cu qs _ (by omega) (own_rdd' (own_bel OUW.out hJ)) (own_blk (own_bel OUW.out hJ))).mono ?_; rintro e w8 ⟨rfl, hb8⟩; rw [HQ.out]; exact hK.out _ (bstep hJ hb8)) | (go_at_call 30; refine (sprofOk_any A ps.length c ps _ (by omega) (own_rdd' (own_bel OAW.out hJ)) (own_blk (own_bel OAW.out hJ))).mono ?_; rintro e w8 ⟨rfl, hb8⟩; rw [HPO.out]; exact hK.out _ (bstep hJ hb8))); done)); (try simp only [putA, List.setIfInBounds_toArray, List.set_cons_zero, List.set_cons_succ]))))
      refine Det0.nil (fun w9 hJ => ?_)
      have k30 := (hJ.cell (p := ⟨k3, 0, none⟩) WS3).trans X3
      have k50 := (hJ.cell (p := ⟨k5, 0, none⟩) WS5).trans X5
      have hz3 : k3 < w9.heap.size := Nat.lt_of_lt_of_le WS3 hJ.size
      have hz5 : k5 < w9.heap.size := Nat.lt_of_lt_of_le WS5 hJ.size
      have OA9 := Lib.hid (own_bel OAW.out hJ)
      have OU9 := Lib.hid (own_bel OUW.out hJ)
      have B9 := Lib.hid (bstep WB.out hJ)
      clear X3 X5 WS3 WS5 OAW OUW WB hJ
      go_wp2_with fail
      refine (profOk_any U qs.length cu qs _ (by omega) (own_rdd' OU9.out) (own_blk OU9.out)).mono ?_
      rintro e w10 ⟨rfl, hb10⟩
      rw [HQ.out]
      have k50' := (hb10.cell (p := ⟨k5, 0, none⟩) hz5).trans k50
      rw [HQL.out] at k50'
      go_wp2
      go_ret
      exact ⟨rfl, bstep B9.out hb10⟩
    · have HPO := Lib.hid hP
      have hT : timeB t = false := by rw [hP] at hk; exact hk
      clear hP hk
      have ht : t < 0 ∨ 1000000000 < t := by simp [timeB, inB] at hT; omega
      clear hT
      by_cases h0 : t < 0
      · have h0' : ¬ (0 ≤ t) := by omega
        clear ht
        refine wp_region_below (by kernel_rfl) (by kernel_rfl) (fun W hW => ?_)
        have X3 : W.cell? ⟨k3, 0, none⟩ = some (.slice A ps.length c) := by rw [hW]; exact z3
        have X5 : W.cell? ⟨k5, 0, none⟩ = some (.slice U qs.length cu) := by rw [hW]; exact z5
        have WS3 : k3 < W.heap.size := by rw [hW]; exact hz3
        have WS5 : k5 < W.heap.size := by rw [hW]; exact hz5
        have OAW : Hid (W.ownsRow w.heap.size 97 4 (.slice A ps.length c) ps.length (flat ps)) := Lib.hid (by rw [hW]; exact own_bel OA2.out (Below.drew (Below.refl _ _)))
        have OUW := Lib.hid (show W.ownsRow _ 97 4 (.slice U qs.length cu) qs.length (flat qs) from by rw [hW]; exact own_bel OU2.out (Below.drew (Below.refl _ _)))
        have WB : Hid (Below w.heap.size w W) := Lib.hid (by rw [hW]; exact HBB.out.drew)
        clear hW OA2 OU2 HBB z3 z5 hz3 hz5
        show Det0 _ _ _ _ _ (_ :: _) _
        ((try dsimp only); repeat (first | (refine Det0.skip ?_ ?_; (focus (rfl; done)); (try simp only [putA, List.setIfInBounds_toArray, List.set_cons_zero, List.set_cons_succ])) | (refine Det0.pure ?_ ?_ ?_ ?_; rotate_left; (focus (rfl; done)); (focus ((intro w9 hJ); (have hk0 := fun o => hJ.cell (p := ⟨k3, o, none⟩) WS3; have hk1 := fun o => hJ.cell (p := ⟨k5, o, none⟩) WS5); go_simp; (first | with_reducible rfl | exact eq_if3 | exact neq_if3 | skip); done)); (try simp only [putA, List.setIfInBounds_toArray, List.set_cons_zero, List.set_cons_succ])) | (refine Det0.step ?_ ?_ ?_ ?_; rotate_left; (focus (rfl; done)); (focus ((intro w9 K hJ hK); (have hk0 := fun o => hJ.cell (p := ⟨k3, o, none⟩) WS3; have hk1 := fun o => hJ.cell (p := ⟨k5, o, none⟩) WS5); go_simp; (first | (go_at_call 32; refine (profOk_any U qs.length cu qs _ (by omega) (own_rdd' (own_bel OUW.out hJ)) (own_blk (own_bel OUW.out hJ))).mono ?_; rintro e w8 ⟨rfl, hb8⟩; rw [HQ.out]; exact hK.out _ (bstep hJ hb8)) | (go_at_call 30; refine (sprofOk_any A ps.length c ps _ (by omega) (own_rdd' (own_bel OAW.out hJ)) (own_blk (own_bel OAW.out hJ))).mono ?_; rintro e w8 ⟨rfl, hb8⟩; rw [HPO.out]; exact hK.out _ (bstep hJ hb8))); done)); (try simp only [putA, List.setIfInBounds_toArray, List.set_cons_zero, List.set_cons_succ]))))
        refine Det0.nil (fun w9 hJ => ?_)
        have k30 := (hJ.cell (p := ⟨k3, 0, none⟩) WS3).trans X3
        have k50 := (hJ.cell (p := ⟨k5, 0, none⟩) WS5).trans X5
        have hz3 : k3 < w9.heap.size := Nat.lt_of_lt_of_le WS3 hJ.size
        have hz5 : k5 < w9.heap.size := Nat.lt_of_lt_of_le WS5 hJ.size
        have OA9 := Lib.hid (own_bel OAW.out hJ)
        have OU9 := Lib.hid (own_bel OUW.out hJ)
        have B9 := Lib.hid (bstep WB.out hJ)
        clear X3 X5 WS3 WS5 OAW OUW WB hJ
        go_wp2_with fail
        refine (profOk_any U qs.length cu qs _ (by omega) (own_rdd' OU9.out) (own_blk OU9.out)).mono ?_
        rintro e w10 ⟨rfl, hb10⟩
        rw [HQ.out]
        have k50' := (hb10.cell (p := ⟨k5, 0, none⟩) hz5).trans k50
        rw [HQL.out] at k50'
        go_wp2
        go_ret
        exact ⟨rfl, bstep B9.out hb10⟩
      · have h0' : 0 ≤ t := by omega
        have h1' : ¬ (t ≤ 1000000000) := by omega
        clear ht
        refine wp_region_below (by kernel_rfl) (by kernel_rfl) (fun W hW => ?_)
        have X3 : W.cell? ⟨k3, 0, none⟩ = some (.slice A ps.length c) := by rw [hW]; exact z3
        have X5 : W.cell? ⟨k5, 0, none⟩ = some (.slice U qs.length cu) := by rw [hW]; exact z5
        have WS3 : k3 < W.heap.size := by rw [hW]; exact hz3
        have WS5 : k5 < W.heap.size := by rw [hW]; exact hz5
        have OAW : Hid (W.ownsRow w.heap.size 97 4 (.slice A ps.length c) ps.length (flat ps)) := Lib.hid (by rw [hW]; exact own_bel OA2.out (Below.drew (Below.refl _ _)))
        have OUW := Lib.hid (show W.ownsRow _ 97 4 (.slice U qs.length cu) qs.length (flat qs) from by rw [hW]; exact own_bel OU2.out (Below.drew (Below.refl _ _)))
        have WB : Hid (Below w.heap.size w W) := Lib.hid (by rw [hW]; exact HBB.out.drew)
        clear hW OA2 OU2 HBB z3 z5 hz3 hz5
        show Det0 _ _ _ _ _ (_ :: _) _
        ((try dsimp only); repeat (first | (refine Det0.skip ?_ ?_; (focus (rfl; done)); (try simp only [putA, List.setIfInBounds_toArray, List.set_cons_zero, List.set_cons_succ])) | (refine Det0.pure ?_ ?_ ?_ ?_; rotate_left; (focus (rfl; done)); (focus ((intro w9 hJ); (have hk0 := fun o => hJ.cell (p := ⟨k3, o, none⟩) WS3; have hk1 := fun o => hJ.cell (p := ⟨k5, o, none⟩) WS5); go_simp; (first | with_reducible rfl | exact eq_if3 | exact neq_if3 | skip); done)); (try simp only [putA, List.setIfInBounds_toArray, List.set_cons_zero, List.set_cons_succ])) | (refine Det0.step ?_ ?_ ?_ ?_; rotate_left; (focus (rfl; done)); (focus ((intro w9 K hJ hK); (have hk0 := fun o => hJ.cell (p := ⟨k3, o, none⟩) WS3; have hk1 := fun o => hJ.cell (p := ⟨k5, o, none⟩) WS5); go_simp; (first | (go_at_call 32; refine (profOk_any U qs.length cu qs _ (by omega) (own_rdd' (own_bel OUW.out hJ)) (own_blk (own_bel OUW.out hJ))).mono ?_; rintro e w8 ⟨rfl, hb8⟩; rw [HQ.out]; exact hK.out _ (bstep hJ hb8)) | (go_at_call 30; refine (sprofOk_any A ps.length c ps _ (by omega) (own_rdd' (own_bel OAW.out hJ)) (own_blk (own_bel OAW.out hJ))).mono ?_; rintro e w8 ⟨rfl, hb8⟩; rw [HPO.out]; exact hK.out _ (bstep hJ hb8))); done)); (try simp only [putA, List.setIfInBounds_toArray, List.set_cons_zero, List.set_cons_succ]))))
        refine Det0.nil (fun w9 hJ => ?_)
        have k30 := (hJ.cell (p := ⟨k3, 0, none⟩) WS3).trans X3
        have k50 := (hJ.cell (p := ⟨k5, 0, none⟩) WS5).trans X5
        have hz3 : k3 < w9.heap.size := Nat.lt_of_lt_of_le WS3 hJ.size
        have hz5 : k5 < w9.heap.size := Nat.lt_of_lt_of_le WS5 hJ.size
        have OA9 := Lib.hid (own_bel OAW.out hJ)
        have OU9 := Lib.hid (own_bel OUW.out hJ)
        have B9 := Lib.hid (bstep WB.out hJ)
        clear X3 X5 WS3 WS5 OAW OUW WB hJ
        go_wp2_with fail
        refine (profOk_any U qs.length cu qs _ (by omega) (own_rdd' OU9.out) (own_blk OU9.out)).mono ?_
        rintro e w10 ⟨rfl, hb10⟩
        rw [HQ.out]
        have k50' := (hb10.cell (p := ⟨k5, 0, none⟩) hz5).trans k50
        rw [HQL.out] at k50'
        go_wp2
        go_ret
        exact ⟨rfl, bstep B9.out hb10⟩
  · obtain ⟨c1, c2, c3, c4, c5⟩ := HCY.out hP hT
    have HQ := Lib.hid c1
    have HPO := Lib.hid hP
    have ht : 0 ≤ t ∧ t ≤ 1000000000 := by simp [timeB, inB] at hT; omega
    obtain ⟨h0', h1'⟩ := ht
    have C2 := Lib.hid c2
    have C3 := Lib.hid c3
    have C4 := Lib.hid c4
    have C5 := Lib.hid c5
    have HT1 := Lib.hid (tms_len hP)
    have HT2 := Lib.hid (tms_len c1)
    have HSS := Lib.hid (same_self c1)
    have hc2 := c2
    clear c1 c2 c3 c4 c5 hP hT HCY
    refine wp_region_below (by kernel_rfl) (by kernel_rfl) (fun W hW => ?_)
    have X3 : W.cell? ⟨k3, 0, none⟩ = some (.slice A ps.length c) := by rw [hW]; exact z3
    have X5 : W.cell? ⟨k5, 0, none⟩ = some (.slice U qs.length cu) := by rw [hW]; exact z5
    have WS3 : k3 < W.heap.size := by rw [hW]; exact hz3
    have WS5 : k5 < W.heap.size := by rw [hW]; exact hz5
    have OAW : Hid (W.ownsRow w.heap.size 97 4 (.slice A ps.length c) ps.length (flat ps)) := Lib.hid (by rw [hW]; exact own_bel OA2.out (Below.drew (Below.refl _ _)))
    have OUW := Lib.hid (show W.ownsRow _ 97 4 (.slice U qs.length cu) qs.length (flat qs) from by rw [hW]; exact own_bel OU2.out (Below.drew (Below.refl _ _)))
    have WB : Hid (Below w.heap.size w W) := Lib.hid (by rw [hW]; exact HBB.out.drew)
    clear hW OA2 OU2 HBB z3 z5 hz3 hz5
    show Det0 _ _ _ _ _ (_ :: _) _
    ((try dsimp only); repeat (first | (refine Det0.skip ?_ ?_; (focus (rfl; done)); (try simp only [putA, List.setIfInBounds_toArray, List.set_cons_zero, List.set_cons_succ])) | (refine Det0.pure ?_ ?_ ?_ ?_; rotate_left; (focus (rfl; done)); (focus ((intro w9 hJ); (have hk0 := fun o => hJ.cell (p := ⟨k3, o, none⟩) WS3; have hk1 := fun o => hJ.cell (p := ⟨k5, o, none⟩) WS5); go_simp; (first | with_reducible rfl | exact eq_if3 | exact neq_if3 | skip); done)); (try simp only [putA, List.setIfInBounds_toArray, List.set_cons_zero, List.set_cons_succ])) | (refine Det0.step ?_ ?_ ?_ ?_; rotate_left; (focus (rfl; done)); (focus ((intro w9 K hJ hK); (have hk0 := fun o => hJ.cell (p := ⟨k3, o, none⟩) WS3; have hk1 := fun o => hJ.cell (p := ⟨k5, o, none⟩) WS5); go_simp; (first | (go_at_call 32; refine (profOk_any U qs.length cu qs _ (by omega) (own_rdd' (own_bel OUW.out hJ)) (own_blk (own_bel OUW.out hJ))).mono ?_; rintro e w8 ⟨rfl, hb8⟩; rw [HQ.out]; exact hK.out _ (bstep hJ hb8)) | (go_at_call 30; refine (sprofOk_any A ps.length c ps _ (by omega) (own_rdd' (own_bel OAW.out hJ)) (own_blk (own_bel OAW.out hJ))).mono ?_; rintro e w8 ⟨rfl, hb8⟩; rw [HPO.out]; exact hK.out _ (bstep hJ hb8))); done)); (try simp only [putA, List.setIfInBounds_toArray, List.set_cons_zero, List.set_cons_succ]))))
    refine Det0.nil (fun w9 hJ => ?_)
    have k30 := (hJ.cell (p := ⟨k3, 0, none⟩) WS3).trans X3
    have k50 := (hJ.cell (p := ⟨k5, 0, none⟩) WS5).trans X5
    have hz3 : k3 < w9.heap.size := Nat.lt_of_lt_of_le WS3 hJ.size
    have hz5 : k5 < w9.heap.size := Nat.lt_of_lt_of_le WS5 hJ.size
    have OA9 := Lib.hid (own_bel OAW.out hJ)
    have OU9 := Lib.hid (own_bel OUW.out hJ)
    have B9 := Lib.hid (bstep WB.out hJ)
    clear X3 X5 WS3 WS5 OAW OUW WB hJ
    go_wp2_with fail
    refine (profOk_any U qs.length cu qs _ (by omega) (own_rdd' OU9.out) (own_blk OU9.out)).mono ?_
    rintro e w10 ⟨rfl, hb10⟩
    rw [HQ.out]
    have k31 := (hb10.cell (p := ⟨k3, 0, none⟩) hz3).trans k30
    have k51 := (hb10.cell (p := ⟨k5, 0, none⟩) hz5).trans k50
    have OA10 := Lib.hid (own_bel OA9.out hb10)
    have OU10 := Lib.hid (own_bel OU9.out hb10)
    have B10 := Lib.hid (bstep B9.out hb10)
    have hz3' : k3 < w10.heap.size := Nat.lt_of_lt_of_le hz3 hb10.size
    have hz5' : k5 < w10.heap.size := Nat.lt_of_lt_of_le hz5 hb10.size
    clear k30 k50 OA9 OU9 B9 hb10 hz3 hz5
    go_wp2
    go_loopw [42] (fun i wr => ∃ k : Nat, k ≤ ps.length ∧ i = .int .i64 k ∧ Below w10.heap.size w10 wr) (fun i _ => ps.length - (intOf i).toNat)
    case atStart => exact ⟨0, Nat.zero_le _, rfl, Below.refl _ _⟩
    case round =>
      obtain ⟨k, hk, rfl, hbw⟩ := hrel
      have k32 := (hbw.cell (p := ⟨k3, 0, none⟩) hz3').trans k31
      have k52 := (hbw.cell (p := ⟨k5, 0, none⟩) hz5').trans k51
      have hz3w : k3 < wr.heap.size := Nat.lt_of_lt_of_le hz3' hbw.size
      have hz5w : k5 < wr.heap.size := Nat.lt_of_lt_of_le hz5' hbw.size
      have HBW := Lib.hid hbw
      by_cases hlt : k < ps.length
      · have hlt' : (k : Int) < ps.length := by omega
        obtain ⟨g, q, rfl, hq, d0, d1, d2, d3⟩ := Rd.q (own_rdd' (own_bel OA10.out HBW.out)) hlt
        have hgl := own_blk (own_bel OA10.out HBW.out) g rfl
        have HQM := Lib.hid (List.mem_of_getElem? hq)
        clear hq hbw
        go_wp2_with fail
        clear d0 d1 d2 d3 hgl
        refine wp_region_below (by kernel_rfl) (by kernel_rfl) (fun W hW => ?_)
        have X5 : W.cell? ⟨k5, 0, none⟩ = some (.slice U qs.length cu) := by rw [hW]; simp [go_sem, *]
        have Y0 : W.cell? ⟨wr.heap.size, 0, none⟩ = some (.int .i64 q.t) := by rw [hW]; simp [go_sem]
        have Y1 : W.cell? ⟨wr.heap.size, 1, none⟩ = some (.int .i64 q.a) := by rw [hW]; simp [go_sem]
        have Y2 : W.cell? ⟨wr.heap.size, 2, none⟩ = some (.int .i64 q.b) := by rw [hW]; simp [go_sem]
        have Y3 : W.cell? ⟨wr.heap.size, 3, none⟩ = some (.int .i64 q.c) := by rw [hW]; simp [go_sem]
        have WS5 : k5 < W.heap.size := by rw [hW]; simp; omega
        have WS7 : wr.heap.size < W.heap.size := by rw [hW]; simp
        have OUW := Lib.hid (show W.ownsRow _ 97 4 (.slice U qs.length cu) qs.length (flat qs) from by rw [hW]; exact own_bel (own_bel OU10.out HBW.out) ((below_alloc _ _).drew))
        have WB : Hid (Below w10.heap.size w10 W) := Lib.hid (by rw [hW]; exact bstep HBW.out ((below_alloc _ _).drew))
        clear hW k32 k52
        by_cases hle : t ≤ q.t
        · have HA := Lib.hid (C3.out q HQM.out hle)
          have E1 : Hid ((atV q.t qs).A = q.a) := Lib.hid (by rw [HA.out]; rfl)
          have E2 : Hid ((atV q.t qs).B = q.b) := Lib.hid (by rw [HA.out]; rfl)
          have E3 : Hid ((atV q.t qs).C = q.c) := Lib.hid (by rw [HA.out]; rfl)
          show Det0 _ _ _ _ _ (_ :: _) _
          ((try dsimp only); repeat (first | (refine Det0.skip ?_ ?_; (focus (rfl; done)); (try simp only [putA, List.setIfInBounds_toArray, List.set_cons_zero, List.set_cons_succ])) | (refine Det0.pure ?_ ?_ ?_ ?_; rotate_left; (focus (rfl; done)); (focus ((intro w9 hJ); (have hk0 := fun o => hJ.cell (p := ⟨k5, o, none⟩) WS5; have hk1 := fun o => hJ.cell (p := ⟨wr.heap.size, o, none⟩) WS7); go_simp; (first | with_reducible rfl | exact eq_if3 | exact neq_if3 | skip); done)); (try simp only [putA, List.setIfInBounds_toArray, List.set_cons_zero, List.set_cons_succ])) | (refine Det0.step ?_ ?_ ?_ ?_; rotate_left; (focus (rfl; done)); (focus ((intro w9 K hJ hK); (have hk0 := fun o => hJ.cell (p := ⟨k5, o, none⟩) WS5; have hk1 := fun o => hJ.cell (p := ⟨wr.heap.size, o, none⟩) WS7); go_simp; (first | (go_at_call 47; refine (profAt_any U qs.length cu qs q.t _ (by omega) (own_rdd' (own_bel OUW.out hJ)) (own_blk (own_bel OUW.out hJ))).mono ?_; rintro e w8 ⟨rfl, hb8⟩; rw [E1.out, E2.out, E3.out]; exact hK.out _ (bstep hJ hb8))); done)); (try simp only [putA, List.setIfInBounds_toArray, List.set_cons_zero, List.set_cons_succ]))))
          refine Det0.nil (fun w9 hJ => ?_)
          go_wp2
          go_roundw
          case rel => exact ⟨k + 1, by omega, by go_num, bstep WB.out hJ⟩
          case measure => simp [intOf]; omega
        · have hle' : q.t < t := by omega
          show Det0 _ _ _ _ _ (_ :: _) _
          ((try dsimp only); repeat (first | (refine Det0.skip ?_ ?_; (focus (rfl; done)); (try simp only [putA, List.setIfInBounds_toArray, List.set_cons_zero, List.set_cons_succ])) | (refine Det0.pure ?_ ?_ ?_ ?_; rotate_left; (focus (rfl; done)); (focus ((intro w9 hJ); (have hk0 := fun o => hJ.cell (p := ⟨k5, o, none⟩) WS5; have hk1 := fun o => hJ.cell (p := ⟨wr.heap.size, o, none⟩) WS7); go_simp; (first | with_reducible rfl | exact eq_if3 | exact neq_if3 | skip); done)); (try simp only [putA, List.setIfInBounds_toArray, List.set_cons_zero, List.set_cons_succ])) | (refine Det0.step ?_ ?_ ?_ ?_; rotate_left; (focus (rfl; done)); (focus ((intro w9 K hJ hK); (have hk0 := fun o => hJ.cell (p := ⟨k5, o, none⟩) WS5; have hk1 := fun o => hJ.cell (p := ⟨wr.heap.size, o, none⟩) WS7); go_simp; (fail); done)); (try simp only [putA, List.setIfInBounds_toArray, List.set_cons_zero, List.set_cons_succ]))))
          refine Det0.nil (fun w9 hJ => ?_)
          go_wp2
          go_roundw
          case rel => exact ⟨k + 1, by omega, by go_num, bstep WB.out hJ⟩
          case measure => simp [intOf]; omega
      · have hlt' : ¬ (k : Int) < ps.length := by omega
        clear k31 k51
        have OAr := Lib.hid (own_bel OA10.out HBW.out)
        have OUr := Lib.hid (own_bel OU10.out HBW.out)
        have Br := Lib.hid (bstep B10.out HBW.out)
        have HVA := Lib.hid C4.out
        clear hbw HBW OA10 OU10 B10
        have tt0 : 0 ≤ (tmsV ps).length := Nat.zero_le _
        have hmul : (tmsV qs).length ≤ (tmsV ps).length := by rw [HT1.out, HT2.out]; exact C2.out
        go_wp2_with fail
        go_region_held3 (fun w' => w'.cell? ⟨k3, 0, none⟩ = some (.slice A ps.length c) ∧ w'.cell? ⟨k5, 0, none⟩ = some (.slice U qs.length cu)) (simp [go_sem, *, World.cell?_alloc_some, World.cell?_setCell_far, Nat.lt_add_right, Nat.ne_of_gt]) (first | (go_at_call 47; (with_reducible refine (profAt_any U qs.length cu qs 0 _ (by omega) (own_rdd' (own_bel OUr.out ((Below.refl wr.heap.size wr).drew))) (own_blk (own_bel OUr.out ((Below.refl wr.heap.size wr).drew)))).mono ?_); rintro e w21 ⟨rfl, hb21⟩; have hs21 := hb21.size; (try simp at hs21); have hy213 : k3 < w21.heap.size := (by omega); have hy215 : k5 < w21.heap.size := (by omega); have hk213 := fun o => hb21.cell (p := ⟨k3, o, none⟩) (by first | omega | (simp <;> omega)); have hk215 := fun o => hb21.cell (p := ⟨k5, o, none⟩) (by first | omega | (simp <;> omega)); have BW21 : Below wr.heap.size wr w21 := bstep ((Below.refl _ _).drew) hb21; rw [HVA.out]) | (go_at_call 47; (with_reducible refine (profAt_any A ps.length c ps t _ (by omega) (own_rdd' (own_bel OAr.out BW21)) (own_blk (own_bel OAr.out BW21))).mono ?_); rintro e w22 ⟨rfl, hb22⟩; have hs22 := hb22.size; (try simp at hs22); have hy223 : k3 < w22.heap.size := (by omega); have hy225 : k5 < w22.heap.size := (by omega); have hk223 := fun o => hb22.cell (p := ⟨k3, o, none⟩) (by first | omega | (simp <;> omega)); have hk225 := fun o => hb22.cell (p := ⟨k5, o, none⟩) (by first | omega | (simp <;> omega)); have BW22 := bstep BW21 hb22) | (go_at_call 59; (with_reducible refine (profTimes_any U qs.length cu qs _ (by omega) (own_rdd' (own_bel OUr.out BW22)) (own_blk (own_bel OUr.out BW22))).mono ?_); rintro e w23 ⟨u23, rfl, own23, hb23⟩; have hs23 := hb23.size; (try simp at hs23); have hy233 : k3 < w23.heap.size := (by omega); have hy235 : k5 < w23.heap.size := (by omega); have hk233 := fun o => hb23.cell (p := ⟨k3, o, none⟩) (by first | omega | (simp <;> omega)); have hk235 := fun o => hb23.cell (p := ⟨k5, o, none⟩) (by first | omega | (simp <;> omega)); have BW23 := bstep BW22 hb23; obtain ⟨T3, d3, rfl, r3⟩ := own_rd own23; clear r3 own23) | (go_at_call 59; (with_reducible refine (profTimes_any A ps.length c ps _ (by omega) (own_rdd' (own_bel OAr.out BW23)) (own_blk (own_bel OAr.out BW23))).mono ?_); rintro e w24 ⟨u24, rfl, own24, hb24⟩; have hs24 := hb24.size; (try simp at hs24); have hy243 : k3 < w24.heap.size := (by omega); have hy245 : k5 < w24.heap.size := (by omega); have hk243 := fun o => hb24.cell (p := ⟨k3, o, none⟩) (by first | omega | (simp <;> omega)); have hk245 := fun o => hb24.cell (p := ⟨k5, o, none⟩) (by first | omega | (simp <;> omega)); have BW24 := bstep BW23 hb24; obtain ⟨T4, d4, rfl, r4⟩ := own_rd own24; clear r4 own24) | (go_at_call 66; (with_reducible refine (profCut_any U qs.length cu qs t _ (by omega) (own_rdd' (own_bel OUr.out BW24)) (own_blk (own_bel OUr.out BW24))).mono ?_); rintro e w25 ⟨u25, rfl, own25, hb25⟩; have hs25 := hb25.size; (try simp at hs25); have hy253 : k3 < w25.heap.size := (by omega); have hy255 : k5 < w25.heap.size := (by omega); have hk253 := fun o => hb25.cell (p := ⟨k3, o, none⟩) (by first | omega | (simp <;> omega)); have hk255 := fun o => hb25.cell (p := ⟨k5, o, none⟩) (by first | omega | (simp <;> omega)); have BW25 := bstep BW24 hb25; rw [C5.out] at own25; obtain ⟨T5, d5, rfl, r5⟩ := own_rd own25; clear r5; have O25 := Lib.hid own25; clear own25) | (go_at_call 45; (with_reducible refine (sameProf_any T5 U qs.length d5 qs.length cu qs qs _ (by omega) (by omega) (own_rdd' O25.out) (own_rdd' (own_bel OUr.out BW25)) (own_blk O25.out) (own_blk (own_bel OUr.out BW25))).mono ?_); rintro e w26 ⟨rfl, hb26⟩; have hs26 := hb26.size; (try simp at hs26); have hy263 : k3 < w26.heap.size := (by omega); have hy265 : k5 < w26.heap.size := (by omega); have hk263 := fun o => hb26.cell (p := ⟨k3, o, none⟩) (by first | omega | (simp <;> omega)); have hk265 := fun o => hb26.cell (p := ⟨k5, o, none⟩) (by first | omega | (simp <;> omega)); have BW26 := bstep BW25 hb26; rw [HSS.out]))
        all_goals go_wp2
        all_goals go_ret
        all_goals exact ⟨rfl, bstep Br.out (by repeat (first | exact Below.refl _ _ | assumption | (refine bstep ?_ (below_drewN _ _)) | exact bstep (by assumption) (by assumption) | (refine bstep ?_ (below_alloc _ _)) | (refine bstep ?_ (by assumption)) | (refine Below.setCell ?_ (by simp <;> omega) _) | refine Below.drew ?_))⟩
theorem law_cut (A : Option Addr) (n c : Nat) (w : World) (hn : n ≤ maxLen) (h : ByIn w A n) :
    Calls Try.prog 21 #[.slice A n c] w fun e w' => e = .returned (.bool true) ∧ Below w.heap.size w w' := by
  by_cases hs : n ≤ 1048576
  · exact law_cut_go A n c w hs h
  · have hs' : (1048576 : Int) < n := by omega
    unfold maxLen at hn
    go_enter Try.func21, Try.ntmps21
    go_wp2
    go_ret
    exact ⟨rfl, Below.refl _ _⟩
end Go.Proofs.Ytjnfdcojccgfoaa
