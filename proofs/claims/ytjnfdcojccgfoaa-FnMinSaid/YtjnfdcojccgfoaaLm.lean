/-
  FnMin: the minimum over an interval is at most what is free at any of its times, and that of a shorter interval is not less.
-/
import Derived.Test.YtjnfdcojccgfoaaDr
import Derived.Test.YtjnfdcojccgfoaaPj
import Derived.Test.YtjnfdcojccgfoaaA3
namespace Go.Proofs.Ytjnfdcojccgfoaa
set_option linter.unusedSimpArgs false
set_option linter.unusedVariables false
set_option linter.unnecessarySimpa false
open Go.RowKit
theorem min_facts {ps : List Q} {lo hi mid : Int} (h : minB ps lo hi = true) (h1 : lo < mid) (h2 : mid ≤ hi) : minB ps lo mid = true ∧ fitV (minVv ps lo hi) (atV lo ps) = true ∧ fitV (minVv ps lo hi) (atV (hi - 1) ps) = true ∧ fitV (minVv ps lo hi) (minVv ps lo mid) = true := by
  have hb := h
  simp only [minB, Bool.and_eq_true] at h
  obtain ⟨hp, hs⟩ := h
  obtain ⟨s0, s1, s2⟩ := span_parts hs
  have hs2 : spanB lo mid = true := by simp [spanB, timeB, inB]; omega
  have hm : minB ps lo mid = true := by unfold minB; rw [hp, hs2]; rfl
  have e1 : minVv ps lo hi = leastV lo hi ps := by unfold minVv; rw [hb]; rfl
  have e2 : minVv ps lo mid = leastV lo mid ps := by unfold minVv; rw [hm]; rfl
  have a1 : atV lo ps = freeV lo ps := by
    have : timeB lo = true := by simp [timeB, inB]; omega
    unfold atV; rw [hp, this]; rfl
  have a2 : atV (hi - 1) ps = freeV (hi - 1) ps := by
    have : timeB (hi - 1) = true := by simp [timeB, inB]; omega
    unfold atV; rw [hp, this]; rfl
  obtain ⟨l1, l2, _⟩ := least_spec hp s0 s1
  obtain ⟨l3, _, _⟩ := least_spec hp s0 h1
  refine ⟨hm, ?_, ?_, ?_⟩
  · rw [e1, a1]; exact fit_iff.2 ⟨l1, free_ok hp _, l2 lo (Int.le_refl _) s1⟩
  · rw [e1, a2]; exact fit_iff.2 ⟨l1, free_ok hp _, l2 (hi - 1) (by omega) (by omega)⟩
  · rw [e1, e2]; exact fit_iff.2 ⟨l1, l3, least_mono hp s0 h1 h2⟩
theorem min_zero {ps : List Q} {lo hi : Int} (h : minB ps lo hi = false) : minVv ps lo hi = V.zero := by unfold minVv; rw [h]; rfl

set_option maxHeartbeats 4000000 in
set_option maxRecDepth 20000 in
theorem law_min_go (A0 : Option Addr) (n c0 : Nat) (w : World) (hn : n ≤ 1048576) (h : ByIn w A0 n) :
    Calls Try.prog 22 #[.slice A0 n c0] w fun e w' => e = .returned (.bool true) ∧ Below w.heap.size w w' := by
  have HB := Lib.hid h
  have HN := Lib.hid hn
  have hn' : ¬ (1048576 : Int) < n := by omega
  clear h hn
  go_enter Try.func22, Try.ntmps22
  go_wp2_with fail
  refine (drawProfMin_any A0 n c0 _ HN.out HB.out).mono ?_
  rintro e w1 ⟨A, c, ps, lo, hi, rfl, hp, i1, i2, oa, hb1⟩
  have hs1 := hb1.size
  (try simp at hs1)
  have OA1 := Lib.hid (own_bel oa (below_alloc w1 (.cells #[.slice A ps.length c] 35)))
  clear oa
  obtain ⟨l0, l1⟩ := i1
  obtain ⟨m0, m1⟩ := i2
  go_wp2_with fail
  refine (profMin_any A ps.length c ps lo hi _ (by omega) (own_rdd' OA1.out) (own_blk OA1.out)).mono ?_
  rintro e w2 ⟨rfl, hb2⟩
  have hs2 := hb2.size
  (try simp at hs2)
  have hy20 : w1.heap.size < w2.heap.size := by omega
  have hk20 := fun o => hb2.cell (p := ⟨w1.heap.size, o, none⟩) (by first | omega | (simp <;> omega))
  have hg20 := fun o => hb2.frozen (p := ⟨w1.heap.size, o, none⟩) (by first | omega | (simp <;> omega))
  have OA2 := Lib.hid (own_bel (own_bel OA1.out hb2) (below_alloc w2 (.cells #[.int .i64 (minVv ps lo hi).A, .int .i64 (minVv ps lo hi).B, .int .i64 (minVv ps lo hi).C] 43)))
  go_wp2_with fail
  refine (sprofMin_any A ps.length c ps lo hi _ (by omega) (own_rdd' OA2.out) (own_blk OA2.out)).mono ?_
  rintro e w3 ⟨rfl, hb3⟩
  have hs3 := hb3.size
  (try simp at hs3)
  have hy30 : w1.heap.size < w3.heap.size := by omega
  have hk30 := fun o => hb3.cell (p := ⟨w1.heap.size, o, none⟩) (by first | omega | (simp <;> omega))
  have hg30 := fun o => hb3.frozen (p := ⟨w1.heap.size, o, none⟩) (by first | omega | (simp <;> omega))
  have hy31 : w2.heap.size < w3.heap.size := by omega
  have hk31 := fun o => hb3.cell (p := ⟨w2.heap.size, o, none⟩) (by first | omega | (simp <;> omega))
  have hg31 := fun o => hb3.frozen (p := ⟨w2.heap.size, o, none⟩) (by first | omega | (simp <;> omega))
  have OA3 := Lib.hid (own_bel (own_bel OA2.out hb3) (below_alloc w3 (.cells #[.int .i64 (minVv ps lo hi).A, .int .i64 (minVv ps lo hi).B, .int .i64 (minVv ps lo hi).C] 43)))
  clear OA1 OA2
  cases hm : minB ps lo hi
  · have HZ := Lib.hid (min_zero hm)
    clear hm
    have zA : (minVv ps lo hi).A = 0 := by rw [HZ.out]; rfl
    have zB : (minVv ps lo hi).B = 0 := by rw [HZ.out]; rfl
    have zC : (minVv ps lo hi).C = 0 := by rw [HZ.out]; rfl
    go_wp2
    go_ret
    exact ⟨rfl, (by repeat (first | exact Below.refl _ _ | assumption | (refine bstep ?_ (below_drewN _ _)) | exact bstep (by assumption) (by assumption) | (refine bstep ?_ (below_alloc _ _)) | (refine bstep ?_ (by assumption)) | (refine Below.setCell ?_ (by simp <;> omega) _) | refine Below.drew ?_))⟩
  · have hmm := hm
    simp only [minB, Bool.and_eq_true] at hmm
    obtain ⟨s0, s1, s2⟩ := span_parts hmm.2
    have HF := Lib.hid (min_facts (mid := lo + (hi - lo + 1) / 2) hm (by omega) (by omega))
    clear hm hmm
    have F1 : Hid (fitsB (minVv ps lo hi).A (minVv ps lo hi).B (minVv ps lo hi).C (atV lo ps).A (atV lo ps).B (atV lo ps).C = true) := Lib.hid HF.out.2.1
    have F2 : Hid (fitsB (minVv ps lo hi).A (minVv ps lo hi).B (minVv ps lo hi).C (atV (hi - 1) ps).A (atV (hi - 1) ps).B (atV (hi - 1) ps).C = true) := Lib.hid HF.out.2.2.1
    have F3 : Hid (fitsB (minVv ps lo hi).A (minVv ps lo hi).B (minVv ps lo hi).C (minVv ps lo (lo + (hi - lo + 1) / 2)).A (minVv ps lo (lo + (hi - lo + 1) / 2)).B (minVv ps lo (lo + (hi - lo + 1) / 2)).C = true) := Lib.hid HF.out.2.2.2
    have HM := Lib.hid HF.out.1
    clear HF
    have q1 : 0 ≤ hi - lo + 1 := by omega
    have q2 : 0 ≤ (hi - lo + 1) / 2 := by omega
    have q3 : (hi - lo + 1) / 2 ≤ 1000000000 := by omega
    go_wp2_with fail
    refine (profMin_any A ps.length c ps lo (lo + (hi - lo + 1) / 2) _ (by omega) (own_rdd' OA3.out) (own_blk OA3.out)).mono ?_
    rintro e w4 ⟨rfl, hb4⟩
    have hs4 := hb4.size
    (try simp at hs4)
    have hy40 : w1.heap.size < w4.heap.size := by omega
    have hk40 := fun o => hb4.cell (p := ⟨w1.heap.size, o, none⟩) (by first | omega | (simp <;> omega))
    have hg40 := fun o => hb4.frozen (p := ⟨w1.heap.size, o, none⟩) (by first | omega | (simp <;> omega))
    have hy41 : w2.heap.size < w4.heap.size := by omega
    have hk41 := fun o => hb4.cell (p := ⟨w2.heap.size, o, none⟩) (by first | omega | (simp <;> omega))
    have hg41 := fun o => hb4.frozen (p := ⟨w2.heap.size, o, none⟩) (by first | omega | (simp <;> omega))
    have OA4 := Lib.hid (own_bel (own_bel OA3.out hb4) (below_alloc w4 (.cells #[.int .i64 (minVv ps lo (lo + (hi - lo + 1) / 2)).A, .int .i64 (minVv ps lo (lo + (hi - lo + 1) / 2)).B, .int .i64 (minVv ps lo (lo + (hi - lo + 1) / 2)).C] 43)))
    clear OA3
    rw [HM.out]
    have hwr : IntKind.i64.wrap (hi - 1) = hi - 1 := IntWalk.i64_in _ (by omega)
    go_upto_region 11 with fail
    have WE3 : (w4.alloc (.cells #[.int .i64 (minVv ps lo (lo + (hi - lo + 1) / 2)).A, .int .i64 (minVv ps lo (lo + (hi - lo + 1) / 2)).B, .int .i64 (minVv ps lo (lo + (hi - lo + 1) / 2)).C] 43)).cell? ⟨w1.heap.size, 0, none⟩ = some (.slice A ps.length c) := by simp [go_sem, *]
    generalize hVM : minVv ps lo (lo + (hi - lo + 1) / 2) = VM at *
    refine wp_region_below (by kernel_rfl) (by kernel_rfl) (fun W hW => ?_)
    have WS3 : w1.heap.size < W.heap.size := by rw [hW]; simp; omega
    have WS6 : w2.heap.size < W.heap.size := by rw [hW]; simp; omega
    have WS10 : w4.heap.size < W.heap.size := by rw [hW]; simp
    have X3 : W.cell? ⟨w1.heap.size, 0, none⟩ = some (.slice A ps.length c) := by rw [hW]; simp [go_sem, *]
    have X60 : W.cell? ⟨w2.heap.size, 0, none⟩ = some (.int .i64 (minVv ps lo hi).A) := by rw [hW]; simp [go_sem, *]
    have X61 : W.cell? ⟨w2.heap.size, 1, none⟩ = some (.int .i64 (minVv ps lo hi).B) := by rw [hW]; simp [go_sem, *]
    have X62 : W.cell? ⟨w2.heap.size, 2, none⟩ = some (.int .i64 (minVv ps lo hi).C) := by rw [hW]; simp [go_sem, *]
    have Y0 : W.cell? ⟨w4.heap.size, 0, none⟩ = some (.int .i64 VM.A) := by rw [hW]; simp [go_sem, *]
    have Y1 : W.cell? ⟨w4.heap.size, 1, none⟩ = some (.int .i64 VM.B) := by rw [hW]; simp [go_sem, *]
    have Y2 : W.cell? ⟨w4.heap.size, 2, none⟩ = some (.int .i64 VM.C) := by rw [hW]; simp [go_sem, *]
    have OW : Hid (W.ownsRow w.heap.size 97 4 (.slice A ps.length c) ps.length (flat ps)) := Lib.hid (by rw [hW]; exact own_bel OA4.out (Below.drew (Below.refl _ _)))
    have WB : Hid (Below w.heap.size w W) := Lib.hid (by rw [hW]; exact (by repeat (first | exact Below.refl _ _ | assumption | (refine bstep ?_ (below_drewN _ _)) | exact bstep (by assumption) (by assumption) | (refine bstep ?_ (below_alloc _ _)) | (refine bstep ?_ (by assumption)) | (refine Below.setCell ?_ (by simp <;> omega) _) | refine Below.drew ?_)))
    clear hW OA4 hb1 hb2 hb3 hb4 WE3 hVM hk20 hg20 hk30 hg30 hk31 hg31 hk40 hg40 hk41 hg41
    show Det0 _ _ _ _ _ (_ :: _) _
    ((try dsimp only); repeat (first | (refine Det0.skip ?_ ?_; (focus (rfl; done)); (try simp only [putA, List.setIfInBounds_toArray, List.set_cons_zero, List.set_cons_succ])) | (refine Det0.pure ?_ ?_ ?_ ?_; rotate_left; (focus (rfl; done)); (focus ((intro w9 hJ); (have hk0 := fun o => hJ.cell (p := ⟨w1.heap.size, o, none⟩) WS3; have hk1 := fun o => hJ.cell (p := ⟨w2.heap.size, o, none⟩) WS6; have hk2 := fun o => hJ.cell (p := ⟨w4.heap.size, o, none⟩) WS10); go_simp; (first | with_reducible rfl | exact eq_if3 | exact neq_if3 | skip); done)); (try simp only [putA, List.setIfInBounds_toArray, List.set_cons_zero, List.set_cons_succ])) | (refine Det0.step ?_ ?_ ?_ ?_; rotate_left; (focus (rfl; done)); (focus ((intro w9 K hJ hK); (have hk0 := fun o => hJ.cell (p := ⟨w1.heap.size, o, none⟩) WS3; have hk1 := fun o => hJ.cell (p := ⟨w2.heap.size, o, none⟩) WS6; have hk2 := fun o => hJ.cell (p := ⟨w4.heap.size, o, none⟩) WS10); go_simp; (first | (go_at_call 47; refine (profAt_any A ps.length c ps _ _ (by omega) (own_rdd' (own_bel OW.out hJ)) (own_blk (own_bel OW.out hJ))).mono ?_; rintro e w8 ⟨rfl, hb8⟩; exact hK.out _ (bstep hJ hb8)) | (go_at_call 56; refine (vecFits_raw _ _ _ _ _ _ _).mono ?_; rintro e w8 ⟨rfl, hb8⟩; first | (rw [F1.out]; exact hK.out _ (bstep hJ hb8)) | (rw [F2.out]; exact hK.out _ (bstep hJ hb8)) | (rw [F3.out]; exact hK.out _ (bstep hJ hb8)))); done)); (try simp only [putA, List.setIfInBounds_toArray, List.set_cons_zero, List.set_cons_succ]))))
    refine Det0.nil (fun w9 hJ => ?_)
    go_wp2
    go_ret
    exact ⟨rfl, bstep WB.out hJ⟩
theorem law_min (A : Option Addr) (n c : Nat) (w : World) (hn : n ≤ maxLen) (h : ByIn w A n) :
    Calls Try.prog 22 #[.slice A n c] w fun e w' => e = .returned (.bool true) ∧ Below w.heap.size w w' := by
  by_cases hs : n ≤ 1048576
  · exact law_min_go A n c w hs h
  · have hs' : (1048576 : Int) < n := by omega
    unfold maxLen at hn
    go_enter Try.func22, Try.ntmps22
    go_wp2
    go_ret
    exact ⟨rfl, Below.refl _ _⟩
end Go.Proofs.Ytjnfdcojccgfoaa
