import Derived.Test.YtdppjjdhidkjoaaGreatA21Pd
namespace Go.Proofs.YtdppjjdhidkjoaaGreat
set_option linter.unusedSimpArgs false
set_option linter.unusedVariables false
set_option linter.unnecessarySimpa false
open Go.RowKit

set_option maxHeartbeats 4000000 in
theorem areAsc_any (D : Option Addr) (k e : Nat) (nd : List Int) (w : World) (hk : k ≤ 1048576) (hd : Rd w D k 1 (ints nd)) (hl3 : ∀ g, D = some ⟨g, 0, none⟩ → g < w.heap.size) :
    Calls Tryz.prog 99 #[.slice D k e] w fun e w' => e = .returned (.bool (ascB nd)) ∧ Below w.heap.size w w' := by
  have hdl := hd.ilen
  have hk9 : k ≤ 9223372036854775807 := by omega
  have HK := Lib.hid hk
  have HD := Lib.hid hd
  have HL3 := Lib.hid hl3
  have HDL := Lib.hid hdl
  clear hk hd hl3 hdl
  go_enter Tryz.func99, Tryz.ntmps99
  go_wp2
  go_loopw [3] (fun i wr => ∃ j : Nat, 1 ≤ j ∧ (j ≤ k ∨ j = 1) ∧ i = .int .i64 j ∧ Hid ((nd.take j).Pairwise (· < ·)) ∧ Below w.heap.size w wr) (fun i _ => k + 1 - (intOf i).toNat)
  case atStart => exact ⟨1, Nat.le_refl _, Or.inr rfl, rfl, Lib.hid (by cases nd with | nil => simp | cons a r => simp), zBe⟩
  case round =>
    obtain ⟨j, hj1, hj, rfl, HASC, hbw⟩ := hrel
    have HB := Lib.hid hbw
    clear hbw
    by_cases hlt : j < k
    · obtain ⟨m', rfl⟩ : ∃ m, j = m + 1 := ⟨j - 1, by omega⟩
      have hlt' : ((m' + 1 : Nat) : Int) < k := by omega
      obtain ⟨gD, x0, rfl, hx0, cx0⟩ := Rd.int (HD.out.below HL3.out HB.out) (show m' < k by omega)
      obtain ⟨gD', x1, hgD, hx1, cx1⟩ := Rd.int (HD.out.below HL3.out HB.out) (show m' + 1 < k by omega)
      obtain rfl : gD = gD' := by injection hgD with h1; injection h1
      have HX0 := Lib.hid hx0
      have HX1 := Lib.hid hx1
      have hm1 : (0 : Int) < (m' : Int) + 1 := by omega
      have hm4 : IntKind.i64.wrap ((m' : Int) + 1 - 1) = (m' : Int) := by rw [IntWalk.i64_in _ (by omega)]; omega
      have hm4' : IntKind.i64.wrap (m' : Int) = (m' : Int) := IntWalk.i64_in _ (by omega)
      have hm5 : (0 : Int) ≤ (m' : Int) := by omega
      have hm6 : (m' : Int) < k := by omega
      have hm7 : (m' : Int) + 1 < k := by omega
      clear hx0 hx1 hgD
      by_cases hxx : x0 < x1
      · have hxx' : ¬ x1 ≤ x0 := by omega
        have HAS := Lib.hid (asc_snoc HASC.out HX0.out HX1.out hxx)
        go_wp2_with fail
        go_quiet (fail)
        go_wp2
        go_roundw
        case rel => exact ⟨m' + 2, by omega, by omega, by go_num, HAS, zAd HB.out (zAb _ _)⟩
        case measure => simp [intOf]; omega
      · have hxx' : x1 ≤ x0 := by omega
        have HF := Lib.hid (asc_no HX0.out HX1.out hxx)
        go_wp2_with fail
        go_quiet (fail)
        go_wp2
        go_ret
        exact ⟨by rw [HF.out]; rfl, zAd HB.out (zAb _ _)⟩
    · have HF : Hid (ascB nd = true) := Lib.hid (by
        have h1 := HASC.out
        rw [List.take_of_length_le (by have := HDL.out; omega)] at h1
        exact decide_eq_true h1)
      have hlt' : ¬ (j : Int) < k := by omega
      go_wp2
      go_ret
      exact ⟨by rw [HF.out]; rfl, HB.out⟩
set_option maxHeartbeats 8000000 in
theorem Choose_any (A B : Option Addr) (n c m d : Nat) (ps : List Int) (ns : List Q) (D : Option Addr) (k e : Nat) (nd : List Int) (nn most : Int) (w : World) (hn : n ≤ 1048576) (hm : m ≤ 1048576) (hr : Rd w A n 1 (ints ps)) (hq : Rd w B m 4 (flat ns)) (hl : ∀ g, A = some ⟨g, 0, none⟩ → g < w.heap.size) (hl2 : ∀ g, B = some ⟨g, 0, none⟩ → g < w.heap.size) (hk : k ≤ 1048576) (hd : Rd w D k 1 (ints nd)) (hl3 : ∀ g, D = some ⟨g, 0, none⟩ → g < w.heap.size) :
    Calls Tryz.prog 22 #[.agg #[.slice A n c, .slice B m d], .slice D k e, .int .i64 nn, .int .i64 most] w fun e w' => ∃ v, e = .returned (.tuple #[v, .bool (chB_ ps ns nd nn most)]) ∧ w'.ownsRow w.heap.size 3 1 v (chL_ ps ns nd nn most).length (ints (chL_ ps ns nd nn most)) ∧ Below w.heap.size w w' := by
  have hpl := hr.ilen
  have hql : ns.length = m := by have := hq.1; rw [flat_len] at this; omega
  have hn9 : n ≤ 9223372036854775807 := by omega
  have hm9 : m ≤ 9223372036854775807 := by omega
  have HN := Lib.hid hn
  have HM := Lib.hid hm
  have HR := Lib.hid hr
  have HQ := Lib.hid hq
  have HL := Lib.hid hl
  have HL2 := Lib.hid hl2
  have HP := Lib.hid hpl
  have HQL := Lib.hid hql
  clear hn hm hr hq hl hl2 hpl hql
  have hdl := hd.ilen
  have hk9 : k ≤ 9223372036854775807 := by omega
  have HK := Lib.hid hk
  have HD := Lib.hid hd
  have HL3 := Lib.hid hl3
  have HDL := Lib.hid hdl
  clear hk hd hl3 hdl
  obtain ⟨ar, har⟩ : ∃ y, y = areB ps ns nd := ⟨_, rfl⟩
  obtain ⟨az, has⟩ : ∃ y, y = ascB nd := ⟨_, rfl⟩
  have HAR := Lib.hid har
  have HAS := Lib.hid has
  clear har has
  by_cases hg : ar = true ∧ az = true ∧ 1 ≤ nn
  · obtain ⟨h1, h2, h3⟩ := hg
    obtain ⟨q, rfl⟩ : ∃ q : Nat, nn = q := ⟨nn.toNat, by omega⟩
    have h3' : ¬ (q : Int) < 1 := by omega
    have hq1 : 1 ≤ q := by omega
    subst h1 h2
    have HT : Hid (topoOkB ps ns = true ∧ inNodes ns nd = true) := Lib.hid (by
      have h := HAR.out
      simp only [areB] at h
      have h := h.symm
      rw [Bool.and_eq_true] at h
      exact ⟨h.2, h.1⟩)
    have HE : Hid (ChooseV ps ns nd q most = chooseV ps ns nd q most) := Lib.hid (by unfold ChooseV; rw [← HAR.out, ← HAS.out, if_pos (by simp; omega), Int.toNat_natCast])
    have HNN : Hid nd.Nodup := Lib.hid (rise_nodup (by have := HAS.out; unfold ascB at this; exact of_decide_eq_true this.symm))
    go_enter Tryz.func22, Tryz.ntmps22
    go_wp2_with fail
    refine (areNodes_any A B n c m d ps ns D k e nd _ HN.out HM.out (HR.out.below HL.out zBe) (HQ.out.below HL2.out zBe) (zAg HL.out zBe) (zAg HL2.out zBe) HK.out (HD.out.below HL3.out zBe) (zAg HL3.out zBe)).mono ?_
    rintro e w1 ⟨rfl, hb1⟩
    have hs1 := hb1.size
    (try simp at hs1)
    have hy10 : w.heap.size < w1.heap.size := by omega
    have hk10 := fun o => hb1.cell (p := ⟨w.heap.size, o, none⟩) zOm
    have hg10 := fun o => hb1.frozen (p := ⟨w.heap.size, o, none⟩) zOm
    rw [← HAR.out]
    go_wp2_with fail
    refine (areAsc_any D k e nd _ HK.out (HD.out.below HL3.out zBe) (zAg HL3.out zBe)).mono ?_
    rintro e w2 ⟨rfl, hb2⟩
    have hs2 := hb2.size
    (try simp at hs2)
    have hy20 : w.heap.size < w2.heap.size := by omega
    have hk20 := fun o => hb2.cell (p := ⟨w.heap.size, o, none⟩) zOm
    have hg20 := fun o => hb2.frozen (p := ⟨w.heap.size, o, none⟩) zOm
    rw [← HAS.out]
    go_wp2_with fail
    refine (choose_any A B n c m d ps ns D k e nd q most _ HN.out HM.out (HR.out.below HL.out zBe) (HQ.out.below HL2.out zBe) (zAg HL.out zBe) (zAg HL2.out zBe) HK.out (HD.out.below HL3.out zBe) (zAg HL3.out zBe) HT.out.1 (inNodes_iff.1 HT.out.2) HNN.out hq1).mono ?_
    rintro e w3 ⟨v3, rfl, own3, hb3⟩
    obtain ⟨X3, c3, rfl, _⟩ := zAp own3
    have HO3 := Lib.hid own3
    have hs3 := hb3.size
    clear own3
    go_wp2
    (try go_light)
    refine bodyPost_ret (v := .tuple #[.slice X3 ((chooseV ps ns nd q most).getD []).length c3, .bool (chooseV ps ns nd q most).isSome]) (by simp [results, Tryz.results22, go_sem, *]) rfl ?_
    exact ⟨_, by unfold chB_; rw [HE.out], by unfold chL_; rw [HE.out]; exact zAn HO3.out (by omega), zBe⟩
  · have HF : Hid (chL_ ps ns nd nn most = [] ∧ chB_ ps ns nd nn most = false) := Lib.hid (ch_bad (by
      rw [← HAR.out, ← HAS.out]
      cases ar <;> cases az <;> simp at hg ⊢ <;> omega))
    cases ar
    · go_enter Tryz.func22, Tryz.ntmps22
      go_wp2_with fail
      refine (areNodes_any A B n c m d ps ns D k e nd _ HN.out HM.out (HR.out.below HL.out zBe) (HQ.out.below HL2.out zBe) (zAg HL.out zBe) (zAg HL2.out zBe) HK.out (HD.out.below HL3.out zBe) (zAg HL3.out zBe)).mono ?_
      rintro e w1 ⟨rfl, hb1⟩
      have hs1 := hb1.size
      (try simp at hs1)
      have hy10 : w.heap.size < w1.heap.size := by omega
      have hk10 := fun o => hb1.cell (p := ⟨w.heap.size, o, none⟩) zOm
      have hg10 := fun o => hb1.frozen (p := ⟨w.heap.size, o, none⟩) zOm
      rw [← HAR.out]
      have hfin : Below w.heap.size w w1 := zBe
      clear HAR HAS
      go_wp2
      (try go_light)
      refine bodyPost_ret (v := .tuple #[.slice none 0 0, .bool false]) (by simp [results, Tryz.results22, go_sem, *]) rfl ?_
      exact ⟨_, by rw [HF.out.2], by rw [HF.out.1]; exact zAx _ _ _ _, hfin⟩
    · go_enter Tryz.func22, Tryz.ntmps22
      go_wp2_with fail
      refine (areNodes_any A B n c m d ps ns D k e nd _ HN.out HM.out (HR.out.below HL.out zBe) (HQ.out.below HL2.out zBe) (zAg HL.out zBe) (zAg HL2.out zBe) HK.out (HD.out.below HL3.out zBe) (zAg HL3.out zBe)).mono ?_
      rintro e w1 ⟨rfl, hb1⟩
      have hs1 := hb1.size
      (try simp at hs1)
      have hy10 : w.heap.size < w1.heap.size := by omega
      have hk10 := fun o => hb1.cell (p := ⟨w.heap.size, o, none⟩) zOm
      have hg10 := fun o => hb1.frozen (p := ⟨w.heap.size, o, none⟩) zOm
      rw [← HAR.out]
      go_wp2_with fail
      refine (areAsc_any D k e nd _ HK.out (HD.out.below HL3.out zBe) (zAg HL3.out zBe)).mono ?_
      rintro e w2 ⟨rfl, hb2⟩
      have hs2 := hb2.size
      (try simp at hs2)
      have hy20 : w.heap.size < w2.heap.size := by omega
      have hk20 := fun o => hb2.cell (p := ⟨w.heap.size, o, none⟩) zOm
      have hg20 := fun o => hb2.frozen (p := ⟨w.heap.size, o, none⟩) zOm
      rw [← HAS.out]
      have hfin : Below w.heap.size w w2 := zBe
      clear HAR HAS
      cases az
      · skip
        go_wp2
        (try go_light)
        refine bodyPost_ret (v := .tuple #[.slice none 0 0, .bool false]) (by simp [results, Tryz.results22, go_sem, *]) rfl ?_
        exact ⟨_, by rw [HF.out.2], by rw [HF.out.1]; exact zAx _ _ _ _, hfin⟩
      · have hnn : nn < 1 := by simp at hg; omega
        clear hg
        go_wp2
        (try go_light)
        refine bodyPost_ret (v := .tuple #[.slice none 0 0, .bool false]) (by simp [results, Tryz.results22, go_sem, *]) rfl ?_
        exact ⟨_, by rw [HF.out.2], by rw [HF.out.1]; exact zAx _ _ _ _, hfin⟩
end Go.Proofs.YtdppjjdhidkjoaaGreat
