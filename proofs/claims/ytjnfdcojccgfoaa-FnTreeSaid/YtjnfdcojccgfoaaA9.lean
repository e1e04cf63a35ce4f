/-
  Texts of this proof, put together.
-/
import Derived.Test.YtjnfdcojccgfoaaA6
import Derived.Test.YtjnfdcojccgfoaaA3
import Derived.Test.YtjnfdcojccgfoaaA2
namespace Go.Proofs.Ytjnfdcojccgfoaa
set_option linter.unusedSimpArgs false
set_option linter.unusedVariables false
set_option linter.unnecessarySimpa false
open Go.RowKit
def hasB (ps : List Int) (ns : List Q) (s : Int) : Bool := topoOkB ps ns && (decide (0 ≤ s) && decide (s < ps.length))
def levelV (ps : List Int) (ns : List Q) (s : Int) : Int := if hasB ps ns s then lev ps s.toNat else -1
theorem hasB_parts {ps : List Int} {ns : List Q} {s : Int} (h : hasB ps ns s = true) : topoOkB ps ns = true ∧ 0 ≤ s ∧ s < ps.length := by
  unfold hasB at h
  simp only [Bool.and_eq_true, decide_eq_true_eq] at h
  exact ⟨h.1, h.2.1, h.2.2⟩

set_option maxHeartbeats 2000000 in
theorem hasSwitch_any (A B : Option Addr) (n c m d : Nat) (ps : List Int) (ns : List Q) (s : Int) (w : World) (hn : n ≤ 1048576) (hm : m ≤ 1048576) (hr : Rd w A n 1 (ints ps)) (hq : Rd w B m 4 (flat ns)) (hl : ∀ g, A = some ⟨g, 0, none⟩ → g < w.heap.size) (hl2 : ∀ g, B = some ⟨g, 0, none⟩ → g < w.heap.size) :
    Calls Try.prog 136 #[.agg #[.slice A n c, .slice B m d], .int .i64 s] w fun e w' => e = .returned (.bool (hasB ps ns s)) ∧ Below w.heap.size w w' := by
  have hpl := hr.ilen
  have hql : ns.length = m := by have := hq.1; rw [flat_len] at this; omega
  have hm1 : n ≤ 9223372036854775807 := by omega
  have hm2 : m ≤ 9223372036854775807 := by omega
  have HN := Lib.hid hn
  have HM := Lib.hid hm
  have HR := Lib.hid hr
  have HQ := Lib.hid hq
  have HP := Lib.hid hpl
  have HQL := Lib.hid hql
  have HL := Lib.hid hl
  have HL2 := Lib.hid hl2
  clear hn hm hr hq hpl hql hl hl2
  cases ht : topoOkB ps ns
  · have hF : hasB ps ns s = false := by unfold hasB; rw [ht]; rfl
    have HF := Lib.hid hF
    clear hF
    go_enter Try.func136, Try.ntmps136
    go_wp2_with (go_at_call 70; refine (topoOk_any _ _ _ _ _ _ ps ns _ HN.out HM.out (HR.out.below HL.out (below_alloc _ _)) (HQ.out.below HL2.out (below_alloc _ _)) (lt_below HL.out (below_alloc _ _)) (lt_below HL2.out (below_alloc _ _))).mono ?_; rintro e w1 ⟨rfl, hb1⟩; rw [ht]; have hk1 := fun o => hb1.cell (p := ⟨w.heap.size, o, none⟩) (by simp))
    go_ret
    exact ⟨ret_bool HF.out.symm, (by repeat (first | exact Below.refl _ _ | assumption | (refine bstep ?_ (below_drewN _ _)) | exact bstep (by assumption) (by assumption) | (refine bstep ?_ (below_alloc _ _)) | (refine bstep ?_ (by assumption)) | (refine Below.setCell ?_ (by simp <;> omega) _) | refine Below.drew ?_))⟩
  · have hpp := topo_parts ht
    rw [HP.out] at hpp
    have h1 := hpp.1
    have h24 := hpp.2.1
    have hF : hasB ps ns s = (decide (0 ≤ s) && decide (s < n)) := by unfold hasB; rw [ht, HP.out]; rfl
    have HF := Lib.hid hF
    clear hF hpp
    have hwr : IntKind.i64.wrap ((n : Int) - 1) = (n : Int) - 1 := IntWalk.i64_in _ (by omega)
    by_cases hs0 : 0 ≤ s
    · by_cases hs1 : s < n
      · have hin : inB s 0 ((n : Int) - 1) = true := by simp [inB]; omega
        have hsr : decide (0 ≤ s) && decide (s < n) := by simp [hs0, hs1]
        have HS := Lib.hid hsr
        clear hsr
        go_enter Try.func136, Try.ntmps136
        go_wp2_with (first | (go_at_call 70; refine (topoOk_any _ _ _ _ _ _ ps ns _ HN.out HM.out (HR.out.below HL.out (below_alloc _ _)) (HQ.out.below HL2.out (below_alloc _ _)) (lt_below HL.out (below_alloc _ _)) (lt_below HL2.out (below_alloc _ _))).mono ?_; rintro e w1 ⟨rfl, hb1⟩; rw [ht]; have hk1 := fun o => hb1.cell (p := ⟨w.heap.size, o, none⟩) (by simp)) | (go_at_call 104; refine (within_any _ _ _ _).mono ?_; rintro e w' ⟨rfl, rfl⟩; rw [hin]))
        go_ret
        exact ⟨ret_bool (by rw [HF.out]; first | exact HS.out.symm | simp [hs0]), (by repeat (first | exact Below.refl _ _ | assumption | (refine bstep ?_ (below_drewN _ _)) | exact bstep (by assumption) (by assumption) | (refine bstep ?_ (below_alloc _ _)) | (refine bstep ?_ (by assumption)) | (refine Below.setCell ?_ (by simp <;> omega) _) | refine Below.drew ?_))⟩
      · have hin : inB s 0 ((n : Int) - 1) = false := by
          simp only [inB, Bool.and_eq_false_iff, decide_eq_false_iff_not]; omega
        have hs1' : (n : Int) ≤ s := by omega
        have hsr : (decide (0 ≤ s) && decide (s < n)) = false := by simp [hs0, hs1]
        have HS := Lib.hid hsr
        clear hsr hs1
        have hs1 : ¬ (s < n) := by omega
        go_enter Try.func136, Try.ntmps136
        go_wp2_with (first | (go_at_call 70; refine (topoOk_any _ _ _ _ _ _ ps ns _ HN.out HM.out (HR.out.below HL.out (below_alloc _ _)) (HQ.out.below HL2.out (below_alloc _ _)) (lt_below HL.out (below_alloc _ _)) (lt_below HL2.out (below_alloc _ _))).mono ?_; rintro e w1 ⟨rfl, hb1⟩; rw [ht]; have hk1 := fun o => hb1.cell (p := ⟨w.heap.size, o, none⟩) (by simp)) | (go_at_call 104; refine (within_any _ _ _ _).mono ?_; rintro e w' ⟨rfl, rfl⟩; rw [hin]))
        go_ret
        exact ⟨ret_bool (by rw [HF.out]; first | exact HS.out.symm | simp [hs0]), (by repeat (first | exact Below.refl _ _ | assumption | (refine bstep ?_ (below_drewN _ _)) | exact bstep (by assumption) (by assumption) | (refine bstep ?_ (below_alloc _ _)) | (refine bstep ?_ (by assumption)) | (refine Below.setCell ?_ (by simp <;> omega) _) | refine Below.drew ?_))⟩
    · have hin : inB s 0 ((n : Int) - 1) = false := by
        simp only [inB, Bool.and_eq_false_iff, decide_eq_false_iff_not]; omega
      have hs0' : s < 0 := by omega
      have hsr : (decide (0 ≤ s) && decide (s < n)) = false := by simp [hs0]
      have HS := Lib.hid hsr
      clear hsr
      go_enter Try.func136, Try.ntmps136
      go_wp2_with (first | (go_at_call 70; refine (topoOk_any _ _ _ _ _ _ ps ns _ HN.out HM.out (HR.out.below HL.out (below_alloc _ _)) (HQ.out.below HL2.out (below_alloc _ _)) (lt_below HL.out (below_alloc _ _)) (lt_below HL2.out (below_alloc _ _))).mono ?_; rintro e w1 ⟨rfl, hb1⟩; rw [ht]; have hk1 := fun o => hb1.cell (p := ⟨w.heap.size, o, none⟩) (by simp)) | (go_at_call 104; refine (within_any _ _ _ _).mono ?_; rintro e w' ⟨rfl, rfl⟩; rw [hin]))
      go_ret
      exact ⟨ret_bool (by rw [HF.out]; first | exact HS.out.symm | simp [hs0]), (by repeat (first | exact Below.refl _ _ | assumption | (refine bstep ?_ (below_drewN _ _)) | exact bstep (by assumption) (by assumption) | (refine bstep ?_ (below_alloc _ _)) | (refine bstep ?_ (by assumption)) | (refine Below.setCell ?_ (by simp <;> omega) _) | refine Below.drew ?_))⟩

set_option maxHeartbeats 2000000 in
theorem sSwitch_any (A B : Option Addr) (n c m d : Nat) (ps : List Int) (ns : List Q) (s : Int) (w : World) (hn : n ≤ 1048576) (hm : m ≤ 1048576) (hr : Rd w A n 1 (ints ps)) (hq : Rd w B m 4 (flat ns)) (hl : ∀ g, A = some ⟨g, 0, none⟩ → g < w.heap.size) (hl2 : ∀ g, B = some ⟨g, 0, none⟩ → g < w.heap.size) :
    Calls Try.prog 135 #[.agg #[.slice A n c, .slice B m d], .int .i64 s] w fun e w' => e = .returned (.bool (hasB ps ns s)) ∧ Below w.heap.size w w' := by
  have hpl := hr.ilen
  have hql : ns.length = m := by have := hq.1; rw [flat_len] at this; omega
  have hm1 : n ≤ 9223372036854775807 := by omega
  have hm2 : m ≤ 9223372036854775807 := by omega
  have HN := Lib.hid hn
  have HM := Lib.hid hm
  have HR := Lib.hid hr
  have HQ := Lib.hid hq
  have HP := Lib.hid hpl
  have HQL := Lib.hid hql
  have HL := Lib.hid hl
  have HL2 := Lib.hid hl2
  clear hn hm hr hq hpl hql hl hl2
  cases ht : topoOkB ps ns
  · have hF : hasB ps ns s = false := by unfold hasB; rw [ht]; rfl
    have HF := Lib.hid hF
    clear hF
    go_enter Try.func135, Try.ntmps135
    go_wp2_with (go_at_call 68; refine (stopoOk_any _ _ _ _ _ _ ps ns _ HN.out HM.out (HR.out.below HL.out (below_alloc _ _)) (HQ.out.below HL2.out (below_alloc _ _)) (lt_below HL.out (below_alloc _ _)) (lt_below HL2.out (below_alloc _ _))).mono ?_; rintro e w1 ⟨rfl, hb1⟩; rw [ht]; have hk1 := fun o => hb1.cell (p := ⟨w.heap.size, o, none⟩) (by simp))
    go_ret
    exact ⟨ret_bool HF.out.symm, (by repeat (first | exact Below.refl _ _ | assumption | (refine bstep ?_ (below_drewN _ _)) | exact bstep (by assumption) (by assumption) | (refine bstep ?_ (below_alloc _ _)) | (refine bstep ?_ (by assumption)) | (refine Below.setCell ?_ (by simp <;> omega) _) | refine Below.drew ?_))⟩
  · have hpp := topo_parts ht
    rw [HP.out] at hpp
    have h1 := hpp.1
    have h24 := hpp.2.1
    have hF : hasB ps ns s = (decide (0 ≤ s) && decide (s < n)) := by unfold hasB; rw [ht, HP.out]; rfl
    have HF := Lib.hid hF
    clear hF hpp
    have hwr : IntKind.i64.wrap ((n : Int) - 1) = (n : Int) - 1 := IntWalk.i64_in _ (by omega)
    by_cases hs0 : 0 ≤ s
    · by_cases hs1 : s < n
      · have hin : inB s 0 ((n : Int) - 1) = true := by simp [inB]; omega
        have hsr : decide (0 ≤ s) && decide (s < n) := by simp [hs0, hs1]
        have HS := Lib.hid hsr
        clear hsr
        go_enter Try.func135, Try.ntmps135
        go_wp2_with (first | (go_at_call 68; refine (stopoOk_any _ _ _ _ _ _ ps ns _ HN.out HM.out (HR.out.below HL.out (below_alloc _ _)) (HQ.out.below HL2.out (below_alloc _ _)) (lt_below HL.out (below_alloc _ _)) (lt_below HL2.out (below_alloc _ _))).mono ?_; rintro e w1 ⟨rfl, hb1⟩; rw [ht]; have hk1 := fun o => hb1.cell (p := ⟨w.heap.size, o, none⟩) (by simp)))
        go_ret
        exact ⟨ret_bool (by rw [HF.out]; first | exact HS.out.symm | simp [hs0]), (by repeat (first | exact Below.refl _ _ | assumption | (refine bstep ?_ (below_drewN _ _)) | exact bstep (by assumption) (by assumption) | (refine bstep ?_ (below_alloc _ _)) | (refine bstep ?_ (by assumption)) | (refine Below.setCell ?_ (by simp <;> omega) _) | refine Below.drew ?_))⟩
      · have hin : inB s 0 ((n : Int) - 1) = false := by
          simp only [inB, Bool.and_eq_false_iff, decide_eq_false_iff_not]; omega
        have hs1' : (n : Int) ≤ s := by omega
        have hsr : (decide (0 ≤ s) && decide (s < n)) = false := by simp [hs0, hs1]
        have HS := Lib.hid hsr
        clear hsr hs1
        have hs1 : ¬ (s < n) := by omega
        go_enter Try.func135, Try.ntmps135
        go_wp2_with (first | (go_at_call 68; refine (stopoOk_any _ _ _ _ _ _ ps ns _ HN.out HM.out (HR.out.below HL.out (below_alloc _ _)) (HQ.out.below HL2.out (below_alloc _ _)) (lt_below HL.out (below_alloc _ _)) (lt_below HL2.out (below_alloc _ _))).mono ?_; rintro e w1 ⟨rfl, hb1⟩; rw [ht]; have hk1 := fun o => hb1.cell (p := ⟨w.heap.size, o, none⟩) (by simp)))
        go_ret
        exact ⟨ret_bool (by rw [HF.out]; first | exact HS.out.symm | simp [hs0]), (by repeat (first | exact Below.refl _ _ | assumption | (refine bstep ?_ (below_drewN _ _)) | exact bstep (by assumption) (by assumption) | (refine bstep ?_ (below_alloc _ _)) | (refine bstep ?_ (by assumption)) | (refine Below.setCell ?_ (by simp <;> omega) _) | refine Below.drew ?_))⟩
    · have hin : inB s 0 ((n : Int) - 1) = false := by
        simp only [inB, Bool.and_eq_false_iff, decide_eq_false_iff_not]; omega
      have hs0' : s < 0 := by omega
      have hsr : (decide (0 ≤ s) && decide (s < n)) = false := by simp [hs0]
      have HS := Lib.hid hsr
      clear hsr
      go_enter Try.func135, Try.ntmps135
      go_wp2_with (first | (go_at_call 68; refine (stopoOk_any _ _ _ _ _ _ ps ns _ HN.out HM.out (HR.out.below HL.out (below_alloc _ _)) (HQ.out.below HL2.out (below_alloc _ _)) (lt_below HL.out (below_alloc _ _)) (lt_below HL2.out (below_alloc _ _))).mono ?_; rintro e w1 ⟨rfl, hb1⟩; rw [ht]; have hk1 := fun o => hb1.cell (p := ⟨w.heap.size, o, none⟩) (by simp)))
      go_ret
      exact ⟨ret_bool (by rw [HF.out]; first | exact HS.out.symm | simp [hs0]), (by repeat (first | exact Below.refl _ _ | assumption | (refine bstep ?_ (below_drewN _ _)) | exact bstep (by assumption) (by assumption) | (refine bstep ?_ (below_alloc _ _)) | (refine bstep ?_ (by assumption)) | (refine Below.setCell ?_ (by simp <;> omega) _) | refine Below.drew ?_))⟩

set_option maxHeartbeats 2000000 in
theorem level_any (A B : Option Addr) (n c m d : Nat) (ps : List Int) (s : Nat) (w : World) (hn : n ≤ 1048576) (h1 : 1 ≤ n) (hr : Rd w A n 1 (ints ps)) (hl : ∀ g, A = some ⟨g, 0, none⟩ → g < w.heap.size) (hok : parOk ps) (hev : evenB ps = true) (hs : s < n) :
    Calls Try.prog 137 #[.agg #[.slice A n c, .slice B m d], .int .i64 s] w fun e w' => e = .returned (.int .i64 (lev ps s)) ∧ Below w.heap.size w w' := by
  have hpl := hr.ilen
  have hlv := lev_height hok (by omega) hev (s := s) (by omega)
  rw [hpl] at hlv
  have hd1 := dep_le hok (n - 1) (by omega)
  have hd2 := dep_le hok s (by omega)
  have hw1 : -9223372036854775808 ≤ (dep ps (n - 1) : Int) - dep ps s := by omega
  have hw2 : (dep ps (n - 1) : Int) - dep ps s ≤ 9223372036854775807 := by omega
  have hwr : IntKind.i64.wrap ((dep ps (n - 1) : Int) - dep ps s) = (dep ps (n - 1) : Int) - dep ps s := IntWalk.i64_in _ ⟨hw1, hw2⟩
  have HN := Lib.hid hn
  have HR := Lib.hid hr
  have HL := Lib.hid hl
  have HO := Lib.hid hok
  have HV := Lib.hid hlv.1
  clear hn hr hl hok hev hpl hlv hd1 hd2
  go_enter Try.func137, Try.ntmps137
  go_wp2
  refine wp_region_below (by kernel_rfl) (by kernel_rfl) (fun W hW => ?_)
  have W0 : W.cell? ⟨w.heap.size, 0, none⟩ = some (.slice A n c) := by rw [hW]; simp [go_sem]
  have WS : w.heap.size < W.heap.size := by rw [hW]; simp
  have WB : Below w.heap.size w W := by rw [hW]; exact (below_alloc _ _).drew
  have RDW := Lib.hid (HR.out.below HL.out WB)
  have HLW := Lib.hid (lt_below HL.out WB)
  have HWB := Lib.hid WB
  clear hW WB
  ((try dsimp only); repeat (first | (refine Det0.skip ?_ ?_; (focus (rfl; done)); (try simp only [putA, List.setIfInBounds_toArray, List.set_cons_zero, List.set_cons_succ])) | (refine Det0.pure ?_ ?_ ?_ ?_; rotate_left; (focus (rfl; done)); (focus ((intro w9 hJ); (have hk0 := fun o => hJ.cell (p := ⟨w.heap.size, o, none⟩) WS); go_simp; (first | with_reducible rfl | exact eq_if3 | exact neq_if3 | skip); done)); (try simp only [putA, List.setIfInBounds_toArray, List.set_cons_zero, List.set_cons_succ])) | (refine Det0.step ?_ ?_ ?_ ?_; rotate_left; (focus (rfl; done)); (focus ((intro w9 K hJ hK); (have hk0 := fun o => hJ.cell (p := ⟨w.heap.size, o, none⟩) WS); go_simp; (first | (go_at_call 169; refine (height_any A n c ps _ HN.out h1 (RDW.out.below HLW.out hJ) HO.out).mono ?_; rintro e w1 ⟨rfl, rfl⟩; exact hK.out _ hJ) | (go_at_call 133; refine (depth_any A n c ps s _ HN.out (RDW.out.below HLW.out hJ) HO.out hs).mono ?_; rintro e w1 ⟨rfl, rfl⟩; exact hK.out _ hJ)); done)); (try simp only [putA, List.setIfInBounds_toArray, List.set_cons_zero, List.set_cons_succ]))))
  refine Det0.nil (fun w9 hJ => ?_)
  go_wp2
  go_ret
  exact ⟨ret_int HV.out.symm, bstep HWB.out hJ⟩

set_option maxHeartbeats 2000000 in
theorem Level_any (A B : Option Addr) (n c m d : Nat) (ps : List Int) (ns : List Q) (s : Int) (w : World) (hn : n ≤ 1048576) (hm : m ≤ 1048576) (hr : Rd w A n 1 (ints ps)) (hq : Rd w B m 4 (flat ns)) (hl : ∀ g, A = some ⟨g, 0, none⟩ → g < w.heap.size) (hl2 : ∀ g, B = some ⟨g, 0, none⟩ → g < w.heap.size) :
    Calls Try.prog 73 #[.agg #[.slice A n c, .slice B m d], .int .i64 s] w fun e w' => e = .returned (.int .i64 (levelV ps ns s)) ∧ Below w.heap.size w w' := by
  have hpl := hr.ilen
  have hql : ns.length = m := by have := hq.1; rw [flat_len] at this; omega
  have hm1 : n ≤ 9223372036854775807 := by omega
  have hm2 : m ≤ 9223372036854775807 := by omega
  have HN := Lib.hid hn
  have HM := Lib.hid hm
  have HR := Lib.hid hr
  have HQ := Lib.hid hq
  have HP := Lib.hid hpl
  have HQL := Lib.hid hql
  have HL := Lib.hid hl
  have HL2 := Lib.hid hl2
  clear hn hm hr hq hpl hql hl hl2
  cases hh : hasB ps ns s
  · have hF : levelV ps ns s = -1 := by unfold levelV; rw [hh]; rfl
    have HF := Lib.hid hF
    clear hF
    go_enter Try.func73, Try.ntmps73
    go_wp2_with (go_at_call 136; refine (hasSwitch_any _ _ _ _ _ _ ps ns s _ HN.out HM.out (HR.out.below HL.out (below_alloc _ _)) (HQ.out.below HL2.out (below_alloc _ _)) (lt_below HL.out (below_alloc _ _)) (lt_below HL2.out (below_alloc _ _))).mono ?_; rintro e w1 ⟨rfl, hb1⟩; rw [hh]; have hk1 := fun o => hb1.cell (p := ⟨w.heap.size, o, none⟩) (by simp))
    go_ret
    exact ⟨ret_int HF.out.symm, (by repeat (first | exact Below.refl _ _ | assumption | (refine bstep ?_ (below_drewN _ _)) | exact bstep (by assumption) (by assumption) | (refine bstep ?_ (below_alloc _ _)) | (refine bstep ?_ (by assumption)) | (refine Below.setCell ?_ (by simp <;> omega) _) | refine Below.drew ?_))⟩
  · obtain ⟨htp, h0, h9⟩ := hasB_parts hh
    obtain ⟨sn, rfl⟩ : ∃ sn : Nat, s = sn := ⟨s.toNat, by omega⟩
    obtain ⟨h1, h24, _, _, hok, hev, _⟩ := topo_parts htp
    rw [HP.out] at h1 h9
    have hF : levelV ps ns (sn : Int) = lev ps sn := by unfold levelV; rw [hh]; rfl
    have HF := Lib.hid hF
    have HO := Lib.hid hok
    have HV := Lib.hid hev
    clear hF hok hev htp h24
    go_enter Try.func73, Try.ntmps73
    go_wp2_with (go_at_call 136; refine (hasSwitch_any _ _ _ _ _ _ ps ns (sn : Int) _ HN.out HM.out (HR.out.below HL.out (below_alloc _ _)) (HQ.out.below HL2.out (below_alloc _ _)) (lt_below HL.out (below_alloc _ _)) (lt_below HL2.out (below_alloc _ _))).mono ?_; rintro e w1 ⟨rfl, hb1⟩; rw [hh]; have hk1 := fun o => hb1.cell (p := ⟨w.heap.size, o, none⟩) (by simp))
    refine (level_any A B n c m d ps sn _ HN.out h1 (HR.out.below HL.out (by repeat (first | exact Below.refl _ _ | assumption | (refine bstep ?_ (below_drewN _ _)) | exact bstep (by assumption) (by assumption) | (refine bstep ?_ (below_alloc _ _)) | (refine bstep ?_ (by assumption)) | (refine Below.setCell ?_ (by simp <;> omega) _) | refine Below.drew ?_))) (lt_below HL.out (by repeat (first | exact Below.refl _ _ | assumption | (refine bstep ?_ (below_drewN _ _)) | exact bstep (by assumption) (by assumption) | (refine bstep ?_ (below_alloc _ _)) | (refine bstep ?_ (by assumption)) | (refine Below.setCell ?_ (by simp <;> omega) _) | refine Below.drew ?_))) HO.out HV.out (by omega)).mono ?_
    rintro e w2 ⟨rfl, hb2⟩
    go_wp2
    go_ret
    exact ⟨ret_int HF.out.symm, (by repeat (first | exact Below.refl _ _ | assumption | (refine bstep ?_ (below_drewN _ _)) | exact bstep (by assumption) (by assumption) | (refine bstep ?_ (below_alloc _ _)) | (refine bstep ?_ (by assumption)) | (refine Below.setCell ?_ (by simp <;> omega) _) | refine Below.drew ?_))⟩

set_option maxHeartbeats 2000000 in
theorem sLevel_any (A B : Option Addr) (n c m d : Nat) (ps : List Int) (ns : List Q) (s : Int) (w : World) (hn : n ≤ 1048576) (hm : m ≤ 1048576) (hr : Rd w A n 1 (ints ps)) (hq : Rd w B m 4 (flat ns)) (hl : ∀ g, A = some ⟨g, 0, none⟩ → g < w.heap.size) (hl2 : ∀ g, B = some ⟨g, 0, none⟩ → g < w.heap.size) :
    Calls Try.prog 72 #[.agg #[.slice A n c, .slice B m d], .int .i64 s] w fun e w' => e = .returned (.int .i64 (levelV ps ns s)) ∧ Below w.heap.size w w' := by
  have hpl := hr.ilen
  have hql : ns.length = m := by have := hq.1; rw [flat_len] at this; omega
  have hm1 : n ≤ 9223372036854775807 := by omega
  have hm2 : m ≤ 9223372036854775807 := by omega
  have HN := Lib.hid hn
  have HM := Lib.hid hm
  have HR := Lib.hid hr
  have HQ := Lib.hid hq
  have HP := Lib.hid hpl
  have HQL := Lib.hid hql
  have HL := Lib.hid hl
  have HL2 := Lib.hid hl2
  clear hn hm hr hq hpl hql hl hl2
  cases hh : hasB ps ns s
  · have hF : levelV ps ns s = -1 := by unfold levelV; rw [hh]; rfl
    have HF := Lib.hid hF
    clear hF
    go_enter Try.func72, Try.ntmps72
    go_wp2_with (go_at_call 135; refine (sSwitch_any _ _ _ _ _ _ ps ns s _ HN.out HM.out (HR.out.below HL.out (below_alloc _ _)) (HQ.out.below HL2.out (below_alloc _ _)) (lt_below HL.out (below_alloc _ _)) (lt_below HL2.out (below_alloc _ _))).mono ?_; rintro e w1 ⟨rfl, hb1⟩; rw [hh]; have hk1 := fun o => hb1.cell (p := ⟨w.heap.size, o, none⟩) (by simp))
    go_ret
    exact ⟨ret_int HF.out.symm, (by repeat (first | exact Below.refl _ _ | assumption | (refine bstep ?_ (below_drewN _ _)) | exact bstep (by assumption) (by assumption) | (refine bstep ?_ (below_alloc _ _)) | (refine bstep ?_ (by assumption)) | (refine Below.setCell ?_ (by simp <;> omega) _) | refine Below.drew ?_))⟩
  · obtain ⟨htp, h0, h9⟩ := hasB_parts hh
    obtain ⟨sn, rfl⟩ : ∃ sn : Nat, s = sn := ⟨s.toNat, by omega⟩
    obtain ⟨h1, h24, _, _, hok, hev, _⟩ := topo_parts htp
    rw [HP.out] at h1 h9
    have hF : levelV ps ns (sn : Int) = lev ps sn := by unfold levelV; rw [hh]; rfl
    have HF := Lib.hid hF
    have HO := Lib.hid hok
    have HV := Lib.hid hev
    clear hF hok hev htp h24
    go_enter Try.func72, Try.ntmps72
    go_wp2_with (go_at_call 135; refine (sSwitch_any _ _ _ _ _ _ ps ns (sn : Int) _ HN.out HM.out (HR.out.below HL.out (below_alloc _ _)) (HQ.out.below HL2.out (below_alloc _ _)) (lt_below HL.out (below_alloc _ _)) (lt_below HL2.out (below_alloc _ _))).mono ?_; rintro e w1 ⟨rfl, hb1⟩; rw [hh]; have hk1 := fun o => hb1.cell (p := ⟨w.heap.size, o, none⟩) (by simp))
    refine (slevel_any n A B n c m d ps sn _ (Nat.sub_le _ _) HN.out (HR.out.below HL.out (by repeat (first | exact Below.refl _ _ | assumption | (refine bstep ?_ (below_drewN _ _)) | exact bstep (by assumption) (by assumption) | (refine bstep ?_ (below_alloc _ _)) | (refine bstep ?_ (by assumption)) | (refine Below.setCell ?_ (by simp <;> omega) _) | refine Below.drew ?_))) (lt_below HL.out (by repeat (first | exact Below.refl _ _ | assumption | (refine bstep ?_ (below_drewN _ _)) | exact bstep (by assumption) (by assumption) | (refine bstep ?_ (below_alloc _ _)) | (refine bstep ?_ (by assumption)) | (refine Below.setCell ?_ (by simp <;> omega) _) | refine Below.drew ?_))) HO.out (by omega)).mono ?_
    rintro e w2 ⟨rfl, hb2⟩
    go_wp2
    go_ret
    exact ⟨ret_int HF.out.symm, (by repeat (first | exact Below.refl _ _ | assumption | (refine bstep ?_ (below_drewN _ _)) | exact bstep (by assumption) (by assumption) | (refine bstep ?_ (below_alloc _ _)) | (refine bstep ?_ (by assumption)) | (refine Below.setCell ?_ (by simp <;> omega) _) | refine Below.drew ?_))⟩
end Go.Proofs.Ytjnfdcojccgfoaa

/- Contracts of TopoText. -/
namespace Go.Proofs.Ytjnfdcojccgfoaa
set_option linter.unusedSimpArgs false
set_option linter.unusedVariables false
set_option linter.unnecessarySimpa false
open Go.RowKit
def swL : ByteArray := ⟨#[115, 119, 105, 116, 99, 104, 32]⟩
def nlB : ByteArray := ⟨#[10]⟩
def noL : ByteArray := ⟨#[110, 111, 100, 101, 32]⟩
def spB : ByteArray := ⟨#[32]⟩
def swF (s : ByteArray) (p : Int) : ByteArray := s ++ swL ++ txtB p ++ nlB
def noF (s : ByteArray) (q : Q) : ByteArray := s ++ noL ++ txtB q.t ++ spB ++ vtxtB q.a q.b q.c ++ nlB
def swN (ps : List Int) : Nat → ByteArray
  | 0 => ⟨#[]⟩
  | k + 1 => swF (swN ps k) (ps.getD (k + 1) 0)
def noN (b : ByteArray) (ns : List Q) : Nat → ByteArray
  | 0 => b
  | k + 1 => noF (noN b ns k) (ns.getD k ⟨0, 0, 0, 0⟩)
def topoTxt (ps : List Int) (ns : List Q) : ByteArray := noN (swN ps (ps.length - 1)) ns ns.length
def topoTextV (ps : List Int) (ns : List Q) : ByteArray := if topoOkB ps ns then topoTxt ps ns else ⟨#[]⟩
theorem vtxtB_size (a b c : Int) : (vtxtB a b c).size ≤ 32 := by
  unfold vtxtB
  split
  · have h1 := txtB_size a
    have h2 := txtB_size b
    have h3 := txtB_size c
    have h4 : slashB.size = 1 := rfl
    simp only [ByteArray.size_append]; omega
  · show 0 ≤ 32; omega
theorem swN_size (ps : List Int) : ∀ k, (swN ps k).size ≤ 18 * k
  | 0 => by show 0 ≤ _; omega
  | k + 1 => by
    have h := swN_size ps k
    have h1 := txtB_size (ps.getD (k + 1) 0)
    have h2 : swL.size = 7 := rfl
    have h3 : nlB.size = 1 := rfl
    show (swF (swN ps k) _).size ≤ _
    unfold swF
    simp only [ByteArray.size_append]; omega
theorem noN_size (b : ByteArray) (ns : List Q) : ∀ k, (noN b ns k).size ≤ b.size + 49 * k
  | 0 => by show b.size ≤ _; omega
  | k + 1 => by
    have h := noN_size b ns k
    have h1 := txtB_size (ns.getD k ⟨0, 0, 0, 0⟩).t
    have h4 := vtxtB_size (ns.getD k ⟨0, 0, 0, 0⟩).a (ns.getD k ⟨0, 0, 0, 0⟩).b (ns.getD k ⟨0, 0, 0, 0⟩).c
    have h2 : noL.size = 5 := rfl
    have h3 : nlB.size = 1 := rfl
    have h5 : spB.size = 1 := rfl
    show (noF (noN b ns k) _).size ≤ _
    unfold noF
    simp only [ByteArray.size_append]; omega
theorem topoTextV_size (ps : List Int) (ns : List Q) : (topoTextV ps ns).size ≤ 1700 := by
  unfold topoTextV
  split
  · rename_i h
    obtain ⟨_, h1, _, h2, _⟩ := topo_parts h
    have h3 := swN_size ps (ps.length - 1)
    have h4 := noN_size (swN ps (ps.length - 1)) ns ns.length
    unfold topoTxt; omega
  · show 0 ≤ 1700; omega
theorem getDq {ns : List Q} {k : Nat} {q : Q} (h : ns[k]? = some q) : ns.getD k ⟨0, 0, 0, 0⟩ = q := by simp [List.getD, h]
theorem own_cap {w : World} {lo : Nat} {e : TypeId} {size : Nat} {A : Option Addr} {n c : Nat} {xs : List Value} (h : w.ownsRow lo e size (.slice A n c) n xs) : n ≤ c ∧ c ≤ maxLen := by
  rcases h with ⟨_, ⟨hv, h0⟩ | ⟨g, cap, cur, hv, _, _, h1, h2, _⟩⟩
  · injection hv with _ a2 a3; subst a3; subst a2; exact ⟨Nat.le_refl _, by decide⟩
  · injection hv with _ _ a3; subst a3; exact ⟨h1, h2⟩

set_option maxHeartbeats 8000000 in
theorem stopoText_any (A B : Option Addr) (n c m d : Nat) (ps : List Int) (ns : List Q) (w : World) (hn : n ≤ 1048576) (hm : m ≤ 1048576) (hr : Rd w A n 1 (ints ps)) (hq : Rd w B m 4 (flat ns)) (hl : ∀ g, A = some ⟨g, 0, none⟩ → g < w.heap.size) (hl2 : ∀ g, B = some ⟨g, 0, none⟩ → g < w.heap.size)  :
    Calls Try.prog 77 #[.agg #[.slice A n c, .slice B m d]] w fun e w' => e = .returned (.string (topoTextV ps ns)) ∧ Below w.heap.size w w' := by
  have hpl := hr.ilen
  have hql : ns.length = m := by have := hq.1; rw [flat_len] at this; omega
  have hn9 : n ≤ 9223372036854775807 := by omega
  have hm9 : m ≤ 9223372036854775807 := by omega
  have HN := Lib.hid hn
  have HM := Lib.hid hm
  have HR := Lib.hid hr
  have HQ := Lib.hid hq
  have HL := Lib.hid hl
  have HL2 := Lib.hid hl2
  have HP := Lib.hid hpl
  have HQL := Lib.hid hql
  clear hn hm hr hq hl hl2 hpl hql
  cases ht : topoOkB ps ns
  · have HF : Hid (topoTextV ps ns = ⟨#[]⟩) := Lib.hid (by unfold topoTextV; rw [ht]; rfl)
    go_enter Try.func77, Try.ntmps77
    go_wp2_with fail
    refine (stopoOk_any A B n c m d ps ns  _ HN.out HM.out (HR.out.below HL.out (by repeat (first | exact Below.refl _ _ | assumption | (refine bstep ?_ (below_drewN _ _)) | exact bstep (by assumption) (by assumption) | (refine bstep ?_ (below_alloc _ _)) | (refine bstep ?_ (by assumption)) | (refine Below.setCell ?_ (by simp <;> omega) _) | refine Below.drew ?_))) (HQ.out.below HL2.out (by repeat (first | exact Below.refl _ _ | assumption | (refine bstep ?_ (below_drewN _ _)) | exact bstep (by assumption) (by assumption) | (refine bstep ?_ (below_alloc _ _)) | (refine bstep ?_ (by assumption)) | (refine Below.setCell ?_ (by simp <;> omega) _) | refine Below.drew ?_))) (lt_below HL.out (by repeat (first | exact Below.refl _ _ | assumption | (refine bstep ?_ (below_drewN _ _)) | exact bstep (by assumption) (by assumption) | (refine bstep ?_ (below_alloc _ _)) | (refine bstep ?_ (by assumption)) | (refine Below.setCell ?_ (by simp <;> omega) _) | refine Below.drew ?_))) (lt_below HL2.out (by repeat (first | exact Below.refl _ _ | assumption | (refine bstep ?_ (below_drewN _ _)) | exact bstep (by assumption) (by assumption) | (refine bstep ?_ (below_alloc _ _)) | (refine bstep ?_ (by assumption)) | (refine Below.setCell ?_ (by simp <;> omega) _) | refine Below.drew ?_)))).mono ?_
    rintro e w1 ⟨rfl, hb1⟩
    rw [ht]
    go_wp2
    go_ret
    exact ⟨congrArg (fun s => Ending.returned (.string s)) HF.out.symm, (by repeat (first | exact Below.refl _ _ | assumption | (refine bstep ?_ (below_drewN _ _)) | exact bstep (by assumption) (by assumption) | (refine bstep ?_ (below_alloc _ _)) | (refine bstep ?_ (by assumption)) | (refine Below.setCell ?_ (by simp <;> omega) _) | refine Below.drew ?_))⟩
  · have HF : Hid (topoTextV ps ns = topoTxt ps ns) := Lib.hid (by unfold topoTextV; rw [ht]; rfl)
    obtain ⟨h1n, h24, _, hm24, _⟩ := topo_parts ht
    rw [HP.out] at h1n h24
    rw [HQL.out] at hm24
    go_enter Try.func77, Try.ntmps77
    go_wp2_with fail
    refine (stopoOk_any A B n c m d ps ns  _ HN.out HM.out (HR.out.below HL.out (by repeat (first | exact Below.refl _ _ | assumption | (refine bstep ?_ (below_drewN _ _)) | exact bstep (by assumption) (by assumption) | (refine bstep ?_ (below_alloc _ _)) | (refine bstep ?_ (by assumption)) | (refine Below.setCell ?_ (by simp <;> omega) _) | refine Below.drew ?_))) (HQ.out.below HL2.out (by repeat (first | exact Below.refl _ _ | assumption | (refine bstep ?_ (below_drewN _ _)) | exact bstep (by assumption) (by assumption) | (refine bstep ?_ (below_alloc _ _)) | (refine bstep ?_ (by assumption)) | (refine Below.setCell ?_ (by simp <;> omega) _) | refine Below.drew ?_))) (lt_below HL.out (by repeat (first | exact Below.refl _ _ | assumption | (refine bstep ?_ (below_drewN _ _)) | exact bstep (by assumption) (by assumption) | (refine bstep ?_ (below_alloc _ _)) | (refine bstep ?_ (by assumption)) | (refine Below.setCell ?_ (by simp <;> omega) _) | refine Below.drew ?_))) (lt_below HL2.out (by repeat (first | exact Below.refl _ _ | assumption | (refine bstep ?_ (below_drewN _ _)) | exact bstep (by assumption) (by assumption) | (refine bstep ?_ (below_alloc _ _)) | (refine bstep ?_ (by assumption)) | (refine Below.setCell ?_ (by simp <;> omega) _) | refine Below.drew ?_)))).mono ?_
    rintro e w1 ⟨rfl, hb1⟩
    rw [ht]
    have hs1 := hb1.size
    (try simp at hs1)
    have hk10 := fun o => hb1.cell (p := ⟨w.heap.size, o, none⟩) (by simp)
    have hy10 : w.heap.size < w1.heap.size := by omega
    clear ht
    go_wp2
    go_loopw [3, 4] (fun a i wr => ∃ k : Nat, 1 ≤ k ∧ k ≤ n ∧ i = .int .i64 k ∧ a = .string (swN ps (k - 1)) ∧ Below w.heap.size w wr ∧ w.heap.size < wr.heap.size ∧ wr.cell? ⟨w.heap.size, 0, none⟩ = some (.slice A n c) ∧ wr.cell? ⟨w.heap.size, 1, none⟩ = some (.slice B m d)) (fun _ i _ => n - (intOf i).toNat)
    case atStart => exact ⟨1, Nat.le_refl _, h1n, rfl, rfl, (by repeat (first | exact Below.refl _ _ | assumption | (refine bstep ?_ (below_drewN _ _)) | exact bstep (by assumption) (by assumption) | (refine bstep ?_ (below_alloc _ _)) | (refine bstep ?_ (by assumption)) | (refine Below.setCell ?_ (by simp <;> omega) _) | refine Below.drew ?_)), hy10, by simp [go_sem, *], by simp [go_sem, *]⟩
    case round =>
      obtain ⟨k, hk1, hk, rfl, rfl, hbw, hy0, bx0, bx1⟩ := hrel
      by_cases hlt : k < n
      · have hlt' : (k : Int) < n := by omega
        obtain ⟨g, z, rfl, hz, d0⟩ := HR.out.int (show k < n by omega)
        have hg := HL.out g rfl
        have D0 : wr.cell? ⟨g, k, none⟩ = some (.int .i64 z) := by rw [show k = k by omega]; exact (hbw.cell (p := ⟨g, k, none⟩) hg).trans d0
        have HZ := Lib.hid (getD_of hz)
        have hzs := swN_size ps (k - 1)
        have hzb : (swN ps (k - 1)).size ≤ 1000 := by omega
        have HNX : Hid (swN ps ((k - 1) + 1) = swF (swN ps (k - 1)) z) := Lib.hid (by show swF _ (ps.getD ((k - 1) + 1) 0) = _; rw [show (k - 1) + 1 = k by omega, HZ.out])
        have HB := Lib.hid hbw
        have z1 := txtB_size z
        clear hz d0 hzs hbw
        generalize swN ps (k - 1) = st at hzb HNX ⊢
        have l7 : (⟨#[115, 119, 105, 116, 99, 104, 32]⟩ : ByteArray).size = 7 := rfl
        have l1 : (⟨#[10]⟩ : ByteArray).size = 1 := rfl
        have q1 : ¬ 9223372036854775807 < st.size + 7 := by omega
        have q2 : ¬ 9223372036854775807 < st.size + 7 + (txtB z).size := by omega
        have q3 : ¬ 9223372036854775807 < st.size + 7 + (txtB z).size + 1 := by omega
        go_wp2_with fail
        refine (sNumText_full z _).mono ?_
        rintro e w2 ⟨rfl, hb2⟩
        have hs2 := hb2.size
        have y0 := (hb2.cell (p := ⟨w.heap.size, 0, none⟩) hy0)
        have y1 := (hb2.cell (p := ⟨w.heap.size, 1, none⟩) hy0).trans bx1
        have y2 := y0.trans bx0
        go_wp2
        go_roundw
        case rel => exact ⟨k + 1, by omega, by omega, by go_num, by rw [show k + 1 - 1 = k - 1 + 1 by omega, HNX.out]; rfl, bstep HB.out hb2, by omega, y2, y1⟩
        case measure => simp [intOf]; omega
      · skip
        have hk9 : k = n := by omega
        have HSW : Hid (swN ps (k - 1) = swN ps (ps.length - 1)) := Lib.hid (by rw [HP.out, hk9])
        have hzs := swN_size ps (k - 1)
        have hzb : (swN ps (k - 1)).size ≤ 1000 := by omega
        have HB := Lib.hid hbw
        subst hk9
        clear hzs hbw
        generalize swN ps (k - 1) = st at hzb HSW ⊢
        go_wp2
        go_loopw [3, 30] (fun a v wi => ∃ j : Nat, j ≤ m ∧ v = .int .i64 j ∧ a = .string (noN st ns j) ∧ Below w.heap.size w wi ∧ w.heap.size < wi.heap.size) (fun _ v _ => m - (intOf v).toNat)
        case atStart => exact ⟨0, Nat.zero_le _, rfl, rfl, HB.out, hy0⟩
        case round =>
        obtain ⟨j, hj, rfl, rfl, hbi, hyi⟩ := hrel
        obtain ⟨wi, rfl⟩ : ∃ wi : World, wi = wr := ⟨_, rfl⟩
        by_cases hlti : j < m
        · have hlti' : (j : Int) < m := by omega
          obtain ⟨g', q, rfl, hqx, c0, c1, c2, c3⟩ := HQ.out.q hlti
          have hg' := HL2.out g' rfl
          have C0 := (hbi.cell (p := ⟨g', j * 4, none⟩) hg').trans c0
          have C1 := (hbi.cell (p := ⟨g', j * 4 + 1, none⟩) hg').trans c1
          have C2 := (hbi.cell (p := ⟨g', j * 4 + 2, none⟩) hg').trans c2
          have C3 := (hbi.cell (p := ⟨g', j * 4 + 3, none⟩) hg').trans c3
          have hgr' : g' < wi.heap.size := Nat.lt_of_lt_of_le hg' hbi.size
          have hzs2 := noN_size st ns j
          have hzb2 : (noN st ns j).size ≤ 10000 := by omega
          have HNY : Hid (noN st ns (j + 1) = noF (noN st ns j) q) := Lib.hid (by show noF _ (ns.getD j ⟨0, 0, 0, 0⟩) = _; rw [getDq hqx])
          have HBI := Lib.hid hbi
          have z1 := txtB_size q.t
          have z2 := vtxtB_size q.a q.b q.c
          clear hqx c0 c1 c2 c3 hbi hzs2
          generalize noN st ns j = su at hzb2 HNY ⊢
          have l5 : (⟨#[110, 111, 100, 101, 32]⟩ : ByteArray).size = 5 := rfl
          have l1 : (⟨#[10]⟩ : ByteArray).size = 1 := rfl
          have l2 : (⟨#[32]⟩ : ByteArray).size = 1 := rfl
          have q1 : ¬ 9223372036854775807 < su.size + 5 := by omega
          have q2 : ¬ 9223372036854775807 < su.size + 5 + (txtB q.t).size := by omega
          have q3 : ¬ 9223372036854775807 < su.size + 5 + (txtB q.t).size + 1 := by omega
          have q4 : ¬ 9223372036854775807 < su.size + 5 + (txtB q.t).size + 1 + (vtxtB q.a q.b q.c).size := by omega
          have q5 : ¬ 9223372036854775807 < su.size + 5 + (txtB q.t).size + 1 + (vtxtB q.a q.b q.c).size + 1 := by omega
          go_wp2
          go_region_held3 (fun w' => w'.cell? ⟨wi.heap.size, 0, none⟩ = some (.int .i64 q.t) ∧ w'.cell? ⟨wi.heap.size, 1, none⟩ = some (.int .i64 q.a) ∧ w'.cell? ⟨wi.heap.size, 2, none⟩ = some (.int .i64 q.b) ∧ w'.cell? ⟨wi.heap.size, 3, none⟩ = some (.int .i64 q.c)) (simp [go_sem, *, World.cell?_alloc_some, World.cell?_setCell_far, Nat.lt_add_right, Nat.ne_of_gt]) (first | (go_at_call 142; refine (sNumText_full q.t _).mono ?_; rintro e w2 ⟨rfl, hb2⟩; have hs2 := hb2.size; (try simp at hs2); have y2 := fun o => hb2.cell (p := ⟨w.heap.size, o, none⟩) (by first | omega | (simp <;> omega)); have x2 := fun o => hb2.cell (p := ⟨wi.heap.size, o, none⟩) (by simp)) | (go_at_call 143; refine (svecText_any q.a q.b q.c _).mono ?_; rintro e w3 ⟨rfl, hb3⟩; have hs3 := hb3.size; (try simp at hs3); have y3 := fun o => hb3.cell (p := ⟨w.heap.size, o, none⟩) (by first | omega | (simp <;> omega)); have x3 := fun o => hb3.cell (p := ⟨wi.heap.size, o, none⟩) (by first | omega | (simp <;> omega))))
          go_wp2
          go_roundw
          case rel => exact ⟨j + 1, by omega, by go_num, by rw [HNY.out]; rfl, by have := HBI.out; repeat (first | exact Below.refl _ _ | assumption | (refine bstep ?_ (below_drewN _ _)) | exact bstep (by assumption) (by assumption) | (refine bstep ?_ (below_alloc _ _)) | (refine bstep ?_ (by assumption)) | (refine Below.setCell ?_ (by simp <;> omega) _) | refine Below.drew ?_), by omega⟩
          case measure => simp [intOf]; omega
        · have hj9 : j = m := by omega
          have HFIN : Hid (noN st ns j = topoTxt ps ns) := Lib.hid (by unfold topoTxt; rw [HSW.out, hj9, HQL.out])
          have HBI := Lib.hid hbi
          clear hbi
          go_wp2
          go_ret
          exact ⟨congrArg (fun s => Ending.returned (.string s)) (HFIN.out.trans HF.out.symm), HBI.out⟩

set_option maxHeartbeats 8000000 in
theorem topoText_any (A B : Option Addr) (n c m d : Nat) (ps : List Int) (ns : List Q) (w : World) (hn : n ≤ 1048576) (hm : m ≤ 1048576) (hr : Rd w A n 1 (ints ps)) (hq : Rd w B m 4 (flat ns)) (hl : ∀ g, A = some ⟨g, 0, none⟩ → g < w.heap.size) (hl2 : ∀ g, B = some ⟨g, 0, none⟩ → g < w.heap.size) (hnc : n ≤ c) (hc9 : c ≤ 9223372036854775807) :
    Calls Try.prog 78 #[.agg #[.slice A n c, .slice B m d]] w fun e w' => e = .returned (.string (topoTextV ps ns)) ∧ Below w.heap.size w w' := by
  have hpl := hr.ilen
  have hql : ns.length = m := by have := hq.1; rw [flat_len] at this; omega
  have hn9 : n ≤ 9223372036854775807 := by omega
  have hm9 : m ≤ 9223372036854775807 := by omega
  have HN := Lib.hid hn
  have HM := Lib.hid hm
  have HR := Lib.hid hr
  have HQ := Lib.hid hq
  have HL := Lib.hid hl
  have HL2 := Lib.hid hl2
  have HP := Lib.hid hpl
  have HQL := Lib.hid hql
  clear hn hm hr hq hl hl2 hpl hql
  cases ht : topoOkB ps ns
  · have HF : Hid (topoTextV ps ns = ⟨#[]⟩) := Lib.hid (by unfold topoTextV; rw [ht]; rfl)
    go_enter Try.func78, Try.ntmps78
    go_wp2_with fail
    refine (topoOk_any A B n c m d ps ns  _ HN.out HM.out (HR.out.below HL.out (by repeat (first | exact Below.refl _ _ | assumption | (refine bstep ?_ (below_drewN _ _)) | exact bstep (by assumption) (by assumption) | (refine bstep ?_ (below_alloc _ _)) | (refine bstep ?_ (by assumption)) | (refine Below.setCell ?_ (by simp <;> omega) _) | refine Below.drew ?_))) (HQ.out.below HL2.out (by repeat (first | exact Below.refl _ _ | assumption | (refine bstep ?_ (below_drewN _ _)) | exact bstep (by assumption) (by assumption) | (refine bstep ?_ (below_alloc _ _)) | (refine bstep ?_ (by assumption)) | (refine Below.setCell ?_ (by simp <;> omega) _) | refine Below.drew ?_))) (lt_below HL.out (by repeat (first | exact Below.refl _ _ | assumption | (refine bstep ?_ (below_drewN _ _)) | exact bstep (by assumption) (by assumption) | (refine bstep ?_ (below_alloc _ _)) | (refine bstep ?_ (by assumption)) | (refine Below.setCell ?_ (by simp <;> omega) _) | refine Below.drew ?_))) (lt_below HL2.out (by repeat (first | exact Below.refl _ _ | assumption | (refine bstep ?_ (below_drewN _ _)) | exact bstep (by assumption) (by assumption) | (refine bstep ?_ (below_alloc _ _)) | (refine bstep ?_ (by assumption)) | (refine Below.setCell ?_ (by simp <;> omega) _) | refine Below.drew ?_)))).mono ?_
    rintro e w1 ⟨rfl, hb1⟩
    rw [ht]
    go_wp2
    go_ret
    exact ⟨congrArg (fun s => Ending.returned (.string s)) HF.out.symm, (by repeat (first | exact Below.refl _ _ | assumption | (refine bstep ?_ (below_drewN _ _)) | exact bstep (by assumption) (by assumption) | (refine bstep ?_ (below_alloc _ _)) | (refine bstep ?_ (by assumption)) | (refine Below.setCell ?_ (by simp <;> omega) _) | refine Below.drew ?_))⟩
  · have HF : Hid (topoTextV ps ns = topoTxt ps ns) := Lib.hid (by unfold topoTextV; rw [ht]; rfl)
    obtain ⟨h1n, h24, _, hm24, _⟩ := topo_parts ht
    rw [HP.out] at h1n h24
    rw [HQL.out] at hm24
    obtain ⟨gA, zA, rfl, _, _⟩ := HR.out.int (show 0 < n by omega)
    by_cases hc1 : c = 1
    · subst hc1
      go_enter Try.func78, Try.ntmps78
      go_wp2_with fail
      refine (topoOk_any (some ⟨gA, 0, none⟩) B n 1 m d ps ns  _ HN.out HM.out (HR.out.below HL.out (by repeat (first | exact Below.refl _ _ | assumption | (refine bstep ?_ (below_drewN _ _)) | exact bstep (by assumption) (by assumption) | (refine bstep ?_ (below_alloc _ _)) | (refine bstep ?_ (by assumption)) | (refine Below.setCell ?_ (by simp <;> omega) _) | refine Below.drew ?_))) (HQ.out.below HL2.out (by repeat (first | exact Below.refl _ _ | assumption | (refine bstep ?_ (below_drewN _ _)) | exact bstep (by assumption) (by assumption) | (refine bstep ?_ (below_alloc _ _)) | (refine bstep ?_ (by assumption)) | (refine Below.setCell ?_ (by simp <;> omega) _) | refine Below.drew ?_))) (lt_below HL.out (by repeat (first | exact Below.refl _ _ | assumption | (refine bstep ?_ (below_drewN _ _)) | exact bstep (by assumption) (by assumption) | (refine bstep ?_ (below_alloc _ _)) | (refine bstep ?_ (by assumption)) | (refine Below.setCell ?_ (by simp <;> omega) _) | refine Below.drew ?_))) (lt_below HL2.out (by repeat (first | exact Below.refl _ _ | assumption | (refine bstep ?_ (below_drewN _ _)) | exact bstep (by assumption) (by assumption) | (refine bstep ?_ (below_alloc _ _)) | (refine bstep ?_ (by assumption)) | (refine Below.setCell ?_ (by simp <;> omega) _) | refine Below.drew ?_)))).mono ?_
      rintro e w1 ⟨rfl, hb1⟩
      rw [ht]
      have hs1 := hb1.size
      (try simp at hs1)
      have hk10 := fun o => hb1.cell (p := ⟨w.heap.size, o, none⟩) (by simp)
      have hy10 : w.heap.size < w1.heap.size := by omega
      clear ht
      go_wp2
      go_loopw [3, 15] (fun a i wr => ∃ k : Nat, k ≤ n - 1 ∧ i = .int .i64 k ∧ a = .string (swN ps k) ∧ Below w.heap.size w wr ∧ w.heap.size < wr.heap.size ∧ wr.cell? ⟨w.heap.size, 1, none⟩ = some (.slice B m d)) (fun _ i _ => n - (intOf i).toNat)
      case atStart => exact ⟨0, Nat.zero_le _, rfl, rfl, (by repeat (first | exact Below.refl _ _ | assumption | (refine bstep ?_ (below_drewN _ _)) | exact bstep (by assumption) (by assumption) | (refine bstep ?_ (below_alloc _ _)) | (refine bstep ?_ (by assumption)) | (refine Below.setCell ?_ (by simp <;> omega) _) | refine Below.drew ?_)), hy10, by simp [go_sem, *]⟩
      case round =>
        obtain ⟨k, hk, rfl, rfl, hbw, hy0, bx1⟩ := hrel
        by_cases hlt : k < n - 1
        · have hlt' : (k : Int) < (n : Int) - 1 := by omega
          exact absurd hlt (by omega)
        · skip
          have hk9 : k = n - 1 := by omega
          have HSW : Hid (swN ps k = swN ps (ps.length - 1)) := Lib.hid (by rw [HP.out, hk9])
          have hzs := swN_size ps k
          have hzb : (swN ps k).size ≤ 1000 := by omega
          have HB := Lib.hid hbw
          clear hk9
          clear hzs hbw
          generalize swN ps k = st at hzb HSW ⊢
          go_wp2
          go_loopw [3, 29] (fun a v wi => ∃ j : Nat, j ≤ m ∧ v = .int .i64 j ∧ a = .string (noN st ns j) ∧ Below w.heap.size w wi ∧ w.heap.size < wi.heap.size) (fun _ v _ => m - (intOf v).toNat)
          case atStart => exact ⟨0, Nat.zero_le _, rfl, rfl, HB.out, hy0⟩
          case round =>
          obtain ⟨j, hj, rfl, rfl, hbi, hyi⟩ := hrel
          obtain ⟨wi, rfl⟩ : ∃ wi : World, wi = wr := ⟨_, rfl⟩
          by_cases hlti : j < m
          · have hlti' : (j : Int) < m := by omega
            obtain ⟨g', q, rfl, hqx, c0, c1, c2, c3⟩ := HQ.out.q hlti
            have hg' := HL2.out g' rfl
            have C0 := (hbi.cell (p := ⟨g', j * 4, none⟩) hg').trans c0
            have C1 := (hbi.cell (p := ⟨g', j * 4 + 1, none⟩) hg').trans c1
            have C2 := (hbi.cell (p := ⟨g', j * 4 + 2, none⟩) hg').trans c2
            have C3 := (hbi.cell (p := ⟨g', j * 4 + 3, none⟩) hg').trans c3
            have hgr' : g' < wi.heap.size := Nat.lt_of_lt_of_le hg' hbi.size
            have hzs2 := noN_size st ns j
            have hzb2 : (noN st ns j).size ≤ 10000 := by omega
            have HNY : Hid (noN st ns (j + 1) = noF (noN st ns j) q) := Lib.hid (by show noF _ (ns.getD j ⟨0, 0, 0, 0⟩) = _; rw [getDq hqx])
            have HBI := Lib.hid hbi
            have z1 := txtB_size q.t
            have z2 := vtxtB_size q.a q.b q.c
            clear hqx c0 c1 c2 c3 hbi hzs2
            generalize noN st ns j = su at hzb2 HNY ⊢
            have l5 : (⟨#[110, 111, 100, 101, 32]⟩ : ByteArray).size = 5 := rfl
            have l1 : (⟨#[10]⟩ : ByteArray).size = 1 := rfl
            have l2 : (⟨#[32]⟩ : ByteArray).size = 1 := rfl
            have q1 : ¬ 9223372036854775807 < su.size + 5 := by omega
            have q2 : ¬ 9223372036854775807 < su.size + 5 + (txtB q.t).size := by omega
            have q3 : ¬ 9223372036854775807 < su.size + 5 + (txtB q.t).size + 1 := by omega
            have q4 : ¬ 9223372036854775807 < su.size + 5 + (txtB q.t).size + 1 + (vtxtB q.a q.b q.c).size := by omega
            have q5 : ¬ 9223372036854775807 < su.size + 5 + (txtB q.t).size + 1 + (vtxtB q.a q.b q.c).size + 1 := by omega
            go_wp2
            go_region_held3 (fun w' => w'.cell? ⟨wi.heap.size, 0, none⟩ = some (.int .i64 q.t) ∧ w'.cell? ⟨wi.heap.size, 1, none⟩ = some (.int .i64 q.a) ∧ w'.cell? ⟨wi.heap.size, 2, none⟩ = some (.int .i64 q.b) ∧ w'.cell? ⟨wi.heap.size, 3, none⟩ = some (.int .i64 q.c)) (simp [go_sem, *, World.cell?_alloc_some, World.cell?_setCell_far, Nat.lt_add_right, Nat.ne_of_gt]) (first | (go_at_call 120; refine (numText_full q.t _).mono ?_; rintro e w2 ⟨rfl, hb2⟩; have hs2 := hb2.size; (try simp at hs2); have y2 := fun o => hb2.cell (p := ⟨w.heap.size, o, none⟩) (by first | omega | (simp <;> omega)); have x2 := fun o => hb2.cell (p := ⟨wi.heap.size, o, none⟩) (by simp)) | (go_at_call 50; refine (vecText_any q.a q.b q.c _).mono ?_; rintro e w3 ⟨rfl, hb3⟩; have hs3 := hb3.size; (try simp at hs3); have y3 := fun o => hb3.cell (p := ⟨w.heap.size, o, none⟩) (by first | omega | (simp <;> omega)); have x3 := fun o => hb3.cell (p := ⟨wi.heap.size, o, none⟩) (by first | omega | (simp <;> omega))))
            go_wp2
            go_roundw
            case rel => exact ⟨j + 1, by omega, by go_num, by rw [HNY.out]; rfl, by have := HBI.out; repeat (first | exact Below.refl _ _ | assumption | (refine bstep ?_ (below_drewN _ _)) | exact bstep (by assumption) (by assumption) | (refine bstep ?_ (below_alloc _ _)) | (refine bstep ?_ (by assumption)) | (refine Below.setCell ?_ (by simp <;> omega) _) | refine Below.drew ?_), by omega⟩
            case measure => simp [intOf]; omega
          · have hj9 : j = m := by omega
            have HFIN : Hid (noN st ns j = topoTxt ps ns) := Lib.hid (by unfold topoTxt; rw [HSW.out, hj9, HQL.out])
            have HBI := Lib.hid hbi
            clear hbi
            go_wp2
            go_ret
            exact ⟨congrArg (fun s => Ending.returned (.string s)) (HFIN.out.trans HF.out.symm), HBI.out⟩
    · have hc2 : ¬ 1 = c := fun h => hc1 h.symm
      have hc3 : (1 : Int) ≤ (c : Int) := by omega
      go_enter Try.func78, Try.ntmps78
      go_wp2_with fail
      refine (topoOk_any (some ⟨gA, 0, none⟩) B n c m d ps ns  _ HN.out HM.out (HR.out.below HL.out (by repeat (first | exact Below.refl _ _ | assumption | (refine bstep ?_ (below_drewN _ _)) | exact bstep (by assumption) (by assumption) | (refine bstep ?_ (below_alloc _ _)) | (refine bstep ?_ (by assumption)) | (refine Below.setCell ?_ (by simp <;> omega) _) | refine Below.drew ?_))) (HQ.out.below HL2.out (by repeat (first | exact Below.refl _ _ | assumption | (refine bstep ?_ (below_drewN _ _)) | exact bstep (by assumption) (by assumption) | (refine bstep ?_ (below_alloc _ _)) | (refine bstep ?_ (by assumption)) | (refine Below.setCell ?_ (by simp <;> omega) _) | refine Below.drew ?_))) (lt_below HL.out (by repeat (first | exact Below.refl _ _ | assumption | (refine bstep ?_ (below_drewN _ _)) | exact bstep (by assumption) (by assumption) | (refine bstep ?_ (below_alloc _ _)) | (refine bstep ?_ (by assumption)) | (refine Below.setCell ?_ (by simp <;> omega) _) | refine Below.drew ?_))) (lt_below HL2.out (by repeat (first | exact Below.refl _ _ | assumption | (refine bstep ?_ (below_drewN _ _)) | exact bstep (by assumption) (by assumption) | (refine bstep ?_ (below_alloc _ _)) | (refine bstep ?_ (by assumption)) | (refine Below.setCell ?_ (by simp <;> omega) _) | refine Below.drew ?_)))).mono ?_
      rintro e w1 ⟨rfl, hb1⟩
      rw [ht]
      have hs1 := hb1.size
      (try simp at hs1)
      have hk10 := fun o => hb1.cell (p := ⟨w.heap.size, o, none⟩) (by simp)
      have hy10 : w.heap.size < w1.heap.size := by omega
      clear ht
      go_wp2
      go_loopw [3, 15] (fun a i wr => ∃ k : Nat, k ≤ n - 1 ∧ i = .int .i64 k ∧ a = .string (swN ps k) ∧ Below w.heap.size w wr ∧ w.heap.size < wr.heap.size ∧ wr.cell? ⟨w.heap.size, 1, none⟩ = some (.slice B m d)) (fun _ i _ => n - (intOf i).toNat)
      case atStart => exact ⟨0, Nat.zero_le _, rfl, rfl, (by repeat (first | exact Below.refl _ _ | assumption | (refine bstep ?_ (below_drewN _ _)) | exact bstep (by assumption) (by assumption) | (refine bstep ?_ (below_alloc _ _)) | (refine bstep ?_ (by assumption)) | (refine Below.setCell ?_ (by simp <;> omega) _) | refine Below.drew ?_)), hy10, by simp [go_sem, *]⟩
      case round =>
        obtain ⟨k, hk, rfl, rfl, hbw, hy0, bx1⟩ := hrel
        by_cases hlt : k < n - 1
        · have hlt' : (k : Int) < (n : Int) - 1 := by omega
          obtain ⟨g, z, hgA, hz, d0⟩ := HR.out.int (show k + 1 < n by omega)
          obtain rfl : gA = g := by simpa using hgA
          have hg := HL.out gA rfl
          have D0 : wr.cell? ⟨gA, 1 + k, none⟩ = some (.int .i64 z) := by rw [show 1 + k = k + 1 by omega]; exact (hbw.cell (p := ⟨gA, k + 1, none⟩) hg).trans d0
          have HZ := Lib.hid (getD_of hz)
          have hzs := swN_size ps k
          have hzb : (swN ps k).size ≤ 1000 := by omega
          have HNX : Hid (swN ps (k + 1) = swF (swN ps k) z) := Lib.hid (by show swF _ (ps.getD (k + 1) 0) = _; rw [show k + 1 = k + 1 by omega, HZ.out])
          have HB := Lib.hid hbw
          have z1 := txtB_size z
          clear hz d0 hzs hbw
          generalize swN ps k = st at hzb HNX ⊢
          have l7 : (⟨#[115, 119, 105, 116, 99, 104, 32]⟩ : ByteArray).size = 7 := rfl
          have l1 : (⟨#[10]⟩ : ByteArray).size = 1 := rfl
          have q1 : ¬ 9223372036854775807 < st.size + 7 := by omega
          have q2 : ¬ 9223372036854775807 < st.size + 7 + (txtB z).size := by omega
          have q3 : ¬ 9223372036854775807 < st.size + 7 + (txtB z).size + 1 := by omega
          go_wp2_with fail
          refine (numText_full z _).mono ?_
          rintro e w2 ⟨rfl, hb2⟩
          have hs2 := hb2.size
          have y0 := (hb2.cell (p := ⟨w.heap.size, 0, none⟩) hy0)
          have y1 := (hb2.cell (p := ⟨w.heap.size, 1, none⟩) hy0).trans bx1
          clear y0
          go_wp2
          go_roundw
          case rel => exact ⟨k + 1, by omega, by go_num, by rw [HNX.out]; rfl, bstep HB.out hb2, by omega, y1⟩
          case measure => simp [intOf]; omega
        · skip
          have hk9 : k = n - 1 := by omega
          have HSW : Hid (swN ps k = swN ps (ps.length - 1)) := Lib.hid (by rw [HP.out, hk9])
          have hzs := swN_size ps k
          have hzb : (swN ps k).size ≤ 1000 := by omega
          have HB := Lib.hid hbw
          clear hk9
          clear hzs hbw
          generalize swN ps k = st at hzb HSW ⊢
          go_wp2
          go_loopw [3, 29] (fun a v wi => ∃ j : Nat, j ≤ m ∧ v = .int .i64 j ∧ a = .string (noN st ns j) ∧ Below w.heap.size w wi ∧ w.heap.size < wi.heap.size) (fun _ v _ => m - (intOf v).toNat)
          case atStart => exact ⟨0, Nat.zero_le _, rfl, rfl, HB.out, hy0⟩
          case round =>
          obtain ⟨j, hj, rfl, rfl, hbi, hyi⟩ := hrel
          obtain ⟨wi, rfl⟩ : ∃ wi : World, wi = wr := ⟨_, rfl⟩
          by_cases hlti : j < m
          · have hlti' : (j : Int) < m := by omega
            obtain ⟨g', q, rfl, hqx, c0, c1, c2, c3⟩ := HQ.out.q hlti
            have hg' := HL2.out g' rfl
            have C0 := (hbi.cell (p := ⟨g', j * 4, none⟩) hg').trans c0
            have C1 := (hbi.cell (p := ⟨g', j * 4 + 1, none⟩) hg').trans c1
            have C2 := (hbi.cell (p := ⟨g', j * 4 + 2, none⟩) hg').trans c2
            have C3 := (hbi.cell (p := ⟨g', j * 4 + 3, none⟩) hg').trans c3
            have hgr' : g' < wi.heap.size := Nat.lt_of_lt_of_le hg' hbi.size
            have hzs2 := noN_size st ns j
            have hzb2 : (noN st ns j).size ≤ 10000 := by omega
            have HNY : Hid (noN st ns (j + 1) = noF (noN st ns j) q) := Lib.hid (by show noF _ (ns.getD j ⟨0, 0, 0, 0⟩) = _; rw [getDq hqx])
            have HBI := Lib.hid hbi
            have z1 := txtB_size q.t
            have z2 := vtxtB_size q.a q.b q.c
            clear hqx c0 c1 c2 c3 hbi hzs2
            generalize noN st ns j = su at hzb2 HNY ⊢
            have l5 : (⟨#[110, 111, 100, 101, 32]⟩ : ByteArray).size = 5 := rfl
            have l1 : (⟨#[10]⟩ : ByteArray).size = 1 := rfl
            have l2 : (⟨#[32]⟩ : ByteArray).size = 1 := rfl
            have q1 : ¬ 9223372036854775807 < su.size + 5 := by omega
            have q2 : ¬ 9223372036854775807 < su.size + 5 + (txtB q.t).size := by omega
            have q3 : ¬ 9223372036854775807 < su.size + 5 + (txtB q.t).size + 1 := by omega
            have q4 : ¬ 9223372036854775807 < su.size + 5 + (txtB q.t).size + 1 + (vtxtB q.a q.b q.c).size := by omega
            have q5 : ¬ 9223372036854775807 < su.size + 5 + (txtB q.t).size + 1 + (vtxtB q.a q.b q.c).size + 1 := by omega
            go_wp2
            go_region_held3 (fun w' => w'.cell? ⟨wi.heap.size, 0, none⟩ = some (.int .i64 q.t) ∧ w'.cell? ⟨wi.heap.size, 1, none⟩ = some (.int .i64 q.a) ∧ w'.cell? ⟨wi.heap.size, 2, none⟩ = some (.int .i64 q.b) ∧ w'.cell? ⟨wi.heap.size, 3, none⟩ = some (.int .i64 q.c)) (simp [go_sem, *, World.cell?_alloc_some, World.cell?_setCell_far, Nat.lt_add_right, Nat.ne_of_gt]) (first | (go_at_call 120; refine (numText_full q.t _).mono ?_; rintro e w2 ⟨rfl, hb2⟩; have hs2 := hb2.size; (try simp at hs2); have y2 := fun o => hb2.cell (p := ⟨w.heap.size, o, none⟩) (by first | omega | (simp <;> omega)); have x2 := fun o => hb2.cell (p := ⟨wi.heap.size, o, none⟩) (by simp)) | (go_at_call 50; refine (vecText_any q.a q.b q.c _).mono ?_; rintro e w3 ⟨rfl, hb3⟩; have hs3 := hb3.size; (try simp at hs3); have y3 := fun o => hb3.cell (p := ⟨w.heap.size, o, none⟩) (by first | omega | (simp <;> omega)); have x3 := fun o => hb3.cell (p := ⟨wi.heap.size, o, none⟩) (by first | omega | (simp <;> omega))))
            go_wp2
            go_roundw
            case rel => exact ⟨j + 1, by omega, by go_num, by rw [HNY.out]; rfl, by have := HBI.out; repeat (first | exact Below.refl _ _ | assumption | (refine bstep ?_ (below_drewN _ _)) | exact bstep (by assumption) (by assumption) | (refine bstep ?_ (below_alloc _ _)) | (refine bstep ?_ (by assumption)) | (refine Below.setCell ?_ (by simp <;> omega) _) | refine Below.drew ?_), by omega⟩
            case measure => simp [intOf]; omega
          · have hj9 : j = m := by omega
            have HFIN : Hid (noN st ns j = topoTxt ps ns) := Lib.hid (by unfold topoTxt; rw [HSW.out, hj9, HQL.out])
            have HBI := Lib.hid hbi
            clear hbi
            go_wp2
            go_ret
            exact ⟨congrArg (fun s => Ending.returned (.string s)) (HFIN.out.trans HF.out.symm), HBI.out⟩
end Go.Proofs.Ytjnfdcojccgfoaa
