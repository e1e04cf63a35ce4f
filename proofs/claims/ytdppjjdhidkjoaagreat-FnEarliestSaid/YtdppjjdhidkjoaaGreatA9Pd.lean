import Derived.Test.YtdppjjdhidkjoaaGreatA6Pd
import Derived.Test.YtdppjjdhidkjoaaGreatA3Pd
import Derived.Test.YtdppjjdhidkjoaaGreatA2Pd
namespace Go.Proofs.YtdppjjdhidkjoaaGreat
set_option linter.unusedSimpArgs false
set_option linter.unusedVariables false
set_option linter.unnecessarySimpa false
open Go.RowKit
def hasB (ps : List Int) (ns : List Q) (s : Int) : Bool := topoOkB ps ns && (decide (0 ≤ s) && decide (s < ps.length))
def levelV (ps : List Int) (ns : List Q) (s : Int) : Int := if hasB ps ns s then lev ps s.toNat else -1
theorem hasB_parts {ps : List Int} {ns : List Q} {s : Int} (h : hasB ps ns s = true) : topoOkB ps ns = true ∧ 0 ≤ s ∧ s < ps.length := by
  unfold hasB at h
  simp only [Bool.and_eq_true, decide_eq_true_eq] at h
  exact ⟨h.1, h.2.1, h.2.2⟩

set_option maxHeartbeats 2000000 in
theorem hasSwitch_any (A B : Option Addr) (n c m d : Nat) (ps : List Int) (ns : List Q) (s : Int) (w : World) (hn : n ≤ 1048576) (hm : m ≤ 1048576) (hr : Rd w A n 1 (ints ps)) (hq : Rd w B m 4 (flat ns)) (hl : ∀ g, A = some ⟨g, 0, none⟩ → g < w.heap.size) (hl2 : ∀ g, B = some ⟨g, 0, none⟩ → g < w.heap.size) :
    Calls Tryz.prog 101 #[.agg #[.slice A n c, .slice B m d], .int .i64 s] w fun e w' => e = .returned (.bool (hasB ps ns s)) ∧ Below w.heap.size w w' := by
  have hpl := hr.ilen
  have hql : ns.length = m := by have := hq.1; rw [flat_len] at this; omega
  have hm1 : n ≤ 9223372036854775807 := by omega
  have hm2 : m ≤ 9223372036854775807 := by omega
  have HN := Lib.hid hn
  have HM := Lib.hid hm
  have HR := Lib.hid hr
  have HQ := Lib.hid hq
  have HP := Lib.hid hpl
  have HQL := Lib.hid hql
  have HL := Lib.hid hl
  have HL2 := Lib.hid hl2
  clear hn hm hr hq hpl hql hl hl2
  cases ht : topoOkB ps ns
  · have hF : hasB ps ns s = false := by unfold hasB; rw [ht]; rfl
    have HF := Lib.hid hF
    clear hF
    go_enter Tryz.func101, Tryz.ntmps101
    go_wp2_with (go_at_call 95; refine (topoOk_any _ _ _ _ _ _ ps ns _ HN.out HM.out (HR.out.below HL.out (zAa _ _)) (HQ.out.below HL2.out (zAa _ _)) (zAg HL.out (zAa _ _)) (zAg HL2.out (zAa _ _))).mono ?_; rintro e w1 ⟨rfl, hb1⟩; rw [ht]; have hk1 := fun o => hb1.cell (p := ⟨w.heap.size, o, none⟩) (by simp))
    go_ret
    exact ⟨zAk HF.out.symm, zBe⟩
  · have hpp := topo_parts ht
    rw [HP.out] at hpp
    have h1 := hpp.1
    have h24 := hpp.2.1
    have hF : hasB ps ns s = (decide (0 ≤ s) && decide (s < n)) := by unfold hasB; rw [ht, HP.out]; rfl
    have HF := Lib.hid hF
    clear hF hpp
    have hwr : IntKind.i64.wrap ((n : Int) - 1) = (n : Int) - 1 := IntWalk.i64_in _ (by omega)
    by_cases hs0 : 0 ≤ s
    · by_cases hs1 : s < n
      · have hin : inB s 0 ((n : Int) - 1) = true := by simp [inB]; omega
        have hsr : decide (0 ≤ s) && decide (s < n) := by simp [hs0, hs1]
        have HS := Lib.hid hsr
        clear hsr
        go_enter Tryz.func101, Tryz.ntmps101
        go_wp2_with (first | (go_at_call 95; refine (topoOk_any _ _ _ _ _ _ ps ns _ HN.out HM.out (HR.out.below HL.out (zAa _ _)) (HQ.out.below HL2.out (zAa _ _)) (zAg HL.out (zAa _ _)) (zAg HL2.out (zAa _ _))).mono ?_; rintro e w1 ⟨rfl, hb1⟩; rw [ht]; have hk1 := fun o => hb1.cell (p := ⟨w.heap.size, o, none⟩) (by simp)) | (go_at_call 106; refine (within_any _ _ _ _).mono ?_; rintro e w' ⟨rfl, rfl⟩; rw [hin]))
        go_ret
        exact ⟨zAk (by rw [HF.out]; first | exact HS.out.symm | simp [hs0]), zBe⟩
      · have hin : inB s 0 ((n : Int) - 1) = false := by
          simp only [inB, Bool.and_eq_false_iff, decide_eq_false_iff_not]; omega
        have hs1' : (n : Int) ≤ s := by omega
        have hsr : (decide (0 ≤ s) && decide (s < n)) = false := by simp [hs0, hs1]
        have HS := Lib.hid hsr
        clear hsr hs1
        have hs1 : ¬ (s < n) := by omega
        go_enter Tryz.func101, Tryz.ntmps101
        go_wp2_with (first | (go_at_call 95; refine (topoOk_any _ _ _ _ _ _ ps ns _ HN.out HM.out (HR.out.below HL.out (zAa _ _)) (HQ.out.below HL2.out (zAa _ _)) (zAg HL.out (zAa _ _)) (zAg HL2.out (zAa _ _))).mono ?_; rintro e w1 ⟨rfl, hb1⟩; rw [ht]; have hk1 := fun o => hb1.cell (p := ⟨w.heap.size, o, none⟩) (by simp)) | (go_at_call 106; refine (within_any _ _ _ _).mono ?_; rintro e w' ⟨rfl, rfl⟩; rw [hin]))
        go_ret
        exact ⟨zAk (by rw [HF.out]; first | exact HS.out.symm | simp [hs0]), zBe⟩
    · have hin : inB s 0 ((n : Int) - 1) = false := by
        simp only [inB, Bool.and_eq_false_iff, decide_eq_false_iff_not]; omega
      have hs0' : s < 0 := by omega
      have hsr : (decide (0 ≤ s) && decide (s < n)) = false := by simp [hs0]
      have HS := Lib.hid hsr
      clear hsr
      go_enter Tryz.func101, Tryz.ntmps101
      go_wp2_with (first | (go_at_call 95; refine (topoOk_any _ _ _ _ _ _ ps ns _ HN.out HM.out (HR.out.below HL.out (zAa _ _)) (HQ.out.below HL2.out (zAa _ _)) (zAg HL.out (zAa _ _)) (zAg HL2.out (zAa _ _))).mono ?_; rintro e w1 ⟨rfl, hb1⟩; rw [ht]; have hk1 := fun o => hb1.cell (p := ⟨w.heap.size, o, none⟩) (by simp)) | (go_at_call 106; refine (within_any _ _ _ _).mono ?_; rintro e w' ⟨rfl, rfl⟩; rw [hin]))
      go_ret
      exact ⟨zAk (by rw [HF.out]; first | exact HS.out.symm | simp [hs0]), zBe⟩

set_option maxHeartbeats 2000000 in
theorem level_any (A B : Option Addr) (n c m d : Nat) (ps : List Int) (s : Nat) (w : World) (hn : n ≤ 1048576) (h1 : 1 ≤ n) (hr : Rd w A n 1 (ints ps)) (hl : ∀ g, A = some ⟨g, 0, none⟩ → g < w.heap.size) (hok : parOk ps) (hev : evenB ps = true) (hs : s < n) :
    Calls Tryz.prog 102 #[.agg #[.slice A n c, .slice B m d], .int .i64 s] w fun e w' => e = .returned (.int .i64 (lev ps s)) ∧ Below w.heap.size w w' := by
  have hpl := hr.ilen
  have hlv := lev_height hok (by omega) hev (s := s) (by omega)
  rw [hpl] at hlv
  have hd1 := dep_le hok (n - 1) (by omega)
  have hd2 := dep_le hok s (by omega)
  have hw1 : -9223372036854775808 ≤ (dep ps (n - 1) : Int) - dep ps s := by omega
  have hw2 : (dep ps (n - 1) : Int) - dep ps s ≤ 9223372036854775807 := by omega
  have hwr : IntKind.i64.wrap ((dep ps (n - 1) : Int) - dep ps s) = (dep ps (n - 1) : Int) - dep ps s := IntWalk.i64_in _ ⟨hw1, hw2⟩
  have HN := Lib.hid hn
  have HR := Lib.hid hr
  have HL := Lib.hid hl
  have HO := Lib.hid hok
  have HV := Lib.hid hlv.1
  clear hn hr hl hok hev hpl hlv hd1 hd2
  go_enter Tryz.func102, Tryz.ntmps102
  go_wp2
  refine wp_region_below (by kernel_rfl) (by kernel_rfl) (fun W hW => ?_)
  have W0 : W.cell? ⟨w.heap.size, 0, none⟩ = some (.slice A n c) := by rw [hW]; simp [go_sem]
  have WS : w.heap.size < W.heap.size := by rw [hW]; simp
  have WB : Below w.heap.size w W := by rw [hW]; exact (zAa _ _).drew
  have RDW := Lib.hid (HR.out.below HL.out WB)
  have HLW := Lib.hid (zAg HL.out WB)
  have HWB := Lib.hid WB
  clear hW WB
  ((try dsimp only); repeat (first | (refine Det0.skip ?_ ?_; (focus (rfl; done)); (try simp only [putA, List.setIfInBounds_toArray, List.set_cons_zero, List.set_cons_succ])) | (refine Det0.pure ?_ ?_ ?_ ?_; rotate_left; (focus (rfl; done)); (focus ((intro w9 hJ); (have hk0 := fun o => hJ.cell (p := ⟨w.heap.size, o, none⟩) WS); go_simp; (first | with_reducible rfl | exact eq_if3 | exact neq_if3 | skip); done)); (try simp only [putA, List.setIfInBounds_toArray, List.set_cons_zero, List.set_cons_succ])) | (refine Det0.step ?_ ?_ ?_ ?_; rotate_left; (focus (rfl; done)); (focus ((intro w9 K hJ hK); (have hk0 := fun o => hJ.cell (p := ⟨w.heap.size, o, none⟩) WS); go_simp; (first | (go_at_call 199; refine (height_any A n c ps _ HN.out h1 (RDW.out.below HLW.out hJ) HO.out).mono ?_; rintro e w1 ⟨rfl, rfl⟩; exact hK.out _ hJ) | (go_at_call 198; refine (depth_any A n c ps s _ HN.out (RDW.out.below HLW.out hJ) HO.out hs).mono ?_; rintro e w1 ⟨rfl, rfl⟩; exact hK.out _ hJ)); done)); (try simp only [putA, List.setIfInBounds_toArray, List.set_cons_zero, List.set_cons_succ]))))
  refine Det0.nil (fun w9 hJ => ?_)
  go_wp2
  go_ret
  exact ⟨ret_int HV.out.symm, zAd HWB.out hJ⟩

set_option maxHeartbeats 2000000 in
theorem Level_any (A B : Option Addr) (n c m d : Nat) (ps : List Int) (ns : List Q) (s : Int) (w : World) (hn : n ≤ 1048576) (hm : m ≤ 1048576) (hr : Rd w A n 1 (ints ps)) (hq : Rd w B m 4 (flat ns)) (hl : ∀ g, A = some ⟨g, 0, none⟩ → g < w.heap.size) (hl2 : ∀ g, B = some ⟨g, 0, none⟩ → g < w.heap.size) :
    Calls Tryz.prog 25 #[.agg #[.slice A n c, .slice B m d], .int .i64 s] w fun e w' => e = .returned (.int .i64 (levelV ps ns s)) ∧ Below w.heap.size w w' := by
  have hpl := hr.ilen
  have hql : ns.length = m := by have := hq.1; rw [flat_len] at this; omega
  have hm1 : n ≤ 9223372036854775807 := by omega
  have hm2 : m ≤ 9223372036854775807 := by omega
  have HN := Lib.hid hn
  have HM := Lib.hid hm
  have HR := Lib.hid hr
  have HQ := Lib.hid hq
  have HP := Lib.hid hpl
  have HQL := Lib.hid hql
  have HL := Lib.hid hl
  have HL2 := Lib.hid hl2
  clear hn hm hr hq hpl hql hl hl2
  cases hh : hasB ps ns s
  · have hF : levelV ps ns s = -1 := by unfold levelV; rw [hh]; rfl
    have HF := Lib.hid hF
    clear hF
    go_enter Tryz.func25, Tryz.ntmps25
    go_wp2_with (go_at_call 101; refine (hasSwitch_any _ _ _ _ _ _ ps ns s _ HN.out HM.out (HR.out.below HL.out (zAa _ _)) (HQ.out.below HL2.out (zAa _ _)) (zAg HL.out (zAa _ _)) (zAg HL2.out (zAa _ _))).mono ?_; rintro e w1 ⟨rfl, hb1⟩; rw [hh]; have hk1 := fun o => hb1.cell (p := ⟨w.heap.size, o, none⟩) (by simp))
    go_ret
    exact ⟨ret_int HF.out.symm, zBe⟩
  · obtain ⟨htp, h0, h9⟩ := hasB_parts hh
    obtain ⟨sn, rfl⟩ : ∃ sn : Nat, s = sn := ⟨s.toNat, by omega⟩
    obtain ⟨h1, h24, _, _, hok, hev, _⟩ := topo_parts htp
    rw [HP.out] at h1 h9
    have hF : levelV ps ns (sn : Int) = lev ps sn := by unfold levelV; rw [hh]; rfl
    have HF := Lib.hid hF
    have HO := Lib.hid hok
    have HV := Lib.hid hev
    clear hF hok hev htp h24
    go_enter Tryz.func25, Tryz.ntmps25
    go_wp2_with (go_at_call 101; refine (hasSwitch_any _ _ _ _ _ _ ps ns (sn : Int) _ HN.out HM.out (HR.out.below HL.out (zAa _ _)) (HQ.out.below HL2.out (zAa _ _)) (zAg HL.out (zAa _ _)) (zAg HL2.out (zAa _ _))).mono ?_; rintro e w1 ⟨rfl, hb1⟩; rw [hh]; have hk1 := fun o => hb1.cell (p := ⟨w.heap.size, o, none⟩) (by simp))
    refine (level_any A B n c m d ps sn _ HN.out h1 (HR.out.below HL.out zBe) (zAg HL.out zBe) HO.out HV.out (by omega)).mono ?_
    rintro e w2 ⟨rfl, hb2⟩
    go_wp2
    go_ret
    exact ⟨ret_int HF.out.symm, zBe⟩

end Go.Proofs.YtdppjjdhidkjoaaGreat

namespace Go.Proofs.YtdppjjdhidkjoaaGreat
set_option linter.unusedSimpArgs false
set_option linter.unusedVariables false
set_option linter.unnecessarySimpa false
open Go.RowKit
end Go.Proofs.YtdppjjdhidkjoaaGreat
