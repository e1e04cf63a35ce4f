import Derived.Test.YtjnfdcojccgfoaaTi
namespace Go.Proofs.Ytjnfdcojccgfoaa
set_option linter.unusedSimpArgs false
set_option linter.unusedVariables false
set_option linter.unnecessarySimpa false
open Go.RowKit

set_option maxHeartbeats 4000000 in
theorem law_level_big (A B : Option Addr) (n c m d : Nat) (x : Int) (w : World) (hn : n ≤ maxLen) (hm : m ≤ maxLen) (hz : szT n m = -1) :
    Calls Try.prog 14 #[.agg #[.slice A n c, .slice B m d], .int .i64 x] w fun e w' => e = .returned (.bool true) ∧ Below w.heap.size w w' := by
  have HN := Lib.hid hn
  have HM := Lib.hid hm
  have HZ := Lib.hid hz
  clear hn hm hz
  go_enter Try.func14, Try.ntmps14
  go_wp2_with fail
  refine (szTopo_any A B n c m d _ HN.out HM.out).mono ?_
  rintro e w1 ⟨rfl, hb1⟩
  rw [HZ.out]
  go_wp2
  go_ret
  exact ⟨rfl, (by repeat (first | exact Below.refl _ _ | assumption | (refine bstep ?_ (below_drewN _ _)) | exact bstep (by assumption) (by assumption) | (refine bstep ?_ (below_alloc _ _)) | (refine bstep ?_ (by assumption)) | (refine Below.setCell ?_ (by simp <;> omega) _) | refine Below.drew ?_))⟩
set_option maxHeartbeats 4000000 in
theorem law_level_small (A B : Option Addr) (n c m d : Nat) (ps : List Int) (ns : List Q) (x : Int) (w : World) (hz : 0 ≤ szT n m) (hn : n ≤ 1048576) (hm : m ≤ 1048576) (hr : RdI w A n ps) (hq : RdE w B m ns) :
    Calls Try.prog 14 #[.agg #[.slice A n c, .slice B m d], .int .i64 x] w fun e w' => e = .returned (.bool true) ∧ Below w.heap.size w w' := by
  have hz' : ¬ szT n m < 0 := by omega
  have HN := Lib.hid hn
  have HM := Lib.hid hm
  have HR := Lib.hid hr
  have HQ := Lib.hid hq
  clear hn hm hr hq
  go_enter Try.func14, Try.ntmps14
  go_wp2_with fail
  refine (szTopo_any A B n c m d _ (Nat.le_trans HN.out (by decide)) (Nat.le_trans HM.out (by decide))).mono ?_
  rintro e w1 ⟨rfl, hb1⟩
  have hs1 := hb1.size
  (try simp at hs1)
  have hy10 : w.heap.size < w1.heap.size := by omega
  have hk10 := fun o => hb1.cell (p := ⟨w.heap.size, o, none⟩) (by first | omega | (simp <;> omega))
  have hg10 := fun o => hb1.frozen (p := ⟨w.heap.size, o, none⟩) (by first | omega | (simp <;> omega))
  go_wp2_with fail
  refine (toTopo_any A B n c m d ps ns _ HN.out HM.out (HR.out.below (by repeat (first | exact Below.refl _ _ | assumption | (refine bstep ?_ (below_drewN _ _)) | exact bstep (by assumption) (by assumption) | (refine bstep ?_ (below_alloc _ _)) | (refine bstep ?_ (by assumption)) | (refine Below.setCell ?_ (by simp <;> omega) _) | refine Below.drew ?_))) (HQ.out.below (by repeat (first | exact Below.refl _ _ | assumption | (refine bstep ?_ (below_drewN _ _)) | exact bstep (by assumption) (by assumption) | (refine bstep ?_ (below_alloc _ _)) | (refine bstep ?_ (by assumption)) | (refine Below.setCell ?_ (by simp <;> omega) _) | refine Below.drew ?_)))).mono ?_
  rintro e w2 ⟨u2, v2, rfl, owa2, owb2, hb2⟩
  have hs2 := hb2.size
  (try simp at hs2)
  have hy20 : w.heap.size < w2.heap.size := by omega
  have hk20 := fun o => hb2.cell (p := ⟨w.heap.size, o, none⟩) (by first | omega | (simp <;> omega))
  have hg20 := fun o => hb2.frozen (p := ⟨w.heap.size, o, none⟩) (by first | omega | (simp <;> omega))
  obtain ⟨A2, c2, rfl, rd2⟩ := own_rd owa2
  obtain ⟨B2, d2, rfl, rn2⟩ := own_rd owb2
  have hl2 := own_blk owa2
  have hm2 := own_blk owb2
  have RD2 := Lib.hid rd2
  have RN2 := Lib.hid rn2
  have HL2 := Lib.hid hl2
  have HM2 := Lib.hid hm2
  have OA2 := Lib.hid owa2
  have OB2 := Lib.hid owb2
  clear rd2 rn2 hl2 hm2 owa2 owb2
  go_wp2_with fail
  refine (sLevel_any A2 B2 n c2 m d2 ps ns x _ HN.out HM.out RD2.out RN2.out HL2.out HM2.out).mono ?_
  rintro e w3 ⟨rfl, hb3⟩
  have hs3 := hb3.size
  (try simp at hs3)
  have hy30 : w.heap.size < w3.heap.size := by omega
  have hk30 := fun o => hb3.cell (p := ⟨w.heap.size, o, none⟩) (by first | omega | (simp <;> omega))
  have hg30 := fun o => hb3.frozen (p := ⟨w.heap.size, o, none⟩) (by first | omega | (simp <;> omega))
  go_wp2_with fail
  refine (toTopo_any A B n c m d ps ns _ HN.out HM.out (HR.out.below (by repeat (first | exact Below.refl _ _ | assumption | (refine bstep ?_ (below_drewN _ _)) | exact bstep (by assumption) (by assumption) | (refine bstep ?_ (below_alloc _ _)) | (refine bstep ?_ (by assumption)) | (refine Below.setCell ?_ (by simp <;> omega) _) | refine Below.drew ?_))) (HQ.out.below (by repeat (first | exact Below.refl _ _ | assumption | (refine bstep ?_ (below_drewN _ _)) | exact bstep (by assumption) (by assumption) | (refine bstep ?_ (below_alloc _ _)) | (refine bstep ?_ (by assumption)) | (refine Below.setCell ?_ (by simp <;> omega) _) | refine Below.drew ?_)))).mono ?_
  rintro e w4 ⟨u4, v4, rfl, owa4, owb4, hb4⟩
  have hs4 := hb4.size
  (try simp at hs4)
  have hy40 : w.heap.size < w4.heap.size := by omega
  have hk40 := fun o => hb4.cell (p := ⟨w.heap.size, o, none⟩) (by first | omega | (simp <;> omega))
  have hg40 := fun o => hb4.frozen (p := ⟨w.heap.size, o, none⟩) (by first | omega | (simp <;> omega))
  obtain ⟨A4, c4, rfl, rd4⟩ := own_rd owa4
  obtain ⟨B4, d4, rfl, rn4⟩ := own_rd owb4
  have hl4 := own_blk owa4
  have hm4 := own_blk owb4
  have RD4 := Lib.hid rd4
  have RN4 := Lib.hid rn4
  have HL4 := Lib.hid hl4
  have HM4 := Lib.hid hm4
  have OA4 := Lib.hid owa4
  have OB4 := Lib.hid owb4
  clear rd4 rn4 hl4 hm4 owa4 owb4
  go_wp2_with fail
  refine (Level_any A4 B4 n c4 m d4 ps ns x _ HN.out HM.out (RD4.out.below HL4.out (below_alloc _ _)) (RN4.out.below HM4.out (below_alloc _ _)) (lt_below HL4.out (below_alloc _ _)) (lt_below HM4.out (below_alloc _ _))).mono ?_
  rintro e w5 ⟨rfl, hb5⟩
  have hs5 := hb5.size
  (try simp at hs5)
  have hy50 : w.heap.size < w5.heap.size := by omega
  have hk50 := fun o => hb5.cell (p := ⟨w.heap.size, o, none⟩) (by first | omega | (simp <;> omega))
  have hg50 := fun o => hb5.frozen (p := ⟨w.heap.size, o, none⟩) (by first | omega | (simp <;> omega))
  have hy51 : w4.heap.size < w5.heap.size := by omega
  have hk51 := fun o => hb5.cell (p := ⟨w4.heap.size, o, none⟩) (by first | omega | (simp <;> omega))
  have hg51 := fun o => hb5.frozen (p := ⟨w4.heap.size, o, none⟩) (by first | omega | (simp <;> omega))
  go_wp2_with fail
  go_region_held3 (fun w' => w'.cell? ⟨w.heap.size, 0, none⟩ = some (.slice A n c) ∧ w'.cell? ⟨w.heap.size, 1, none⟩ = some (.slice B m d) ∧ w'.cell? ⟨w4.heap.size, 0, none⟩ = some (.slice A4 n c4) ∧ w'.cell? ⟨w4.heap.size, 1, none⟩ = some (.slice B4 m d4)) (simp [go_sem, *, World.cell?_alloc_some, World.cell?_setCell_far, Nat.lt_add_right, Nat.ne_of_gt]) (first | (go_at_call 69; refine (toTopo_any A B n c m d ps ns _ HN.out HM.out (HR.out.below (by repeat (first | exact Below.refl _ _ | assumption | (refine bstep ?_ (below_drewN _ _)) | exact bstep (by assumption) (by assumption) | (refine bstep ?_ (below_alloc _ _)) | (refine bstep ?_ (by assumption)) | (refine Below.setCell ?_ (by simp <;> omega) _) | refine Below.drew ?_))) (HQ.out.below (by repeat (first | exact Below.refl _ _ | assumption | (refine bstep ?_ (below_drewN _ _)) | exact bstep (by assumption) (by assumption) | (refine bstep ?_ (below_alloc _ _)) | (refine bstep ?_ (by assumption)) | (refine Below.setCell ?_ (by simp <;> omega) _) | refine Below.drew ?_)))).mono ?_; rintro e w6 ⟨u6, v6, rfl, owa6, owb6, hb6⟩; have hs6 := hb6.size; (try simp at hs6); have hy60 : w.heap.size < w6.heap.size := (by omega); have hk60 := fun o => hb6.cell (p := ⟨w.heap.size, o, none⟩) (by first | omega | (simp <;> omega)); have hg60 := fun o => hb6.frozen (p := ⟨w.heap.size, o, none⟩) (by first | omega | (simp <;> omega)); have hy61 : w4.heap.size < w6.heap.size := (by omega); have hk61 := fun o => hb6.cell (p := ⟨w4.heap.size, o, none⟩) (by first | omega | (simp <;> omega)); have hg61 := fun o => hb6.frozen (p := ⟨w4.heap.size, o, none⟩) (by first | omega | (simp <;> omega)); obtain ⟨A6, c6, rfl, rd6⟩ := own_rd owa6; obtain ⟨B6, d6, rfl, rn6⟩ := own_rd owb6; have hl6 := own_blk owa6; have hm6 := own_blk owb6; have RD6 := Lib.hid rd6; have RN6 := Lib.hid rn6; have HL6 := Lib.hid hl6; have HM6 := Lib.hid hm6; have OA6 := Lib.hid owa6; have OB6 := Lib.hid owb6; clear rd6 rn6 hl6 hm6 owa6 owb6) | (go_at_call 71; refine (eqTopo_any A4 A6 B4 B6 n c4 c6 m d4 d6 ps ns _ (Nat.le_succ_of_le HN.out) (Nat.le_succ_of_le HM.out) (RD4.out.below HL4.out (by repeat (first | exact Below.refl _ _ | assumption | (refine bstep ?_ (below_drewN _ _)) | exact bstep (by assumption) (by assumption) | (refine bstep ?_ (below_alloc _ _)) | (refine bstep ?_ (by assumption)) | (refine Below.setCell ?_ (by simp <;> omega) _) | refine Below.drew ?_))) RD6.out (RN4.out.below HM4.out (by repeat (first | exact Below.refl _ _ | assumption | (refine bstep ?_ (below_drewN _ _)) | exact bstep (by assumption) (by assumption) | (refine bstep ?_ (below_alloc _ _)) | (refine bstep ?_ (by assumption)) | (refine Below.setCell ?_ (by simp <;> omega) _) | refine Below.drew ?_))) RN6.out (lt_below HL4.out (by repeat (first | exact Below.refl _ _ | assumption | (refine bstep ?_ (below_drewN _ _)) | exact bstep (by assumption) (by assumption) | (refine bstep ?_ (below_alloc _ _)) | (refine bstep ?_ (by assumption)) | (refine Below.setCell ?_ (by simp <;> omega) _) | refine Below.drew ?_))) HL6.out (lt_below HM4.out (by repeat (first | exact Below.refl _ _ | assumption | (refine bstep ?_ (below_drewN _ _)) | exact bstep (by assumption) (by assumption) | (refine bstep ?_ (below_alloc _ _)) | (refine bstep ?_ (by assumption)) | (refine Below.setCell ?_ (by simp <;> omega) _) | refine Below.drew ?_))) HM6.out).mono ?_; rintro e w7 ⟨rfl, hb7⟩; have hs7 := hb7.size; (try simp at hs7); have hy70 : w.heap.size < w7.heap.size := (by omega); have hk70 := fun o => hb7.cell (p := ⟨w.heap.size, o, none⟩) (by first | omega | (simp <;> omega)); have hg70 := fun o => hb7.frozen (p := ⟨w.heap.size, o, none⟩) (by first | omega | (simp <;> omega)); have hy71 : w4.heap.size < w7.heap.size := (by omega); have hk71 := fun o => hb7.cell (p := ⟨w4.heap.size, o, none⟩) (by first | omega | (simp <;> omega)); have hg71 := fun o => hb7.frozen (p := ⟨w4.heap.size, o, none⟩) (by first | omega | (simp <;> omega))))
  all_goals go_wp2
  all_goals go_ret
  all_goals exact ⟨rfl, (by repeat (first | exact Below.refl _ _ | assumption | (refine bstep ?_ (below_drewN _ _)) | exact bstep (by assumption) (by assumption) | (refine bstep ?_ (below_alloc _ _)) | (refine bstep ?_ (by assumption)) | (refine Below.setCell ?_ (by simp <;> omega) _) | refine Below.drew ?_))⟩
theorem law_level (A B : Option Addr) (n c m d : Nat) (ps : List Int) (ns : List Q) (x : Int) (w : World) (hn : n ≤ maxLen) (hm : m ≤ maxLen) (hr : RdI w A n ps) (hq : RdE w B m ns) :
    Calls Try.prog 14 #[.agg #[.slice A n c, .slice B m d], .int .i64 x] w fun e w' => e = .returned (.bool true) ∧ Below w.heap.size w w' := by
  rcases szT_cases n m with h | ⟨h, h1, h2⟩
  · exact law_level_big A B n c m d x w hn hm h
  · exact law_level_small A B n c m d ps ns x w h h1 h2 hr hq
end Go.Proofs.Ytjnfdcojccgfoaa
