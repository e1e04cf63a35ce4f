import Derived.Test.YtjnfdcojccgfoaaTg
import Derived.Test.YtjnfdcojccgfoaaBx
import Derived.Test.YtjnfdcojccgfoaaMb
import Derived.Test.YtjnfdcojccgfoaaTt
namespace Go.Proofs.Ytjnfdcojccgfoaa
set_option linter.unusedSimpArgs false
set_option linter.unusedVariables false
set_option linter.unnecessarySimpa false
open Go.RowKit

set_option maxHeartbeats 4000000 in
theorem law_topoText_big (A B : Option Addr) (n c m d : Nat)  (w : World) (hn : n ≤ maxLen) (hm : m ≤ maxLen) (hz : szT n m = -1) :
    Calls Try.prog 16 #[.agg #[.slice A n c, .slice B m d]] w fun e w' => e = .returned (.bool true) ∧ Below w.heap.size w w' := by
  have HN := Lib.hid hn
  have HM := Lib.hid hm
  have HZ := Lib.hid hz
  clear hn hm hz
  go_enter Try.func16, Try.ntmps16
  go_wp2_with fail
  refine (szTopo_any A B n c m d _ HN.out HM.out).mono ?_
  rintro e w1 ⟨rfl, hb1⟩
  rw [HZ.out]
  go_wp2
  go_ret
  exact ⟨rfl, (by repeat (first | exact Below.refl _ _ | assumption | (refine bstep ?_ (below_drewN _ _)) | exact bstep (by assumption) (by assumption) | (refine bstep ?_ (below_alloc _ _)) | (refine bstep ?_ (by assumption)) | (refine Below.setCell ?_ (by simp <;> omega) _) | refine Below.drew ?_))⟩

set_option maxHeartbeats 8000000 in
theorem law_topoText_small (A B : Option Addr) (n c m d : Nat) (ps : List Int) (ns : List Q)  (w : World) (hz : 0 ≤ szT n m) (hn : n ≤ 1048576) (hm : m ≤ 1048576) (hr : RdI w A n ps) (hq : RdE w B m ns) :
    Calls Try.prog 16 #[.agg #[.slice A n c, .slice B m d]] w fun e w' => e = .returned (.bool true) ∧ Below w.heap.size w w' := by
  have hz' : ¬ szT n m < 0 := by omega
  have HN := Lib.hid hn
  have HM := Lib.hid hm
  have HR := Lib.hid hr
  have HQ := Lib.hid hq
  clear hn hm hr hq
  go_enter Try.func16, Try.ntmps16
  go_wp2_with fail
  refine (szTopo_any A B n c m d _ (Nat.le_trans HN.out (by decide)) (Nat.le_trans HM.out (by decide))).mono ?_
  rintro e w1 ⟨rfl, hb1⟩
  have hs1 := hb1.size
  (try simp at hs1)
  have hy1_0 : w.heap.size < w1.heap.size := by omega
  have hk1_0 := fun o => hb1.cell (p := ⟨w.heap.size, o, none⟩) (by first | omega | (simp <;> omega))
  have hg1_0 := fun o => hb1.frozen (p := ⟨w.heap.size, o, none⟩) (by first | omega | (simp <;> omega))
  go_wp2_with fail
  refine (toTopo_any A B n c m d ps ns _ HN.out HM.out (HR.out.below (by repeat (first | exact Below.refl _ _ | assumption | (refine bstep ?_ (below_drewN _ _)) | exact bstep (by assumption) (by assumption) | (refine bstep ?_ (below_alloc _ _)) | (refine bstep ?_ (by assumption)) | (refine Below.setCell ?_ (by simp <;> omega) _) | refine Below.drew ?_ | (refine Below.trans ?_ (by assumption))))) (HQ.out.below (by repeat (first | exact Below.refl _ _ | assumption | (refine bstep ?_ (below_drewN _ _)) | exact bstep (by assumption) (by assumption) | (refine bstep ?_ (below_alloc _ _)) | (refine bstep ?_ (by assumption)) | (refine Below.setCell ?_ (by simp <;> omega) _) | refine Below.drew ?_ | (refine Below.trans ?_ (by assumption)))))).mono ?_
  rintro e w2 ⟨u2, v2, rfl, owa2, owb2, hb2⟩
  have hs2 := hb2.size
  (try simp at hs2)
  have hy2_0 : w.heap.size < w2.heap.size := by omega
  have hk2_0 := fun o => hb2.cell (p := ⟨w.heap.size, o, none⟩) (by first | omega | (simp <;> omega))
  have hg2_0 := fun o => hb2.frozen (p := ⟨w.heap.size, o, none⟩) (by first | omega | (simp <;> omega))
  obtain ⟨A2, c2, rfl, rd_A2⟩ := own_rd owa2
  have RDA2 := Lib.hid rd_A2
  have HLA2 := Lib.hid (own_blk owa2)
  have RGA2 : Hid (∀ k, atB A2 k → w1.heap.size ≤ k ∧ k < w2.heap.size) := Lib.hid (fun k hk => ⟨by have h9 := (own_rng owa2 k hk).1; (try simp at h9); omega, (own_rng owa2 k hk).2⟩)
  have OWA2 := Lib.hid owa2
  clear rd_A2 owa2
  obtain ⟨B2, d2, rfl, rd_B2⟩ := own_rd owb2
  have RDB2 := Lib.hid rd_B2
  have HLB2 := Lib.hid (own_blk owb2)
  have RGB2 : Hid (∀ k, atB B2 k → w1.heap.size ≤ k ∧ k < w2.heap.size) := Lib.hid (fun k hk => ⟨by have h9 := (own_rng owb2 k hk).1; (try simp at h9); omega, (own_rng owb2 k hk).2⟩)
  have OWB2 := Lib.hid owb2
  clear rd_B2 owb2
  go_wp2_with fail
  refine (stopoText_any A2 B2 n c2 m d2 ps ns   _ HN.out HM.out (RDA2.out.below HLA2.out (by repeat (first | exact Below.refl _ _ | assumption | (refine bstep ?_ (below_drewN _ _)) | exact bstep (by assumption) (by assumption) | (refine bstep ?_ (below_alloc _ _)) | (refine bstep ?_ (by assumption)) | (refine Below.setCell ?_ (by simp <;> omega) _) | refine Below.drew ?_))) (RDB2.out.below HLB2.out (by repeat (first | exact Below.refl _ _ | assumption | (refine bstep ?_ (below_drewN _ _)) | exact bstep (by assumption) (by assumption) | (refine bstep ?_ (below_alloc _ _)) | (refine bstep ?_ (by assumption)) | (refine Below.setCell ?_ (by simp <;> omega) _) | refine Below.drew ?_))) (lt_below HLA2.out (by repeat (first | exact Below.refl _ _ | assumption | (refine bstep ?_ (below_drewN _ _)) | exact bstep (by assumption) (by assumption) | (refine bstep ?_ (below_alloc _ _)) | (refine bstep ?_ (by assumption)) | (refine Below.setCell ?_ (by simp <;> omega) _) | refine Below.drew ?_))) (lt_below HLB2.out (by repeat (first | exact Below.refl _ _ | assumption | (refine bstep ?_ (below_drewN _ _)) | exact bstep (by assumption) (by assumption) | (refine bstep ?_ (below_alloc _ _)) | (refine bstep ?_ (by assumption)) | (refine Below.setCell ?_ (by simp <;> omega) _) | refine Below.drew ?_))) ).mono ?_
  rintro e w3 ⟨rfl, hb3⟩
  have hs3 := hb3.size
  (try simp at hs3)
  have hy3_0 : w.heap.size < w3.heap.size := by omega
  have hk3_0 := fun o => hb3.cell (p := ⟨w.heap.size, o, none⟩) (by first | omega | (simp <;> omega))
  have hg3_0 := fun o => hb3.frozen (p := ⟨w.heap.size, o, none⟩) (by first | omega | (simp <;> omega))
  go_wp2_with fail
  refine (toTopo_any A B n c m d ps ns _ HN.out HM.out (HR.out.below (by repeat (first | exact Below.refl _ _ | assumption | (refine bstep ?_ (below_drewN _ _)) | exact bstep (by assumption) (by assumption) | (refine bstep ?_ (below_alloc _ _)) | (refine bstep ?_ (by assumption)) | (refine Below.setCell ?_ (by simp <;> omega) _) | refine Below.drew ?_ | (refine Below.trans ?_ (by assumption))))) (HQ.out.below (by repeat (first | exact Below.refl _ _ | assumption | (refine bstep ?_ (below_drewN _ _)) | exact bstep (by assumption) (by assumption) | (refine bstep ?_ (below_alloc _ _)) | (refine bstep ?_ (by assumption)) | (refine Below.setCell ?_ (by simp <;> omega) _) | refine Below.drew ?_ | (refine Below.trans ?_ (by assumption)))))).mono ?_
  rintro e w4 ⟨u4, v4, rfl, owa4, owb4, hb4⟩
  have hs4 := hb4.size
  (try simp at hs4)
  have hy4_0 : w.heap.size < w4.heap.size := by omega
  have hk4_0 := fun o => hb4.cell (p := ⟨w.heap.size, o, none⟩) (by first | omega | (simp <;> omega))
  have hg4_0 := fun o => hb4.frozen (p := ⟨w.heap.size, o, none⟩) (by first | omega | (simp <;> omega))
  obtain ⟨A4, c4, rfl, rd_A4⟩ := own_rd owa4
  have RDA4 := Lib.hid rd_A4
  have HLA4 := Lib.hid (own_blk owa4)
  have RGA4 : Hid (∀ k, atB A4 k → w3.heap.size ≤ k ∧ k < w4.heap.size) := Lib.hid (fun k hk => ⟨by have h9 := (own_rng owa4 k hk).1; (try simp at h9); omega, (own_rng owa4 k hk).2⟩)
  have OWA4 := Lib.hid owa4
  clear rd_A4 owa4
  obtain ⟨B4, d4, rfl, rd_B4⟩ := own_rd owb4
  have RDB4 := Lib.hid rd_B4
  have HLB4 := Lib.hid (own_blk owb4)
  have RGB4 : Hid (∀ k, atB B4 k → w3.heap.size ≤ k ∧ k < w4.heap.size) := Lib.hid (fun k hk => ⟨by have h9 := (own_rng owb4 k hk).1; (try simp at h9); omega, (own_rng owb4 k hk).2⟩)
  have OWB4 := Lib.hid owb4
  clear rd_B4 owb4
  go_wp2_with fail
  refine (topoText_any A4 B4 n c4 m d4 ps ns   _ HN.out HM.out (RDA4.out.below HLA4.out (by repeat (first | exact Below.refl _ _ | assumption | (refine bstep ?_ (below_drewN _ _)) | exact bstep (by assumption) (by assumption) | (refine bstep ?_ (below_alloc _ _)) | (refine bstep ?_ (by assumption)) | (refine Below.setCell ?_ (by simp <;> omega) _) | refine Below.drew ?_))) (RDB4.out.below HLB4.out (by repeat (first | exact Below.refl _ _ | assumption | (refine bstep ?_ (below_drewN _ _)) | exact bstep (by assumption) (by assumption) | (refine bstep ?_ (below_alloc _ _)) | (refine bstep ?_ (by assumption)) | (refine Below.setCell ?_ (by simp <;> omega) _) | refine Below.drew ?_))) (lt_below HLA4.out (by repeat (first | exact Below.refl _ _ | assumption | (refine bstep ?_ (below_drewN _ _)) | exact bstep (by assumption) (by assumption) | (refine bstep ?_ (below_alloc _ _)) | (refine bstep ?_ (by assumption)) | (refine Below.setCell ?_ (by simp <;> omega) _) | refine Below.drew ?_))) (lt_below HLB4.out (by repeat (first | exact Below.refl _ _ | assumption | (refine bstep ?_ (below_drewN _ _)) | exact bstep (by assumption) (by assumption) | (refine bstep ?_ (below_alloc _ _)) | (refine bstep ?_ (by assumption)) | (refine Below.setCell ?_ (by simp <;> omega) _) | refine Below.drew ?_)))  (own_cap OWA4.out).1 (by have := (own_cap OWA4.out).2; unfold maxLen at this; exact this)).mono ?_
  rintro e w5 ⟨rfl, hb5⟩
  have hs5 := hb5.size
  (try simp at hs5)
  have hy5_0 : w.heap.size < w5.heap.size := by omega
  have hk5_0 := fun o => hb5.cell (p := ⟨w.heap.size, o, none⟩) (by first | omega | (simp <;> omega))
  have hg5_0 := fun o => hb5.frozen (p := ⟨w.heap.size, o, none⟩) (by first | omega | (simp <;> omega))
  have hy5_1 : w4.heap.size < w5.heap.size := by omega
  have hk5_1 := fun o => hb5.cell (p := ⟨w4.heap.size, o, none⟩) (by first | omega | (simp <;> omega))
  have hg5_1 := fun o => hb5.frozen (p := ⟨w4.heap.size, o, none⟩) (by first | omega | (simp <;> omega))
  go_wp2_with fail
  go_region_held3 (fun w' => w'.cell? ⟨w.heap.size, 0, none⟩ = some (.slice A n c) ∧ w'.cell? ⟨w.heap.size, 1, none⟩ = some (.slice B m d) ∧ w'.cell? ⟨w4.heap.size, 0, none⟩ = some (.slice A4 n c4) ∧ w'.cell? ⟨w4.heap.size, 1, none⟩ = some (.slice B4 m d4)) (simp [go_sem, *, World.cell?_alloc_some, World.cell?_setCell_far, Nat.lt_add_right, Nat.ne_of_gt]) (first | (go_at_call 69; refine (toTopo_any A B n c m d ps ns _ HN.out HM.out (HR.out.below (by repeat (first | exact Below.refl _ _ | assumption | (refine bstep ?_ (below_drewN _ _)) | exact bstep (by assumption) (by assumption) | (refine bstep ?_ (below_alloc _ _)) | (refine bstep ?_ (by assumption)) | (refine Below.setCell ?_ (by simp <;> omega) _) | refine Below.drew ?_ | (refine Below.trans ?_ (by assumption))))) (HQ.out.below (by repeat (first | exact Below.refl _ _ | assumption | (refine bstep ?_ (below_drewN _ _)) | exact bstep (by assumption) (by assumption) | (refine bstep ?_ (below_alloc _ _)) | (refine bstep ?_ (by assumption)) | (refine Below.setCell ?_ (by simp <;> omega) _) | refine Below.drew ?_ | (refine Below.trans ?_ (by assumption)))))).mono ?_; rintro e w6 ⟨u6, v6, rfl, owa6, owb6, hb6⟩; have hs6 := hb6.size; (try simp at hs6); have hy6_0 : w.heap.size < w6.heap.size := (by omega); have hk6_0 := fun o => hb6.cell (p := ⟨w.heap.size, o, none⟩) (by first | omega | (simp <;> omega)); have hg6_0 := fun o => hb6.frozen (p := ⟨w.heap.size, o, none⟩) (by first | omega | (simp <;> omega)); have hy6_1 : w4.heap.size < w6.heap.size := (by omega); have hk6_1 := fun o => hb6.cell (p := ⟨w4.heap.size, o, none⟩) (by first | omega | (simp <;> omega)); have hg6_1 := fun o => hb6.frozen (p := ⟨w4.heap.size, o, none⟩) (by first | omega | (simp <;> omega)); obtain ⟨A6, c6, rfl, rd_A6⟩ := own_rd owa6; have RDA6 := Lib.hid rd_A6; have HLA6 := Lib.hid (own_blk owa6); have OWA6 := Lib.hid owa6; clear rd_A6 owa6; obtain ⟨B6, d6, rfl, rd_B6⟩ := own_rd owb6; have RDB6 := Lib.hid rd_B6; have HLB6 := Lib.hid (own_blk owb6); have OWB6 := Lib.hid owb6; clear rd_B6 owb6) | (go_at_call 71; refine (eqTopo_any A4 A6 B4 B6 n c4 c6 m d4 d6 ps ns _ (Nat.le_succ_of_le HN.out) (Nat.le_succ_of_le HM.out) (RDA4.out.below HLA4.out (by repeat (first | exact Below.refl _ _ | assumption | (refine bstep ?_ (below_drewN _ _)) | exact bstep (by assumption) (by assumption) | (refine bstep ?_ (below_alloc _ _)) | (refine bstep ?_ (by assumption)) | (refine Below.setCell ?_ (by simp <;> omega) _) | refine Below.drew ?_))) RDA6.out (RDB4.out.below HLB4.out (by repeat (first | exact Below.refl _ _ | assumption | (refine bstep ?_ (below_drewN _ _)) | exact bstep (by assumption) (by assumption) | (refine bstep ?_ (below_alloc _ _)) | (refine bstep ?_ (by assumption)) | (refine Below.setCell ?_ (by simp <;> omega) _) | refine Below.drew ?_))) RDB6.out (lt_below HLA4.out (by repeat (first | exact Below.refl _ _ | assumption | (refine bstep ?_ (below_drewN _ _)) | exact bstep (by assumption) (by assumption) | (refine bstep ?_ (below_alloc _ _)) | (refine bstep ?_ (by assumption)) | (refine Below.setCell ?_ (by simp <;> omega) _) | refine Below.drew ?_))) HLA6.out (lt_below HLB4.out (by repeat (first | exact Below.refl _ _ | assumption | (refine bstep ?_ (below_drewN _ _)) | exact bstep (by assumption) (by assumption) | (refine bstep ?_ (below_alloc _ _)) | (refine bstep ?_ (by assumption)) | (refine Below.setCell ?_ (by simp <;> omega) _) | refine Below.drew ?_))) HLB6.out).mono ?_; rintro e w7 ⟨rfl, hb7⟩; have hs7 := hb7.size; (try simp at hs7); have hy7_0 : w.heap.size < w7.heap.size := (by omega); have hk7_0 := fun o => hb7.cell (p := ⟨w.heap.size, o, none⟩) (by first | omega | (simp <;> omega)); have hg7_0 := fun o => hb7.frozen (p := ⟨w.heap.size, o, none⟩) (by first | omega | (simp <;> omega)); have hy7_1 : w4.heap.size < w7.heap.size := (by omega); have hk7_1 := fun o => hb7.cell (p := ⟨w4.heap.size, o, none⟩) (by first | omega | (simp <;> omega)); have hg7_1 := fun o => hb7.frozen (p := ⟨w4.heap.size, o, none⟩) (by first | omega | (simp <;> omega))))
  all_goals go_wp2
  all_goals go_ret
  all_goals exact ⟨rfl, (by repeat (first | exact Below.refl _ _ | assumption | (refine bstep ?_ (below_drewN _ _)) | exact bstep (by assumption) (by assumption) | (refine bstep ?_ (below_alloc _ _)) | (refine bstep ?_ (by assumption)) | (refine Below.setCell ?_ (by simp <;> omega) _) | refine Below.drew ?_ | (refine Below.trans ?_ (by assumption))))⟩
theorem law_topoText (A B : Option Addr) (n c m d : Nat) (ps : List Int) (ns : List Q)  (w : World) (hn : n ≤ maxLen) (hm : m ≤ maxLen) (hr : RdI w A n ps) (hq : RdE w B m ns) :
    Calls Try.prog 16 #[.agg #[.slice A n c, .slice B m d]] w fun e w' => e = .returned (.bool true) ∧ Below w.heap.size w w' := by
  rcases szT_cases n m with h | ⟨h, h1, h2⟩
  · exact law_topoText_big A B n c m d  w hn hm h
  · exact law_topoText_small A B n c m d ps ns  w h h1 h2 hr hq
end Go.Proofs.Ytjnfdcojccgfoaa
