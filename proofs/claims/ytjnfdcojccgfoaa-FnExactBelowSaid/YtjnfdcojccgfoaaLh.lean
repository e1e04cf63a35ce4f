import Derived.Test.YtjnfdcojccgfoaaTg
import Derived.Test.YtjnfdcojccgfoaaBx
import Derived.Test.YtjnfdcojccgfoaaMb
import Derived.Test.YtjnfdcojccgfoaaTn
namespace Go.Proofs.Ytjnfdcojccgfoaa
set_option linter.unusedSimpArgs false
set_option linter.unusedVariables false
set_option linter.unnecessarySimpa false
open Go.RowKit
theorem aboveV_len (ps : List Int) (ns : List Q) (s : Int) : (aboveV ps ns s).length ≤ 1000 := by
  unfold aboveV
  split
  · rename_i h
    obtain ⟨htp, h0, h9⟩ := hasB_parts h
    obtain ⟨_, h24, _, _, hok, _, _⟩ := topo_parts htp
    have h1 := up_len hok s.toNat (by omega)
    have h2 := dep_le hok s.toNat (by omega)
    simp only [upI, List.length_map]; omega
  · simp
theorem belowV_len (ps : List Int) (ns : List Q) (s : Int) : (belowV ps ns s).length ≤ 1000 := by
  unfold belowV
  split
  · rename_i h
    obtain ⟨htp, h0, h9⟩ := hasB_parts h
    obtain ⟨_, _, _, h24, _, _, _⟩ := topo_parts htp
    have := belowN_len ps ns s.toNat ns.length
    simp only [preI, List.length_map]; omega
  · simp

set_option maxHeartbeats 4000000 in
theorem law_above_big (A B : Option Addr) (n c m d : Nat) (x : Int) (w : World) (hn : n ≤ maxLen) (hm : m ≤ maxLen) (hz : szT n m = -1) :
    Calls Try.prog 17 #[.agg #[.slice A n c, .slice B m d], .int .i64 x] w fun e w' => e = .returned (.bool true) ∧ Below w.heap.size w w' := by
  have HN := Lib.hid hn
  have HM := Lib.hid hm
  have HZ := Lib.hid hz
  clear hn hm hz
  go_enter Try.func17, Try.ntmps17
  go_wp2_with fail
  refine (szTopo_any A B n c m d _ HN.out HM.out).mono ?_
  rintro e w1 ⟨rfl, hb1⟩
  rw [HZ.out]
  go_wp2
  go_ret
  exact ⟨rfl, (by repeat (first | exact Below.refl _ _ | assumption | (refine bstep ?_ (below_drewN _ _)) | exact bstep (by assumption) (by assumption) | (refine bstep ?_ (below_alloc _ _)) | (refine bstep ?_ (by assumption)) | (refine Below.setCell ?_ (by simp <;> omega) _) | refine Below.drew ?_))⟩

set_option maxHeartbeats 8000000 in
theorem law_above_small (A B : Option Addr) (n c m d : Nat) (ps : List Int) (ns : List Q) (x : Int) (w : World) (hz : 0 ≤ szT n m) (hn : n ≤ 1048576) (hm : m ≤ 1048576) (hr : RdI w A n ps) (hq : RdE w B m ns) :
    Calls Try.prog 17 #[.agg #[.slice A n c, .slice B m d], .int .i64 x] w fun e w' => e = .returned (.bool true) ∧ Below w.heap.size w w' := by
  have hz' : ¬ szT n m < 0 := by omega
  have HLE : Hid ((aboveV ps ns x).length ≤ 1048577) := Lib.hid (by have := aboveV_len ps ns x; omega)
  have hq0 : 0 ≤ 1 + 1 * (n : Int) + 4 * (m : Int) := by omega
  have hq1 : 0 ≤ 1 + 1 * ((aboveV ps ns x).length : Int) := by omega
  have hq3 : 0 ≤ 1 + ((aboveV ps ns x).length : Int) := by omega
  have HN := Lib.hid hn
  have HM := Lib.hid hm
  have HR := Lib.hid hr
  have HQ := Lib.hid hq
  clear hn hm hr hq
  go_enter Try.func17, Try.ntmps17
  go_wp2_with fail
  refine (szTopo_any A B n c m d _ (Nat.le_trans HN.out (by decide)) (Nat.le_trans HM.out (by decide))).mono ?_
  rintro e w1 ⟨rfl, hb1⟩
  have hs1 := hb1.size
  (try simp at hs1)
  have hy1_0 : w.heap.size < w1.heap.size := by omega
  have hk1_0 := fun o => hb1.cell (p := ⟨w.heap.size, o, none⟩) (by first | omega | (simp <;> omega))
  have hg1_0 := fun o => hb1.frozen (p := ⟨w.heap.size, o, none⟩) (by first | omega | (simp <;> omega))
  go_wp2_with fail
  refine (toTopo_any A B n c m d ps ns _ HN.out HM.out (HR.out.below (by repeat (first | exact Below.refl _ _ | assumption | (refine bstep ?_ (below_drewN _ _)) | exact bstep (by assumption) (by assumption) | (refine bstep ?_ (below_alloc _ _)) | (refine bstep ?_ (by assumption)) | (refine Below.setCell ?_ (by simp <;> omega) _) | refine Below.drew ?_ | (refine Below.trans ?_ (by assumption))))) (HQ.out.below (by repeat (first | exact Below.refl _ _ | assumption | (refine bstep ?_ (below_drewN _ _)) | exact bstep (by assumption) (by assumption) | (refine bstep ?_ (below_alloc _ _)) | (refine bstep ?_ (by assumption)) | (refine Below.setCell ?_ (by simp <;> omega) _) | refine Below.drew ?_ | (refine Below.trans ?_ (by assumption)))))).mono ?_
  rintro e w2 ⟨u2, v2, rfl, owa2, owb2, hb2⟩
  have hs2 := hb2.size
  (try simp at hs2)
  have hy2_0 : w.heap.size < w2.heap.size := by omega
  have hk2_0 := fun o => hb2.cell (p := ⟨w.heap.size, o, none⟩) (by first | omega | (simp <;> omega))
  have hg2_0 := fun o => hb2.frozen (p := ⟨w.heap.size, o, none⟩) (by first | omega | (simp <;> omega))
  obtain ⟨A2, c2, rfl, rd_A2⟩ := own_rd owa2
  have RDA2 := Lib.hid rd_A2
  have HLA2 := Lib.hid (own_blk owa2)
  have RGA2 : Hid (∀ k, atB A2 k → w1.heap.size ≤ k ∧ k < w2.heap.size) := Lib.hid (fun k hk => ⟨by have h9 := (own_rng owa2 k hk).1; (try simp at h9); omega, (own_rng owa2 k hk).2⟩)
  have OWA2 := Lib.hid owa2
  clear rd_A2 owa2
  obtain ⟨B2, d2, rfl, rd_B2⟩ := own_rd owb2
  have RDB2 := Lib.hid rd_B2
  have HLB2 := Lib.hid (own_blk owb2)
  have RGB2 : Hid (∀ k, atB B2 k → w1.heap.size ≤ k ∧ k < w2.heap.size) := Lib.hid (fun k hk => ⟨by have h9 := (own_rng owb2 k hk).1; (try simp at h9); omega, (own_rng owb2 k hk).2⟩)
  have OWB2 := Lib.hid owb2
  clear rd_B2 owb2
  go_wp2_with fail
  refine (sAbove_any A2 B2 n c2 m d2 ps ns  x _ HN.out HM.out (RDA2.out.below HLA2.out (by repeat (first | exact Below.refl _ _ | assumption | (refine bstep ?_ (below_drewN _ _)) | exact bstep (by assumption) (by assumption) | (refine bstep ?_ (below_alloc _ _)) | (refine bstep ?_ (by assumption)) | (refine Below.setCell ?_ (by simp <;> omega) _) | refine Below.drew ?_))) (RDB2.out.below HLB2.out (by repeat (first | exact Below.refl _ _ | assumption | (refine bstep ?_ (below_drewN _ _)) | exact bstep (by assumption) (by assumption) | (refine bstep ?_ (below_alloc _ _)) | (refine bstep ?_ (by assumption)) | (refine Below.setCell ?_ (by simp <;> omega) _) | refine Below.drew ?_))) (lt_below HLA2.out (by repeat (first | exact Below.refl _ _ | assumption | (refine bstep ?_ (below_drewN _ _)) | exact bstep (by assumption) (by assumption) | (refine bstep ?_ (below_alloc _ _)) | (refine bstep ?_ (by assumption)) | (refine Below.setCell ?_ (by simp <;> omega) _) | refine Below.drew ?_))) (lt_below HLB2.out (by repeat (first | exact Below.refl _ _ | assumption | (refine bstep ?_ (below_drewN _ _)) | exact bstep (by assumption) (by assumption) | (refine bstep ?_ (below_alloc _ _)) | (refine bstep ?_ (by assumption)) | (refine Below.setCell ?_ (by simp <;> omega) _) | refine Below.drew ?_))) ).mono ?_
  rintro e w3 ⟨v3, rfl, own3, hb3⟩
  have hs3 := hb3.size
  (try simp at hs3)
  have hy3_0 : w.heap.size < w3.heap.size := by omega
  have hk3_0 := fun o => hb3.cell (p := ⟨w.heap.size, o, none⟩) (by first | omega | (simp <;> omega))
  have hg3_0 := fun o => hb3.frozen (p := ⟨w.heap.size, o, none⟩) (by first | omega | (simp <;> omega))
  obtain ⟨G3, h3, rfl, rd_G3⟩ := own_rd own3
  have RDG3 := Lib.hid rd_G3
  have HLG3 := Lib.hid (own_blk own3)
  have RGG3 : Hid (∀ k, atB G3 k → w2.heap.size ≤ k ∧ k < w3.heap.size) := Lib.hid (fun k hk => ⟨by have h9 := (own_rng own3 k hk).1; (try simp at h9); omega, (own_rng own3 k hk).2⟩)
  have OWG3 := Lib.hid own3
  clear rd_G3 own3
  go_wp2_with fail
  refine (toTopo_any A B n c m d ps ns _ HN.out HM.out (HR.out.below (by repeat (first | exact Below.refl _ _ | assumption | (refine bstep ?_ (below_drewN _ _)) | exact bstep (by assumption) (by assumption) | (refine bstep ?_ (below_alloc _ _)) | (refine bstep ?_ (by assumption)) | (refine Below.setCell ?_ (by simp <;> omega) _) | refine Below.drew ?_ | (refine Below.trans ?_ (by assumption))))) (HQ.out.below (by repeat (first | exact Below.refl _ _ | assumption | (refine bstep ?_ (below_drewN _ _)) | exact bstep (by assumption) (by assumption) | (refine bstep ?_ (below_alloc _ _)) | (refine bstep ?_ (by assumption)) | (refine Below.setCell ?_ (by simp <;> omega) _) | refine Below.drew ?_ | (refine Below.trans ?_ (by assumption)))))).mono ?_
  rintro e w4 ⟨u4, v4, rfl, owa4, owb4, hb4⟩
  have hs4 := hb4.size
  (try simp at hs4)
  have hy4_0 : w.heap.size < w4.heap.size := by omega
  have hk4_0 := fun o => hb4.cell (p := ⟨w.heap.size, o, none⟩) (by first | omega | (simp <;> omega))
  have hg4_0 := fun o => hb4.frozen (p := ⟨w.heap.size, o, none⟩) (by first | omega | (simp <;> omega))
  obtain ⟨A4, c4, rfl, rd_A4⟩ := own_rd owa4
  have RDA4 := Lib.hid rd_A4
  have HLA4 := Lib.hid (own_blk owa4)
  have RGA4 : Hid (∀ k, atB A4 k → w3.heap.size ≤ k ∧ k < w4.heap.size) := Lib.hid (fun k hk => ⟨by have h9 := (own_rng owa4 k hk).1; (try simp at h9); omega, (own_rng owa4 k hk).2⟩)
  have OWA4 := Lib.hid owa4
  clear rd_A4 owa4
  obtain ⟨B4, d4, rfl, rd_B4⟩ := own_rd owb4
  have RDB4 := Lib.hid rd_B4
  have HLB4 := Lib.hid (own_blk owb4)
  have RGB4 : Hid (∀ k, atB B4 k → w3.heap.size ≤ k ∧ k < w4.heap.size) := Lib.hid (fun k hk => ⟨by have h9 := (own_rng owb4 k hk).1; (try simp at h9); omega, (own_rng owb4 k hk).2⟩)
  have OWB4 := Lib.hid owb4
  clear rd_B4 owb4
  go_wp2_with fail
  refine (Above_any A4 B4 n c4 m d4 ps ns  x _ HN.out HM.out (RDA4.out.below HLA4.out (by repeat (first | exact Below.refl _ _ | assumption | (refine bstep ?_ (below_drewN _ _)) | exact bstep (by assumption) (by assumption) | (refine bstep ?_ (below_alloc _ _)) | (refine bstep ?_ (by assumption)) | (refine Below.setCell ?_ (by simp <;> omega) _) | refine Below.drew ?_))) (RDB4.out.below HLB4.out (by repeat (first | exact Below.refl _ _ | assumption | (refine bstep ?_ (below_drewN _ _)) | exact bstep (by assumption) (by assumption) | (refine bstep ?_ (below_alloc _ _)) | (refine bstep ?_ (by assumption)) | (refine Below.setCell ?_ (by simp <;> omega) _) | refine Below.drew ?_))) (lt_below HLA4.out (by repeat (first | exact Below.refl _ _ | assumption | (refine bstep ?_ (below_drewN _ _)) | exact bstep (by assumption) (by assumption) | (refine bstep ?_ (below_alloc _ _)) | (refine bstep ?_ (by assumption)) | (refine Below.setCell ?_ (by simp <;> omega) _) | refine Below.drew ?_))) (lt_below HLB4.out (by repeat (first | exact Below.refl _ _ | assumption | (refine bstep ?_ (below_drewN _ _)) | exact bstep (by assumption) (by assumption) | (refine bstep ?_ (below_alloc _ _)) | (refine bstep ?_ (by assumption)) | (refine Below.setCell ?_ (by simp <;> omega) _) | refine Below.drew ?_))) ).mono ?_
  rintro e w5 ⟨v5, rfl, own5, hb5⟩
  have hs5 := hb5.size
  (try simp at hs5)
  have hy5_0 : w.heap.size < w5.heap.size := by omega
  have hk5_0 := fun o => hb5.cell (p := ⟨w.heap.size, o, none⟩) (by first | omega | (simp <;> omega))
  have hg5_0 := fun o => hb5.frozen (p := ⟨w.heap.size, o, none⟩) (by first | omega | (simp <;> omega))
  have hy5_1 : w4.heap.size < w5.heap.size := by omega
  have hk5_1 := fun o => hb5.cell (p := ⟨w4.heap.size, o, none⟩) (by first | omega | (simp <;> omega))
  have hg5_1 := fun o => hb5.frozen (p := ⟨w4.heap.size, o, none⟩) (by first | omega | (simp <;> omega))
  obtain ⟨G5, h5, rfl, rd_G5⟩ := own_rd own5
  have RDG5 := Lib.hid rd_G5
  have HLG5 := Lib.hid (own_blk own5)
  have RGG5 : Hid (∀ k, atB G5 k → w4.heap.size + 1 ≤ k ∧ k < w5.heap.size) := Lib.hid (fun k hk => ⟨by have h9 := (own_rng own5 k hk).1; (try simp at h9); omega, (own_rng own5 k hk).2⟩)
  have OWG5 := Lib.hid own5
  clear rd_G5 own5
  go_wp2_with fail
  refine (eqIntS_any G5 G3 _ h5 h3 (aboveV ps ns x) _ HLE.out (RDG5.out.below HLG5.out (by repeat (first | exact Below.refl _ _ | assumption | (refine bstep ?_ (below_drewN _ _)) | exact bstep (by assumption) (by assumption) | (refine bstep ?_ (below_alloc _ _)) | (refine bstep ?_ (by assumption)) | (refine Below.setCell ?_ (by simp <;> omega) _) | refine Below.drew ?_))) (RDG3.out.below HLG3.out (by repeat (first | exact Below.refl _ _ | assumption | (refine bstep ?_ (below_drewN _ _)) | exact bstep (by assumption) (by assumption) | (refine bstep ?_ (below_alloc _ _)) | (refine bstep ?_ (by assumption)) | (refine Below.setCell ?_ (by simp <;> omega) _) | refine Below.drew ?_)))).mono ?_
  rintro e w6 ⟨rfl, k6, hw6⟩
  have hb6 := below_eqN hw6
  clear hw6
  have hs6 := hb6.size
  (try simp at hs6)
  have hy6_0 : w.heap.size < w6.heap.size := by omega
  have hk6_0 := fun o => hb6.cell (p := ⟨w.heap.size, o, none⟩) (by first | omega | (simp <;> omega))
  have hg6_0 := fun o => hb6.frozen (p := ⟨w.heap.size, o, none⟩) (by first | omega | (simp <;> omega))
  have hy6_1 : w4.heap.size < w6.heap.size := by omega
  have hk6_1 := fun o => hb6.cell (p := ⟨w4.heap.size, o, none⟩) (by first | omega | (simp <;> omega))
  have hg6_1 := fun o => hb6.frozen (p := ⟨w4.heap.size, o, none⟩) (by first | omega | (simp <;> omega))
  go_wp2_with fail
  go_region_held3 (fun w' => w'.cell? ⟨w.heap.size, 0, none⟩ = some (.slice A n c) ∧ w'.cell? ⟨w.heap.size, 1, none⟩ = some (.slice B m d) ∧ w'.cell? ⟨w4.heap.size, 0, none⟩ = some (.slice A4 n c4) ∧ w'.cell? ⟨w4.heap.size, 1, none⟩ = some (.slice B4 m d4)) (simp [go_sem, *, World.cell?_alloc_some, World.cell?_setCell_far, Nat.lt_add_right, Nat.ne_of_gt]) (first | (go_at_call 69; refine (toTopo_any A B n c m d ps ns _ HN.out HM.out (HR.out.below (by repeat (first | exact Below.refl _ _ | assumption | (refine bstep ?_ (below_drewN _ _)) | exact bstep (by assumption) (by assumption) | (refine bstep ?_ (below_alloc _ _)) | (refine bstep ?_ (by assumption)) | (refine Below.setCell ?_ (by simp <;> omega) _) | refine Below.drew ?_ | (refine Below.trans ?_ (by assumption))))) (HQ.out.below (by repeat (first | exact Below.refl _ _ | assumption | (refine bstep ?_ (below_drewN _ _)) | exact bstep (by assumption) (by assumption) | (refine bstep ?_ (below_alloc _ _)) | (refine bstep ?_ (by assumption)) | (refine Below.setCell ?_ (by simp <;> omega) _) | refine Below.drew ?_ | (refine Below.trans ?_ (by assumption)))))).mono ?_; rintro e w7 ⟨u7, v7, rfl, owa7, owb7, hb7⟩; have hs7 := hb7.size; (try simp at hs7); have hy7_0 : w.heap.size < w7.heap.size := (by omega); have hk7_0 := fun o => hb7.cell (p := ⟨w.heap.size, o, none⟩) (by first | omega | (simp <;> omega)); have hg7_0 := fun o => hb7.frozen (p := ⟨w.heap.size, o, none⟩) (by first | omega | (simp <;> omega)); have hy7_1 : w4.heap.size < w7.heap.size := (by omega); have hk7_1 := fun o => hb7.cell (p := ⟨w4.heap.size, o, none⟩) (by first | omega | (simp <;> omega)); have hg7_1 := fun o => hb7.frozen (p := ⟨w4.heap.size, o, none⟩) (by first | omega | (simp <;> omega)); obtain ⟨A7, c7, rfl, rd_A7⟩ := own_rd owa7; have RDA7 := Lib.hid rd_A7; have HLA7 := Lib.hid (own_blk owa7); have OWA7 := Lib.hid owa7; clear rd_A7 owa7; obtain ⟨B7, d7, rfl, rd_B7⟩ := own_rd owb7; have RDB7 := Lib.hid rd_B7; have HLB7 := Lib.hid (own_blk owb7); have OWB7 := Lib.hid owb7; clear rd_B7 owb7) | (go_at_call 71; refine (eqTopo_any A4 A7 B4 B7 n c4 c7 m d4 d7 ps ns _ (Nat.le_succ_of_le HN.out) (Nat.le_succ_of_le HM.out) (RDA4.out.below HLA4.out (by repeat (first | exact Below.refl _ _ | assumption | (refine bstep ?_ (below_drewN _ _)) | exact bstep (by assumption) (by assumption) | (refine bstep ?_ (below_alloc _ _)) | (refine bstep ?_ (by assumption)) | (refine Below.setCell ?_ (by simp <;> omega) _) | refine Below.drew ?_))) RDA7.out (RDB4.out.below HLB4.out (by repeat (first | exact Below.refl _ _ | assumption | (refine bstep ?_ (below_drewN _ _)) | exact bstep (by assumption) (by assumption) | (refine bstep ?_ (below_alloc _ _)) | (refine bstep ?_ (by assumption)) | (refine Below.setCell ?_ (by simp <;> omega) _) | refine Below.drew ?_))) RDB7.out (lt_below HLA4.out (by repeat (first | exact Below.refl _ _ | assumption | (refine bstep ?_ (below_drewN _ _)) | exact bstep (by assumption) (by assumption) | (refine bstep ?_ (below_alloc _ _)) | (refine bstep ?_ (by assumption)) | (refine Below.setCell ?_ (by simp <;> omega) _) | refine Below.drew ?_))) HLA7.out (lt_below HLB4.out (by repeat (first | exact Below.refl _ _ | assumption | (refine bstep ?_ (below_drewN _ _)) | exact bstep (by assumption) (by assumption) | (refine bstep ?_ (below_alloc _ _)) | (refine bstep ?_ (by assumption)) | (refine Below.setCell ?_ (by simp <;> omega) _) | refine Below.drew ?_))) HLB7.out).mono ?_; rintro e w8 ⟨rfl, hb8⟩; have hs8 := hb8.size; (try simp at hs8); have hy8_0 : w.heap.size < w8.heap.size := (by omega); have hk8_0 := fun o => hb8.cell (p := ⟨w.heap.size, o, none⟩) (by first | omega | (simp <;> omega)); have hg8_0 := fun o => hb8.frozen (p := ⟨w.heap.size, o, none⟩) (by first | omega | (simp <;> omega)); have hy8_1 : w4.heap.size < w8.heap.size := (by omega); have hk8_1 := fun o => hb8.cell (p := ⟨w4.heap.size, o, none⟩) (by first | omega | (simp <;> omega)); have hg8_1 := fun o => hb8.frozen (p := ⟨w4.heap.size, o, none⟩) (by first | omega | (simp <;> omega))))
  have HNE : Hid (∀ k, atB A4 k → ¬ atB B4 k) := Lib.hid (own_apart OWA4.out OWB4.out (by decide))
  go_wp2_with fail
  refine (markTopo_any A4 B4 n c4 m d4 _ _ _ (Nat.le_succ_of_le HN.out) (Nat.le_succ_of_le HM.out) ((own_wr2 OWA4.out).below (by repeat (first | exact Below.refl _ _ | assumption | (refine bstep ?_ (below_drewN _ _)) | exact bstep (by assumption) (by assumption) | (refine bstep ?_ (below_alloc _ _)) | (refine bstep ?_ (by assumption)) | (refine Below.setCell ?_ (by simp <;> omega) _) | refine Below.drew ?_))) ((own_wr2 OWB4.out).below (by repeat (first | exact Below.refl _ _ | assumption | (refine bstep ?_ (below_drewN _ _)) | exact bstep (by assumption) (by assumption) | (refine bstep ?_ (below_alloc _ _)) | (refine bstep ?_ (by assumption)) | (refine Below.setCell ?_ (by simp <;> omega) _) | refine Below.drew ?_))) HNE.out (fun k hk => by have q9 := RGA4.out k hk; omega)).mono ?_
  rintro e w9 ⟨rfl, fr9⟩
  have hs9 := fr9.size
  (try simp at hs9)
  have hB9 : Below w.heap.size _ w9 := fr9.below (fun k hk => by rcases hk with h8 | h8 <;> first | (have q9 := RGA4.out _ h8; omega) | (have q9 := RGB4.out _ h8; omega)) (by first | omega | (simp <;> omega))
  have hy9_0 : w.heap.size < w9.heap.size := by omega
  have hk9_0 := fun o => fr9.cell (b := w.heap.size) (by first | omega | (simp <;> omega)) (fun h => by rcases h with h8 | h8 <;> first | (have q9 := RGA4.out _ h8; omega) | (have q9 := RGB4.out _ h8; omega)) o
  have hg9_0 := fun o => fr9.frozen (b := w.heap.size) (by first | omega | (simp <;> omega)) (fun h => by rcases h with h8 | h8 <;> first | (have q9 := RGA4.out _ h8; omega) | (have q9 := RGB4.out _ h8; omega)) o
  have hy9_1 : w4.heap.size < w9.heap.size := by omega
  have hk9_1 := fun o => fr9.cell (b := w4.heap.size) (by first | omega | (simp <;> omega)) (fun h => by rcases h with h8 | h8 <;> first | (have q9 := RGA4.out _ h8; omega) | (have q9 := RGB4.out _ h8; omega)) o
  have hg9_1 := fun o => fr9.frozen (b := w4.heap.size) (by first | omega | (simp <;> omega)) (fun h => by rcases h with h8 | h8 <;> first | (have q9 := RGA4.out _ h8; omega) | (have q9 := RGB4.out _ h8; omega)) o
  have RDG3_9 := Lib.hid (Rd.fr (RDG3.out.below HLG3.out (by repeat (first | exact Below.refl _ _ | assumption | (refine bstep ?_ (below_drewN _ _)) | exact bstep (by assumption) (by assumption) | (refine bstep ?_ (below_alloc _ _)) | (refine bstep ?_ (by assumption)) | (refine Below.setCell ?_ (by simp <;> omega) _) | refine Below.drew ?_))) (lt_below HLG3.out (by repeat (first | exact Below.refl _ _ | assumption | (refine bstep ?_ (below_drewN _ _)) | exact bstep (by assumption) (by assumption) | (refine bstep ?_ (below_alloc _ _)) | (refine bstep ?_ (by assumption)) | (refine Below.setCell ?_ (by simp <;> omega) _) | refine Below.drew ?_))) fr9 (fun k h1 h2 => by have q1 := RGG3.out k h1; rcases h2 with h8 | h8 <;> first | (have q9 := RGA4.out _ h8; omega) | (have q9 := RGB4.out _ h8; omega)))
  have HLG3_9 := Lib.hid (lt_fr (lt_below HLG3.out (by repeat (first | exact Below.refl _ _ | assumption | (refine bstep ?_ (below_drewN _ _)) | exact bstep (by assumption) (by assumption) | (refine bstep ?_ (below_alloc _ _)) | (refine bstep ?_ (by assumption)) | (refine Below.setCell ?_ (by simp <;> omega) _) | refine Below.drew ?_))) fr9)
  have WRG3_9 := Lib.hid (Wr.fr ((own_wr2 OWG3.out).below (by repeat (first | exact Below.refl _ _ | assumption | (refine bstep ?_ (below_drewN _ _)) | exact bstep (by assumption) (by assumption) | (refine bstep ?_ (below_alloc _ _)) | (refine bstep ?_ (by assumption)) | (refine Below.setCell ?_ (by simp <;> omega) _) | refine Below.drew ?_))) fr9 (fun k h1 h2 => by have q1 := RGG3.out k h1; rcases h2 with h8 | h8 <;> first | (have q9 := RGA4.out _ h8; omega) | (have q9 := RGB4.out _ h8; omega)))
  have RDG5_9 := Lib.hid (Rd.fr (RDG5.out.below HLG5.out (by repeat (first | exact Below.refl _ _ | assumption | (refine bstep ?_ (below_drewN _ _)) | exact bstep (by assumption) (by assumption) | (refine bstep ?_ (below_alloc _ _)) | (refine bstep ?_ (by assumption)) | (refine Below.setCell ?_ (by simp <;> omega) _) | refine Below.drew ?_))) (lt_below HLG5.out (by repeat (first | exact Below.refl _ _ | assumption | (refine bstep ?_ (below_drewN _ _)) | exact bstep (by assumption) (by assumption) | (refine bstep ?_ (below_alloc _ _)) | (refine bstep ?_ (by assumption)) | (refine Below.setCell ?_ (by simp <;> omega) _) | refine Below.drew ?_))) fr9 (fun k h1 h2 => by have q1 := RGG5.out k h1; rcases h2 with h8 | h8 <;> first | (have q9 := RGA4.out _ h8; omega) | (have q9 := RGB4.out _ h8; omega)))
  have HLG5_9 := Lib.hid (lt_fr (lt_below HLG5.out (by repeat (first | exact Below.refl _ _ | assumption | (refine bstep ?_ (below_drewN _ _)) | exact bstep (by assumption) (by assumption) | (refine bstep ?_ (below_alloc _ _)) | (refine bstep ?_ (by assumption)) | (refine Below.setCell ?_ (by simp <;> omega) _) | refine Below.drew ?_))) fr9)
  have WRG5_9 := Lib.hid (Wr.fr ((own_wr2 OWG5.out).below (by repeat (first | exact Below.refl _ _ | assumption | (refine bstep ?_ (below_drewN _ _)) | exact bstep (by assumption) (by assumption) | (refine bstep ?_ (below_alloc _ _)) | (refine bstep ?_ (by assumption)) | (refine Below.setCell ?_ (by simp <;> omega) _) | refine Below.drew ?_))) fr9 (fun k h1 h2 => by have q1 := RGG5.out k h1; rcases h2 with h8 | h8 <;> first | (have q9 := RGA4.out _ h8; omega) | (have q9 := RGB4.out _ h8; omega)))
  go_wp2_with fail
  refine (eqIntS_any G5 G3 _ h5 h3 (aboveV ps ns x) _ HLE.out (RDG5_9.out.below HLG5_9.out (by repeat (first | exact Below.refl _ _ | assumption | (refine bstep ?_ (below_drewN _ _)) | exact bstep (by assumption) (by assumption) | (refine bstep ?_ (below_alloc _ _)) | (refine bstep ?_ (by assumption)) | (refine Below.setCell ?_ (by simp <;> omega) _) | refine Below.drew ?_))) (RDG3_9.out.below HLG3_9.out (by repeat (first | exact Below.refl _ _ | assumption | (refine bstep ?_ (below_drewN _ _)) | exact bstep (by assumption) (by assumption) | (refine bstep ?_ (below_alloc _ _)) | (refine bstep ?_ (by assumption)) | (refine Below.setCell ?_ (by simp <;> omega) _) | refine Below.drew ?_)))).mono ?_
  rintro e w10 ⟨rfl, k10, hw10⟩
  have hb10 := below_eqN hw10
  clear hw10
  have hs10 := hb10.size
  (try simp at hs10)
  have hy10_0 : w.heap.size < w10.heap.size := by omega
  have hk10_0 := fun o => hb10.cell (p := ⟨w.heap.size, o, none⟩) (by first | omega | (simp <;> omega))
  have hg10_0 := fun o => hb10.frozen (p := ⟨w.heap.size, o, none⟩) (by first | omega | (simp <;> omega))
  have hy10_1 : w4.heap.size < w10.heap.size := by omega
  have hk10_1 := fun o => hb10.cell (p := ⟨w4.heap.size, o, none⟩) (by first | omega | (simp <;> omega))
  have hg10_1 := fun o => hb10.frozen (p := ⟨w4.heap.size, o, none⟩) (by first | omega | (simp <;> omega))
  go_wp2_with fail
  refine (markIntF G5 _ h5 _ 1 _ HLE.out (by omega) (by omega) ((WRG5_9.out).below (by repeat (first | exact Below.refl _ _ | assumption | (refine bstep ?_ (below_drewN _ _)) | exact bstep (by assumption) (by assumption) | (refine bstep ?_ (below_alloc _ _)) | (refine bstep ?_ (by assumption)) | (refine Below.setCell ?_ (by simp <;> omega) _) | refine Below.drew ?_)))).mono ?_
  rintro e w11 ⟨rfl, rd11, fr11⟩
  have hs11 := fr11.size
  (try simp at hs11)
  have hB11 : Below w.heap.size _ w11 := fr11.below (fun k hk => by have q9 := RGG5.out _ hk; omega) (by first | omega | (simp <;> omega))
  have hy11_0 : w.heap.size < w11.heap.size := by omega
  have hk11_0 := fun o => fr11.cell (b := w.heap.size) (by first | omega | (simp <;> omega)) (fun h => by have q9 := RGG5.out _ h; omega) o
  have hg11_0 := fun o => fr11.frozen (b := w.heap.size) (by first | omega | (simp <;> omega)) (fun h => by have q9 := RGG5.out _ h; omega) o
  have hy11_1 : w4.heap.size < w11.heap.size := by omega
  have hk11_1 := fun o => fr11.cell (b := w4.heap.size) (by first | omega | (simp <;> omega)) (fun h => by have q9 := RGG5.out _ h; omega) o
  have hg11_1 := fun o => fr11.frozen (b := w4.heap.size) (by first | omega | (simp <;> omega)) (fun h => by have q9 := RGG5.out _ h; omega) o
  have RDG3_11 := Lib.hid (Rd.fr (RDG3_9.out.below HLG3_9.out (by repeat (first | exact Below.refl _ _ | assumption | (refine bstep ?_ (below_drewN _ _)) | exact bstep (by assumption) (by assumption) | (refine bstep ?_ (below_alloc _ _)) | (refine bstep ?_ (by assumption)) | (refine Below.setCell ?_ (by simp <;> omega) _) | refine Below.drew ?_))) (lt_below HLG3_9.out (by repeat (first | exact Below.refl _ _ | assumption | (refine bstep ?_ (below_drewN _ _)) | exact bstep (by assumption) (by assumption) | (refine bstep ?_ (below_alloc _ _)) | (refine bstep ?_ (by assumption)) | (refine Below.setCell ?_ (by simp <;> omega) _) | refine Below.drew ?_))) fr11 (fun k h1 h2 => by have q1 := RGG3.out k h1; have q9 := RGG5.out _ h2; omega))
  have HLG3_11 := Lib.hid (lt_fr (lt_below HLG3_9.out (by repeat (first | exact Below.refl _ _ | assumption | (refine bstep ?_ (below_drewN _ _)) | exact bstep (by assumption) (by assumption) | (refine bstep ?_ (below_alloc _ _)) | (refine bstep ?_ (by assumption)) | (refine Below.setCell ?_ (by simp <;> omega) _) | refine Below.drew ?_))) fr11)
  have WRG3_11 := Lib.hid (Wr.fr ((WRG3_9.out).below (by repeat (first | exact Below.refl _ _ | assumption | (refine bstep ?_ (below_drewN _ _)) | exact bstep (by assumption) (by assumption) | (refine bstep ?_ (below_alloc _ _)) | (refine bstep ?_ (by assumption)) | (refine Below.setCell ?_ (by simp <;> omega) _) | refine Below.drew ?_))) fr11 (fun k h1 h2 => by have q1 := RGG3.out k h1; have q9 := RGG5.out _ h2; omega))
  have RMG5 := Lib.hid rd11
  have HLG5_11 := Lib.hid (lt_fr (lt_below HLG5_9.out (by repeat (first | exact Below.refl _ _ | assumption | (refine bstep ?_ (below_drewN _ _)) | exact bstep (by assumption) (by assumption) | (refine bstep ?_ (below_alloc _ _)) | (refine bstep ?_ (by assumption)) | (refine Below.setCell ?_ (by simp <;> omega) _) | refine Below.drew ?_))) fr11)
  clear rd11
  go_wp2_with fail
  refine (heldInt_any G5 _ h5 1 _ HLE.out (by omega) (by omega) (RMG5.out.below HLG5_11.out (by repeat (first | exact Below.refl _ _ | assumption | (refine bstep ?_ (below_drewN _ _)) | exact bstep (by assumption) (by assumption) | (refine bstep ?_ (below_alloc _ _)) | (refine bstep ?_ (by assumption)) | (refine Below.setCell ?_ (by simp <;> omega) _) | refine Below.drew ?_)))).mono ?_
  rintro e w12 ⟨rfl, hw12⟩
  have hb12 := below_same hw12
  clear hw12
  have hs12 := hb12.size
  (try simp at hs12)
  have hy12_0 : w.heap.size < w12.heap.size := by omega
  have hk12_0 := fun o => hb12.cell (p := ⟨w.heap.size, o, none⟩) (by first | omega | (simp <;> omega))
  have hg12_0 := fun o => hb12.frozen (p := ⟨w.heap.size, o, none⟩) (by first | omega | (simp <;> omega))
  have hy12_1 : w4.heap.size < w12.heap.size := by omega
  have hk12_1 := fun o => hb12.cell (p := ⟨w4.heap.size, o, none⟩) (by first | omega | (simp <;> omega))
  have hg12_1 := fun o => hb12.frozen (p := ⟨w4.heap.size, o, none⟩) (by first | omega | (simp <;> omega))
  go_wp2_with fail
  refine (toTopo_any A B n c m d ps ns _ HN.out HM.out (HR.out.below (by repeat (first | exact Below.refl _ _ | assumption | (refine bstep ?_ (below_drewN _ _)) | exact bstep (by assumption) (by assumption) | (refine bstep ?_ (below_alloc _ _)) | (refine bstep ?_ (by assumption)) | (refine Below.setCell ?_ (by simp <;> omega) _) | refine Below.drew ?_ | (refine Below.trans ?_ (by assumption))))) (HQ.out.below (by repeat (first | exact Below.refl _ _ | assumption | (refine bstep ?_ (below_drewN _ _)) | exact bstep (by assumption) (by assumption) | (refine bstep ?_ (below_alloc _ _)) | (refine bstep ?_ (by assumption)) | (refine Below.setCell ?_ (by simp <;> omega) _) | refine Below.drew ?_ | (refine Below.trans ?_ (by assumption)))))).mono ?_
  rintro e w13 ⟨u13, v13, rfl, owa13, owb13, hb13⟩
  have hs13 := hb13.size
  (try simp at hs13)
  have hy13_0 : w.heap.size < w13.heap.size := by omega
  have hk13_0 := fun o => hb13.cell (p := ⟨w.heap.size, o, none⟩) (by first | omega | (simp <;> omega))
  have hg13_0 := fun o => hb13.frozen (p := ⟨w.heap.size, o, none⟩) (by first | omega | (simp <;> omega))
  have hy13_1 : w4.heap.size < w13.heap.size := by omega
  have hk13_1 := fun o => hb13.cell (p := ⟨w4.heap.size, o, none⟩) (by first | omega | (simp <;> omega))
  have hg13_1 := fun o => hb13.frozen (p := ⟨w4.heap.size, o, none⟩) (by first | omega | (simp <;> omega))
  obtain ⟨A13, c13, rfl, rd_A13⟩ := own_rd owa13
  have RDA13 := Lib.hid rd_A13
  have HLA13 := Lib.hid (own_blk owa13)
  have RGA13 : Hid (∀ k, atB A13 k → w12.heap.size ≤ k ∧ k < w13.heap.size) := Lib.hid (fun k hk => ⟨by have h9 := (own_rng owa13 k hk).1; (try simp at h9); omega, (own_rng owa13 k hk).2⟩)
  have OWA13 := Lib.hid owa13
  clear rd_A13 owa13
  obtain ⟨B13, d13, rfl, rd_B13⟩ := own_rd owb13
  have RDB13 := Lib.hid rd_B13
  have HLB13 := Lib.hid (own_blk owb13)
  have RGB13 : Hid (∀ k, atB B13 k → w12.heap.size ≤ k ∧ k < w13.heap.size) := Lib.hid (fun k hk => ⟨by have h9 := (own_rng owb13 k hk).1; (try simp at h9); omega, (own_rng owb13 k hk).2⟩)
  have OWB13 := Lib.hid owb13
  clear rd_B13 owb13
  go_wp2_with fail
  refine (Above_any A13 B13 n c13 m d13 ps ns  x _ HN.out HM.out (RDA13.out.below HLA13.out (by repeat (first | exact Below.refl _ _ | assumption | (refine bstep ?_ (below_drewN _ _)) | exact bstep (by assumption) (by assumption) | (refine bstep ?_ (below_alloc _ _)) | (refine bstep ?_ (by assumption)) | (refine Below.setCell ?_ (by simp <;> omega) _) | refine Below.drew ?_))) (RDB13.out.below HLB13.out (by repeat (first | exact Below.refl _ _ | assumption | (refine bstep ?_ (below_drewN _ _)) | exact bstep (by assumption) (by assumption) | (refine bstep ?_ (below_alloc _ _)) | (refine bstep ?_ (by assumption)) | (refine Below.setCell ?_ (by simp <;> omega) _) | refine Below.drew ?_))) (lt_below HLA13.out (by repeat (first | exact Below.refl _ _ | assumption | (refine bstep ?_ (below_drewN _ _)) | exact bstep (by assumption) (by assumption) | (refine bstep ?_ (below_alloc _ _)) | (refine bstep ?_ (by assumption)) | (refine Below.setCell ?_ (by simp <;> omega) _) | refine Below.drew ?_))) (lt_below HLB13.out (by repeat (first | exact Below.refl _ _ | assumption | (refine bstep ?_ (below_drewN _ _)) | exact bstep (by assumption) (by assumption) | (refine bstep ?_ (below_alloc _ _)) | (refine bstep ?_ (by assumption)) | (refine Below.setCell ?_ (by simp <;> omega) _) | refine Below.drew ?_))) ).mono ?_
  rintro e w14 ⟨v14, rfl, own14, hb14⟩
  have hs14 := hb14.size
  (try simp at hs14)
  have hy14_0 : w.heap.size < w14.heap.size := by omega
  have hk14_0 := fun o => hb14.cell (p := ⟨w.heap.size, o, none⟩) (by first | omega | (simp <;> omega))
  have hg14_0 := fun o => hb14.frozen (p := ⟨w.heap.size, o, none⟩) (by first | omega | (simp <;> omega))
  have hy14_1 : w4.heap.size < w14.heap.size := by omega
  have hk14_1 := fun o => hb14.cell (p := ⟨w4.heap.size, o, none⟩) (by first | omega | (simp <;> omega))
  have hg14_1 := fun o => hb14.frozen (p := ⟨w4.heap.size, o, none⟩) (by first | omega | (simp <;> omega))
  obtain ⟨G14, h14, rfl, rd_G14⟩ := own_rd own14
  have RDG14 := Lib.hid rd_G14
  have HLG14 := Lib.hid (own_blk own14)
  have RGG14 : Hid (∀ k, atB G14 k → w13.heap.size ≤ k ∧ k < w14.heap.size) := Lib.hid (fun k hk => ⟨by have h9 := (own_rng own14 k hk).1; (try simp at h9); omega, (own_rng own14 k hk).2⟩)
  have OWG14 := Lib.hid own14
  clear rd_G14 own14
  go_wp2_with fail
  refine (eqIntS_any G14 G3 _ h14 h3 (aboveV ps ns x) _ HLE.out (RDG14.out.below HLG14.out (by repeat (first | exact Below.refl _ _ | assumption | (refine bstep ?_ (below_drewN _ _)) | exact bstep (by assumption) (by assumption) | (refine bstep ?_ (below_alloc _ _)) | (refine bstep ?_ (by assumption)) | (refine Below.setCell ?_ (by simp <;> omega) _) | refine Below.drew ?_))) (RDG3_11.out.below HLG3_11.out (by repeat (first | exact Below.refl _ _ | assumption | (refine bstep ?_ (below_drewN _ _)) | exact bstep (by assumption) (by assumption) | (refine bstep ?_ (below_alloc _ _)) | (refine bstep ?_ (by assumption)) | (refine Below.setCell ?_ (by simp <;> omega) _) | refine Below.drew ?_)))).mono ?_
  rintro e w15 ⟨rfl, k15, hw15⟩
  have hb15 := below_eqN hw15
  clear hw15
  have hs15 := hb15.size
  (try simp at hs15)
  have hy15_0 : w.heap.size < w15.heap.size := by omega
  have hk15_0 := fun o => hb15.cell (p := ⟨w.heap.size, o, none⟩) (by first | omega | (simp <;> omega))
  have hg15_0 := fun o => hb15.frozen (p := ⟨w.heap.size, o, none⟩) (by first | omega | (simp <;> omega))
  have hy15_1 : w4.heap.size < w15.heap.size := by omega
  have hk15_1 := fun o => hb15.cell (p := ⟨w4.heap.size, o, none⟩) (by first | omega | (simp <;> omega))
  have hg15_1 := fun o => hb15.frozen (p := ⟨w4.heap.size, o, none⟩) (by first | omega | (simp <;> omega))
  go_wp2_with fail
  refine (heldInt_any G5 _ h5 1 _ HLE.out (by omega) (by omega) (RMG5.out.below HLG5_11.out (by repeat (first | exact Below.refl _ _ | assumption | (refine bstep ?_ (below_drewN _ _)) | exact bstep (by assumption) (by assumption) | (refine bstep ?_ (below_alloc _ _)) | (refine bstep ?_ (by assumption)) | (refine Below.setCell ?_ (by simp <;> omega) _) | refine Below.drew ?_)))).mono ?_
  rintro e w16 ⟨rfl, hw16⟩
  have hb16 := below_same hw16
  clear hw16
  have hs16 := hb16.size
  (try simp at hs16)
  have hy16_0 : w.heap.size < w16.heap.size := by omega
  have hk16_0 := fun o => hb16.cell (p := ⟨w.heap.size, o, none⟩) (by first | omega | (simp <;> omega))
  have hg16_0 := fun o => hb16.frozen (p := ⟨w.heap.size, o, none⟩) (by first | omega | (simp <;> omega))
  have hy16_1 : w4.heap.size < w16.heap.size := by omega
  have hk16_1 := fun o => hb16.cell (p := ⟨w4.heap.size, o, none⟩) (by first | omega | (simp <;> omega))
  have hg16_1 := fun o => hb16.frozen (p := ⟨w4.heap.size, o, none⟩) (by first | omega | (simp <;> omega))
  go_wp2
  go_ret
  exact ⟨rfl, (by repeat (first | exact Below.refl _ _ | assumption | (refine bstep ?_ (below_drewN _ _)) | exact bstep (by assumption) (by assumption) | (refine bstep ?_ (below_alloc _ _)) | (refine bstep ?_ (by assumption)) | (refine Below.setCell ?_ (by simp <;> omega) _) | refine Below.drew ?_ | (refine Below.trans ?_ (by assumption))))⟩
theorem law_above (A B : Option Addr) (n c m d : Nat) (ps : List Int) (ns : List Q) (x : Int) (w : World) (hn : n ≤ maxLen) (hm : m ≤ maxLen) (hr : RdI w A n ps) (hq : RdE w B m ns) :
    Calls Try.prog 17 #[.agg #[.slice A n c, .slice B m d], .int .i64 x] w fun e w' => e = .returned (.bool true) ∧ Below w.heap.size w w' := by
  rcases szT_cases n m with h | ⟨h, h1, h2⟩
  · exact law_above_big A B n c m d x w hn hm h
  · exact law_above_small A B n c m d ps ns x w h h1 h2 hr hq

set_option maxHeartbeats 4000000 in
theorem law_below_big (A B : Option Addr) (n c m d : Nat) (x : Int) (w : World) (hn : n ≤ maxLen) (hm : m ≤ maxLen) (hz : szT n m = -1) :
    Calls Try.prog 19 #[.agg #[.slice A n c, .slice B m d], .int .i64 x] w fun e w' => e = .returned (.bool true) ∧ Below w.heap.size w w' := by
  have HN := Lib.hid hn
  have HM := Lib.hid hm
  have HZ := Lib.hid hz
  clear hn hm hz
  go_enter Try.func19, Try.ntmps19
  go_wp2_with fail
  refine (szTopo_any A B n c m d _ HN.out HM.out).mono ?_
  rintro e w1 ⟨rfl, hb1⟩
  rw [HZ.out]
  go_wp2
  go_ret
  exact ⟨rfl, (by repeat (first | exact Below.refl _ _ | assumption | (refine bstep ?_ (below_drewN _ _)) | exact bstep (by assumption) (by assumption) | (refine bstep ?_ (below_alloc _ _)) | (refine bstep ?_ (by assumption)) | (refine Below.setCell ?_ (by simp <;> omega) _) | refine Below.drew ?_))⟩

set_option maxHeartbeats 8000000 in
theorem law_below_small (A B : Option Addr) (n c m d : Nat) (ps : List Int) (ns : List Q) (x : Int) (w : World) (hz : 0 ≤ szT n m) (hn : n ≤ 1048576) (hm : m ≤ 1048576) (hr : RdI w A n ps) (hq : RdE w B m ns) :
    Calls Try.prog 19 #[.agg #[.slice A n c, .slice B m d], .int .i64 x] w fun e w' => e = .returned (.bool true) ∧ Below w.heap.size w w' := by
  have hz' : ¬ szT n m < 0 := by omega
  have HLE : Hid ((belowV ps ns x).length ≤ 1048577) := Lib.hid (by have := belowV_len ps ns x; omega)
  have hq0 : 0 ≤ 1 + 1 * (n : Int) + 4 * (m : Int) := by omega
  have hq1 : 0 ≤ 1 + 1 * ((belowV ps ns x).length : Int) := by omega
  have hq3 : 0 ≤ 1 + ((belowV ps ns x).length : Int) := by omega
  have HN := Lib.hid hn
  have HM := Lib.hid hm
  have HR := Lib.hid hr
  have HQ := Lib.hid hq
  clear hn hm hr hq
  go_enter Try.func19, Try.ntmps19
  go_wp2_with fail
  refine (szTopo_any A B n c m d _ (Nat.le_trans HN.out (by decide)) (Nat.le_trans HM.out (by decide))).mono ?_
  rintro e w1 ⟨rfl, hb1⟩
  have hs1 := hb1.size
  (try simp at hs1)
  have hy1_0 : w.heap.size < w1.heap.size := by omega
  have hk1_0 := fun o => hb1.cell (p := ⟨w.heap.size, o, none⟩) (by first | omega | (simp <;> omega))
  have hg1_0 := fun o => hb1.frozen (p := ⟨w.heap.size, o, none⟩) (by first | omega | (simp <;> omega))
  go_wp2_with fail
  refine (toTopo_any A B n c m d ps ns _ HN.out HM.out (HR.out.below (by repeat (first | exact Below.refl _ _ | assumption | (refine bstep ?_ (below_drewN _ _)) | exact bstep (by assumption) (by assumption) | (refine bstep ?_ (below_alloc _ _)) | (refine bstep ?_ (by assumption)) | (refine Below.setCell ?_ (by simp <;> omega) _) | refine Below.drew ?_ | (refine Below.trans ?_ (by assumption))))) (HQ.out.below (by repeat (first | exact Below.refl _ _ | assumption | (refine bstep ?_ (below_drewN _ _)) | exact bstep (by assumption) (by assumption) | (refine bstep ?_ (below_alloc _ _)) | (refine bstep ?_ (by assumption)) | (refine Below.setCell ?_ (by simp <;> omega) _) | refine Below.drew ?_ | (refine Below.trans ?_ (by assumption)))))).mono ?_
  rintro e w2 ⟨u2, v2, rfl, owa2, owb2, hb2⟩
  have hs2 := hb2.size
  (try simp at hs2)
  have hy2_0 : w.heap.size < w2.heap.size := by omega
  have hk2_0 := fun o => hb2.cell (p := ⟨w.heap.size, o, none⟩) (by first | omega | (simp <;> omega))
  have hg2_0 := fun o => hb2.frozen (p := ⟨w.heap.size, o, none⟩) (by first | omega | (simp <;> omega))
  obtain ⟨A2, c2, rfl, rd_A2⟩ := own_rd owa2
  have RDA2 := Lib.hid rd_A2
  have HLA2 := Lib.hid (own_blk owa2)
  have RGA2 : Hid (∀ k, atB A2 k → w1.heap.size ≤ k ∧ k < w2.heap.size) := Lib.hid (fun k hk => ⟨by have h9 := (own_rng owa2 k hk).1; (try simp at h9); omega, (own_rng owa2 k hk).2⟩)
  have OWA2 := Lib.hid owa2
  clear rd_A2 owa2
  obtain ⟨B2, d2, rfl, rd_B2⟩ := own_rd owb2
  have RDB2 := Lib.hid rd_B2
  have HLB2 := Lib.hid (own_blk owb2)
  have RGB2 : Hid (∀ k, atB B2 k → w1.heap.size ≤ k ∧ k < w2.heap.size) := Lib.hid (fun k hk => ⟨by have h9 := (own_rng owb2 k hk).1; (try simp at h9); omega, (own_rng owb2 k hk).2⟩)
  have OWB2 := Lib.hid owb2
  clear rd_B2 owb2
  go_wp2_with fail
  refine (sBelow_any A2 B2 n c2 m d2 ps ns  x _ HN.out HM.out (RDA2.out.below HLA2.out (by repeat (first | exact Below.refl _ _ | assumption | (refine bstep ?_ (below_drewN _ _)) | exact bstep (by assumption) (by assumption) | (refine bstep ?_ (below_alloc _ _)) | (refine bstep ?_ (by assumption)) | (refine Below.setCell ?_ (by simp <;> omega) _) | refine Below.drew ?_))) (RDB2.out.below HLB2.out (by repeat (first | exact Below.refl _ _ | assumption | (refine bstep ?_ (below_drewN _ _)) | exact bstep (by assumption) (by assumption) | (refine bstep ?_ (below_alloc _ _)) | (refine bstep ?_ (by assumption)) | (refine Below.setCell ?_ (by simp <;> omega) _) | refine Below.drew ?_))) (lt_below HLA2.out (by repeat (first | exact Below.refl _ _ | assumption | (refine bstep ?_ (below_drewN _ _)) | exact bstep (by assumption) (by assumption) | (refine bstep ?_ (below_alloc _ _)) | (refine bstep ?_ (by assumption)) | (refine Below.setCell ?_ (by simp <;> omega) _) | refine Below.drew ?_))) (lt_below HLB2.out (by repeat (first | exact Below.refl _ _ | assumption | (refine bstep ?_ (below_drewN _ _)) | exact bstep (by assumption) (by assumption) | (refine bstep ?_ (below_alloc _ _)) | (refine bstep ?_ (by assumption)) | (refine Below.setCell ?_ (by simp <;> omega) _) | refine Below.drew ?_))) ).mono ?_
  rintro e w3 ⟨v3, rfl, own3, hb3⟩
  have hs3 := hb3.size
  (try simp at hs3)
  have hy3_0 : w.heap.size < w3.heap.size := by omega
  have hk3_0 := fun o => hb3.cell (p := ⟨w.heap.size, o, none⟩) (by first | omega | (simp <;> omega))
  have hg3_0 := fun o => hb3.frozen (p := ⟨w.heap.size, o, none⟩) (by first | omega | (simp <;> omega))
  obtain ⟨G3, h3, rfl, rd_G3⟩ := own_rd own3
  have RDG3 := Lib.hid rd_G3
  have HLG3 := Lib.hid (own_blk own3)
  have RGG3 : Hid (∀ k, atB G3 k → w2.heap.size ≤ k ∧ k < w3.heap.size) := Lib.hid (fun k hk => ⟨by have h9 := (own_rng own3 k hk).1; (try simp at h9); omega, (own_rng own3 k hk).2⟩)
  have OWG3 := Lib.hid own3
  clear rd_G3 own3
  go_wp2_with fail
  refine (toTopo_any A B n c m d ps ns _ HN.out HM.out (HR.out.below (by repeat (first | exact Below.refl _ _ | assumption | (refine bstep ?_ (below_drewN _ _)) | exact bstep (by assumption) (by assumption) | (refine bstep ?_ (below_alloc _ _)) | (refine bstep ?_ (by assumption)) | (refine Below.setCell ?_ (by simp <;> omega) _) | refine Below.drew ?_ | (refine Below.trans ?_ (by assumption))))) (HQ.out.below (by repeat (first | exact Below.refl _ _ | assumption | (refine bstep ?_ (below_drewN _ _)) | exact bstep (by assumption) (by assumption) | (refine bstep ?_ (below_alloc _ _)) | (refine bstep ?_ (by assumption)) | (refine Below.setCell ?_ (by simp <;> omega) _) | refine Below.drew ?_ | (refine Below.trans ?_ (by assumption)))))).mono ?_
  rintro e w4 ⟨u4, v4, rfl, owa4, owb4, hb4⟩
  have hs4 := hb4.size
  (try simp at hs4)
  have hy4_0 : w.heap.size < w4.heap.size := by omega
  have hk4_0 := fun o => hb4.cell (p := ⟨w.heap.size, o, none⟩) (by first | omega | (simp <;> omega))
  have hg4_0 := fun o => hb4.frozen (p := ⟨w.heap.size, o, none⟩) (by first | omega | (simp <;> omega))
  obtain ⟨A4, c4, rfl, rd_A4⟩ := own_rd owa4
  have RDA4 := Lib.hid rd_A4
  have HLA4 := Lib.hid (own_blk owa4)
  have RGA4 : Hid (∀ k, atB A4 k → w3.heap.size ≤ k ∧ k < w4.heap.size) := Lib.hid (fun k hk => ⟨by have h9 := (own_rng owa4 k hk).1; (try simp at h9); omega, (own_rng owa4 k hk).2⟩)
  have OWA4 := Lib.hid owa4
  clear rd_A4 owa4
  obtain ⟨B4, d4, rfl, rd_B4⟩ := own_rd owb4
  have RDB4 := Lib.hid rd_B4
  have HLB4 := Lib.hid (own_blk owb4)
  have RGB4 : Hid (∀ k, atB B4 k → w3.heap.size ≤ k ∧ k < w4.heap.size) := Lib.hid (fun k hk => ⟨by have h9 := (own_rng owb4 k hk).1; (try simp at h9); omega, (own_rng owb4 k hk).2⟩)
  have OWB4 := Lib.hid owb4
  clear rd_B4 owb4
  go_wp2_with fail
  refine (Below_any A4 B4 n c4 m d4 ps ns  x _ HN.out HM.out (RDA4.out.below HLA4.out (by repeat (first | exact Below.refl _ _ | assumption | (refine bstep ?_ (below_drewN _ _)) | exact bstep (by assumption) (by assumption) | (refine bstep ?_ (below_alloc _ _)) | (refine bstep ?_ (by assumption)) | (refine Below.setCell ?_ (by simp <;> omega) _) | refine Below.drew ?_))) (RDB4.out.below HLB4.out (by repeat (first | exact Below.refl _ _ | assumption | (refine bstep ?_ (below_drewN _ _)) | exact bstep (by assumption) (by assumption) | (refine bstep ?_ (below_alloc _ _)) | (refine bstep ?_ (by assumption)) | (refine Below.setCell ?_ (by simp <;> omega) _) | refine Below.drew ?_))) (lt_below HLA4.out (by repeat (first | exact Below.refl _ _ | assumption | (refine bstep ?_ (below_drewN _ _)) | exact bstep (by assumption) (by assumption) | (refine bstep ?_ (below_alloc _ _)) | (refine bstep ?_ (by assumption)) | (refine Below.setCell ?_ (by simp <;> omega) _) | refine Below.drew ?_))) (lt_below HLB4.out (by repeat (first | exact Below.refl _ _ | assumption | (refine bstep ?_ (below_drewN _ _)) | exact bstep (by assumption) (by assumption) | (refine bstep ?_ (below_alloc _ _)) | (refine bstep ?_ (by assumption)) | (refine Below.setCell ?_ (by simp <;> omega) _) | refine Below.drew ?_))) ).mono ?_
  rintro e w5 ⟨v5, rfl, own5, hb5⟩
  have hs5 := hb5.size
  (try simp at hs5)
  have hy5_0 : w.heap.size < w5.heap.size := by omega
  have hk5_0 := fun o => hb5.cell (p := ⟨w.heap.size, o, none⟩) (by first | omega | (simp <;> omega))
  have hg5_0 := fun o => hb5.frozen (p := ⟨w.heap.size, o, none⟩) (by first | omega | (simp <;> omega))
  have hy5_1 : w4.heap.size < w5.heap.size := by omega
  have hk5_1 := fun o => hb5.cell (p := ⟨w4.heap.size, o, none⟩) (by first | omega | (simp <;> omega))
  have hg5_1 := fun o => hb5.frozen (p := ⟨w4.heap.size, o, none⟩) (by first | omega | (simp <;> omega))
  obtain ⟨G5, h5, rfl, rd_G5⟩ := own_rd own5
  have RDG5 := Lib.hid rd_G5
  have HLG5 := Lib.hid (own_blk own5)
  have RGG5 : Hid (∀ k, atB G5 k → w4.heap.size + 1 ≤ k ∧ k < w5.heap.size) := Lib.hid (fun k hk => ⟨by have h9 := (own_rng own5 k hk).1; (try simp at h9); omega, (own_rng own5 k hk).2⟩)
  have OWG5 := Lib.hid own5
  clear rd_G5 own5
  go_wp2_with fail
  refine (eqIntS_any G5 G3 _ h5 h3 (belowV ps ns x) _ HLE.out (RDG5.out.below HLG5.out (by repeat (first | exact Below.refl _ _ | assumption | (refine bstep ?_ (below_drewN _ _)) | exact bstep (by assumption) (by assumption) | (refine bstep ?_ (below_alloc _ _)) | (refine bstep ?_ (by assumption)) | (refine Below.setCell ?_ (by simp <;> omega) _) | refine Below.drew ?_))) (RDG3.out.below HLG3.out (by repeat (first | exact Below.refl _ _ | assumption | (refine bstep ?_ (below_drewN _ _)) | exact bstep (by assumption) (by assumption) | (refine bstep ?_ (below_alloc _ _)) | (refine bstep ?_ (by assumption)) | (refine Below.setCell ?_ (by simp <;> omega) _) | refine Below.drew ?_)))).mono ?_
  rintro e w6 ⟨rfl, k6, hw6⟩
  have hb6 := below_eqN hw6
  clear hw6
  have hs6 := hb6.size
  (try simp at hs6)
  have hy6_0 : w.heap.size < w6.heap.size := by omega
  have hk6_0 := fun o => hb6.cell (p := ⟨w.heap.size, o, none⟩) (by first | omega | (simp <;> omega))
  have hg6_0 := fun o => hb6.frozen (p := ⟨w.heap.size, o, none⟩) (by first | omega | (simp <;> omega))
  have hy6_1 : w4.heap.size < w6.heap.size := by omega
  have hk6_1 := fun o => hb6.cell (p := ⟨w4.heap.size, o, none⟩) (by first | omega | (simp <;> omega))
  have hg6_1 := fun o => hb6.frozen (p := ⟨w4.heap.size, o, none⟩) (by first | omega | (simp <;> omega))
  go_wp2_with fail
  go_region_held3 (fun w' => w'.cell? ⟨w.heap.size, 0, none⟩ = some (.slice A n c) ∧ w'.cell? ⟨w.heap.size, 1, none⟩ = some (.slice B m d) ∧ w'.cell? ⟨w4.heap.size, 0, none⟩ = some (.slice A4 n c4) ∧ w'.cell? ⟨w4.heap.size, 1, none⟩ = some (.slice B4 m d4)) (simp [go_sem, *, World.cell?_alloc_some, World.cell?_setCell_far, Nat.lt_add_right, Nat.ne_of_gt]) (first | (go_at_call 69; refine (toTopo_any A B n c m d ps ns _ HN.out HM.out (HR.out.below (by repeat (first | exact Below.refl _ _ | assumption | (refine bstep ?_ (below_drewN _ _)) | exact bstep (by assumption) (by assumption) | (refine bstep ?_ (below_alloc _ _)) | (refine bstep ?_ (by assumption)) | (refine Below.setCell ?_ (by simp <;> omega) _) | refine Below.drew ?_ | (refine Below.trans ?_ (by assumption))))) (HQ.out.below (by repeat (first | exact Below.refl _ _ | assumption | (refine bstep ?_ (below_drewN _ _)) | exact bstep (by assumption) (by assumption) | (refine bstep ?_ (below_alloc _ _)) | (refine bstep ?_ (by assumption)) | (refine Below.setCell ?_ (by simp <;> omega) _) | refine Below.drew ?_ | (refine Below.trans ?_ (by assumption)))))).mono ?_; rintro e w7 ⟨u7, v7, rfl, owa7, owb7, hb7⟩; have hs7 := hb7.size; (try simp at hs7); have hy7_0 : w.heap.size < w7.heap.size := (by omega); have hk7_0 := fun o => hb7.cell (p := ⟨w.heap.size, o, none⟩) (by first | omega | (simp <;> omega)); have hg7_0 := fun o => hb7.frozen (p := ⟨w.heap.size, o, none⟩) (by first | omega | (simp <;> omega)); have hy7_1 : w4.heap.size < w7.heap.size := (by omega); have hk7_1 := fun o => hb7.cell (p := ⟨w4.heap.size, o, none⟩) (by first | omega | (simp <;> omega)); have hg7_1 := fun o => hb7.frozen (p := ⟨w4.heap.size, o, none⟩) (by first | omega | (simp <;> omega)); obtain ⟨A7, c7, rfl, rd_A7⟩ := own_rd owa7; have RDA7 := Lib.hid rd_A7; have HLA7 := Lib.hid (own_blk owa7); have OWA7 := Lib.hid owa7; clear rd_A7 owa7; obtain ⟨B7, d7, rfl, rd_B7⟩ := own_rd owb7; have RDB7 := Lib.hid rd_B7; have HLB7 := Lib.hid (own_blk owb7); have OWB7 := Lib.hid owb7; clear rd_B7 owb7) | (go_at_call 71; refine (eqTopo_any A4 A7 B4 B7 n c4 c7 m d4 d7 ps ns _ (Nat.le_succ_of_le HN.out) (Nat.le_succ_of_le HM.out) (RDA4.out.below HLA4.out (by repeat (first | exact Below.refl _ _ | assumption | (refine bstep ?_ (below_drewN _ _)) | exact bstep (by assumption) (by assumption) | (refine bstep ?_ (below_alloc _ _)) | (refine bstep ?_ (by assumption)) | (refine Below.setCell ?_ (by simp <;> omega) _) | refine Below.drew ?_))) RDA7.out (RDB4.out.below HLB4.out (by repeat (first | exact Below.refl _ _ | assumption | (refine bstep ?_ (below_drewN _ _)) | exact bstep (by assumption) (by assumption) | (refine bstep ?_ (below_alloc _ _)) | (refine bstep ?_ (by assumption)) | (refine Below.setCell ?_ (by simp <;> omega) _) | refine Below.drew ?_))) RDB7.out (lt_below HLA4.out (by repeat (first | exact Below.refl _ _ | assumption | (refine bstep ?_ (below_drewN _ _)) | exact bstep (by assumption) (by assumption) | (refine bstep ?_ (below_alloc _ _)) | (refine bstep ?_ (by assumption)) | (refine Below.setCell ?_ (by simp <;> omega) _) | refine Below.drew ?_))) HLA7.out (lt_below HLB4.out (by repeat (first | exact Below.refl _ _ | assumption | (refine bstep ?_ (below_drewN _ _)) | exact bstep (by assumption) (by assumption) | (refine bstep ?_ (below_alloc _ _)) | (refine bstep ?_ (by assumption)) | (refine Below.setCell ?_ (by simp <;> omega) _) | refine Below.drew ?_))) HLB7.out).mono ?_; rintro e w8 ⟨rfl, hb8⟩; have hs8 := hb8.size; (try simp at hs8); have hy8_0 : w.heap.size < w8.heap.size := (by omega); have hk8_0 := fun o => hb8.cell (p := ⟨w.heap.size, o, none⟩) (by first | omega | (simp <;> omega)); have hg8_0 := fun o => hb8.frozen (p := ⟨w.heap.size, o, none⟩) (by first | omega | (simp <;> omega)); have hy8_1 : w4.heap.size < w8.heap.size := (by omega); have hk8_1 := fun o => hb8.cell (p := ⟨w4.heap.size, o, none⟩) (by first | omega | (simp <;> omega)); have hg8_1 := fun o => hb8.frozen (p := ⟨w4.heap.size, o, none⟩) (by first | omega | (simp <;> omega))))
  have HNE : Hid (∀ k, atB A4 k → ¬ atB B4 k) := Lib.hid (own_apart OWA4.out OWB4.out (by decide))
  go_wp2_with fail
  refine (markTopo_any A4 B4 n c4 m d4 _ _ _ (Nat.le_succ_of_le HN.out) (Nat.le_succ_of_le HM.out) ((own_wr2 OWA4.out).below (by repeat (first | exact Below.refl _ _ | assumption | (refine bstep ?_ (below_drewN _ _)) | exact bstep (by assumption) (by assumption) | (refine bstep ?_ (below_alloc _ _)) | (refine bstep ?_ (by assumption)) | (refine Below.setCell ?_ (by simp <;> omega) _) | refine Below.drew ?_))) ((own_wr2 OWB4.out).below (by repeat (first | exact Below.refl _ _ | assumption | (refine bstep ?_ (below_drewN _ _)) | exact bstep (by assumption) (by assumption) | (refine bstep ?_ (below_alloc _ _)) | (refine bstep ?_ (by assumption)) | (refine Below.setCell ?_ (by simp <;> omega) _) | refine Below.drew ?_))) HNE.out (fun k hk => by have q9 := RGA4.out k hk; omega)).mono ?_
  rintro e w9 ⟨rfl, fr9⟩
  have hs9 := fr9.size
  (try simp at hs9)
  have hB9 : Below w.heap.size _ w9 := fr9.below (fun k hk => by rcases hk with h8 | h8 <;> first | (have q9 := RGA4.out _ h8; omega) | (have q9 := RGB4.out _ h8; omega)) (by first | omega | (simp <;> omega))
  have hy9_0 : w.heap.size < w9.heap.size := by omega
  have hk9_0 := fun o => fr9.cell (b := w.heap.size) (by first | omega | (simp <;> omega)) (fun h => by rcases h with h8 | h8 <;> first | (have q9 := RGA4.out _ h8; omega) | (have q9 := RGB4.out _ h8; omega)) o
  have hg9_0 := fun o => fr9.frozen (b := w.heap.size) (by first | omega | (simp <;> omega)) (fun h => by rcases h with h8 | h8 <;> first | (have q9 := RGA4.out _ h8; omega) | (have q9 := RGB4.out _ h8; omega)) o
  have hy9_1 : w4.heap.size < w9.heap.size := by omega
  have hk9_1 := fun o => fr9.cell (b := w4.heap.size) (by first | omega | (simp <;> omega)) (fun h => by rcases h with h8 | h8 <;> first | (have q9 := RGA4.out _ h8; omega) | (have q9 := RGB4.out _ h8; omega)) o
  have hg9_1 := fun o => fr9.frozen (b := w4.heap.size) (by first | omega | (simp <;> omega)) (fun h => by rcases h with h8 | h8 <;> first | (have q9 := RGA4.out _ h8; omega) | (have q9 := RGB4.out _ h8; omega)) o
  have RDG3_9 := Lib.hid (Rd.fr (RDG3.out.below HLG3.out (by repeat (first | exact Below.refl _ _ | assumption | (refine bstep ?_ (below_drewN _ _)) | exact bstep (by assumption) (by assumption) | (refine bstep ?_ (below_alloc _ _)) | (refine bstep ?_ (by assumption)) | (refine Below.setCell ?_ (by simp <;> omega) _) | refine Below.drew ?_))) (lt_below HLG3.out (by repeat (first | exact Below.refl _ _ | assumption | (refine bstep ?_ (below_drewN _ _)) | exact bstep (by assumption) (by assumption) | (refine bstep ?_ (below_alloc _ _)) | (refine bstep ?_ (by assumption)) | (refine Below.setCell ?_ (by simp <;> omega) _) | refine Below.drew ?_))) fr9 (fun k h1 h2 => by have q1 := RGG3.out k h1; rcases h2 with h8 | h8 <;> first | (have q9 := RGA4.out _ h8; omega) | (have q9 := RGB4.out _ h8; omega)))
  have HLG3_9 := Lib.hid (lt_fr (lt_below HLG3.out (by repeat (first | exact Below.refl _ _ | assumption | (refine bstep ?_ (below_drewN _ _)) | exact bstep (by assumption) (by assumption) | (refine bstep ?_ (below_alloc _ _)) | (refine bstep ?_ (by assumption)) | (refine Below.setCell ?_ (by simp <;> omega) _) | refine Below.drew ?_))) fr9)
  have WRG3_9 := Lib.hid (Wr.fr ((own_wr2 OWG3.out).below (by repeat (first | exact Below.refl _ _ | assumption | (refine bstep ?_ (below_drewN _ _)) | exact bstep (by assumption) (by assumption) | (refine bstep ?_ (below_alloc _ _)) | (refine bstep ?_ (by assumption)) | (refine Below.setCell ?_ (by simp <;> omega) _) | refine Below.drew ?_))) fr9 (fun k h1 h2 => by have q1 := RGG3.out k h1; rcases h2 with h8 | h8 <;> first | (have q9 := RGA4.out _ h8; omega) | (have q9 := RGB4.out _ h8; omega)))
  have RDG5_9 := Lib.hid (Rd.fr (RDG5.out.below HLG5.out (by repeat (first | exact Below.refl _ _ | assumption | (refine bstep ?_ (below_drewN _ _)) | exact bstep (by assumption) (by assumption) | (refine bstep ?_ (below_alloc _ _)) | (refine bstep ?_ (by assumption)) | (refine Below.setCell ?_ (by simp <;> omega) _) | refine Below.drew ?_))) (lt_below HLG5.out (by repeat (first | exact Below.refl _ _ | assumption | (refine bstep ?_ (below_drewN _ _)) | exact bstep (by assumption) (by assumption) | (refine bstep ?_ (below_alloc _ _)) | (refine bstep ?_ (by assumption)) | (refine Below.setCell ?_ (by simp <;> omega) _) | refine Below.drew ?_))) fr9 (fun k h1 h2 => by have q1 := RGG5.out k h1; rcases h2 with h8 | h8 <;> first | (have q9 := RGA4.out _ h8; omega) | (have q9 := RGB4.out _ h8; omega)))
  have HLG5_9 := Lib.hid (lt_fr (lt_below HLG5.out (by repeat (first | exact Below.refl _ _ | assumption | (refine bstep ?_ (below_drewN _ _)) | exact bstep (by assumption) (by assumption) | (refine bstep ?_ (below_alloc _ _)) | (refine bstep ?_ (by assumption)) | (refine Below.setCell ?_ (by simp <;> omega) _) | refine Below.drew ?_))) fr9)
  have WRG5_9 := Lib.hid (Wr.fr ((own_wr2 OWG5.out).below (by repeat (first | exact Below.refl _ _ | assumption | (refine bstep ?_ (below_drewN _ _)) | exact bstep (by assumption) (by assumption) | (refine bstep ?_ (below_alloc _ _)) | (refine bstep ?_ (by assumption)) | (refine Below.setCell ?_ (by simp <;> omega) _) | refine Below.drew ?_))) fr9 (fun k h1 h2 => by have q1 := RGG5.out k h1; rcases h2 with h8 | h8 <;> first | (have q9 := RGA4.out _ h8; omega) | (have q9 := RGB4.out _ h8; omega)))
  go_wp2_with fail
  refine (eqIntS_any G5 G3 _ h5 h3 (belowV ps ns x) _ HLE.out (RDG5_9.out.below HLG5_9.out (by repeat (first | exact Below.refl _ _ | assumption | (refine bstep ?_ (below_drewN _ _)) | exact bstep (by assumption) (by assumption) | (refine bstep ?_ (below_alloc _ _)) | (refine bstep ?_ (by assumption)) | (refine Below.setCell ?_ (by simp <;> omega) _) | refine Below.drew ?_))) (RDG3_9.out.below HLG3_9.out (by repeat (first | exact Below.refl _ _ | assumption | (refine bstep ?_ (below_drewN _ _)) | exact bstep (by assumption) (by assumption) | (refine bstep ?_ (below_alloc _ _)) | (refine bstep ?_ (by assumption)) | (refine Below.setCell ?_ (by simp <;> omega) _) | refine Below.drew ?_)))).mono ?_
  rintro e w10 ⟨rfl, k10, hw10⟩
  have hb10 := below_eqN hw10
  clear hw10
  have hs10 := hb10.size
  (try simp at hs10)
  have hy10_0 : w.heap.size < w10.heap.size := by omega
  have hk10_0 := fun o => hb10.cell (p := ⟨w.heap.size, o, none⟩) (by first | omega | (simp <;> omega))
  have hg10_0 := fun o => hb10.frozen (p := ⟨w.heap.size, o, none⟩) (by first | omega | (simp <;> omega))
  have hy10_1 : w4.heap.size < w10.heap.size := by omega
  have hk10_1 := fun o => hb10.cell (p := ⟨w4.heap.size, o, none⟩) (by first | omega | (simp <;> omega))
  have hg10_1 := fun o => hb10.frozen (p := ⟨w4.heap.size, o, none⟩) (by first | omega | (simp <;> omega))
  go_wp2_with fail
  refine (markIntF G5 _ h5 _ 1 _ HLE.out (by omega) (by omega) ((WRG5_9.out).below (by repeat (first | exact Below.refl _ _ | assumption | (refine bstep ?_ (below_drewN _ _)) | exact bstep (by assumption) (by assumption) | (refine bstep ?_ (below_alloc _ _)) | (refine bstep ?_ (by assumption)) | (refine Below.setCell ?_ (by simp <;> omega) _) | refine Below.drew ?_)))).mono ?_
  rintro e w11 ⟨rfl, rd11, fr11⟩
  have hs11 := fr11.size
  (try simp at hs11)
  have hB11 : Below w.heap.size _ w11 := fr11.below (fun k hk => by have q9 := RGG5.out _ hk; omega) (by first | omega | (simp <;> omega))
  have hy11_0 : w.heap.size < w11.heap.size := by omega
  have hk11_0 := fun o => fr11.cell (b := w.heap.size) (by first | omega | (simp <;> omega)) (fun h => by have q9 := RGG5.out _ h; omega) o
  have hg11_0 := fun o => fr11.frozen (b := w.heap.size) (by first | omega | (simp <;> omega)) (fun h => by have q9 := RGG5.out _ h; omega) o
  have hy11_1 : w4.heap.size < w11.heap.size := by omega
  have hk11_1 := fun o => fr11.cell (b := w4.heap.size) (by first | omega | (simp <;> omega)) (fun h => by have q9 := RGG5.out _ h; omega) o
  have hg11_1 := fun o => fr11.frozen (b := w4.heap.size) (by first | omega | (simp <;> omega)) (fun h => by have q9 := RGG5.out _ h; omega) o
  have RDG3_11 := Lib.hid (Rd.fr (RDG3_9.out.below HLG3_9.out (by repeat (first | exact Below.refl _ _ | assumption | (refine bstep ?_ (below_drewN _ _)) | exact bstep (by assumption) (by assumption) | (refine bstep ?_ (below_alloc _ _)) | (refine bstep ?_ (by assumption)) | (refine Below.setCell ?_ (by simp <;> omega) _) | refine Below.drew ?_))) (lt_below HLG3_9.out (by repeat (first | exact Below.refl _ _ | assumption | (refine bstep ?_ (below_drewN _ _)) | exact bstep (by assumption) (by assumption) | (refine bstep ?_ (below_alloc _ _)) | (refine bstep ?_ (by assumption)) | (refine Below.setCell ?_ (by simp <;> omega) _) | refine Below.drew ?_))) fr11 (fun k h1 h2 => by have q1 := RGG3.out k h1; have q9 := RGG5.out _ h2; omega))
  have HLG3_11 := Lib.hid (lt_fr (lt_below HLG3_9.out (by repeat (first | exact Below.refl _ _ | assumption | (refine bstep ?_ (below_drewN _ _)) | exact bstep (by assumption) (by assumption) | (refine bstep ?_ (below_alloc _ _)) | (refine bstep ?_ (by assumption)) | (refine Below.setCell ?_ (by simp <;> omega) _) | refine Below.drew ?_))) fr11)
  have WRG3_11 := Lib.hid (Wr.fr ((WRG3_9.out).below (by repeat (first | exact Below.refl _ _ | assumption | (refine bstep ?_ (below_drewN _ _)) | exact bstep (by assumption) (by assumption) | (refine bstep ?_ (below_alloc _ _)) | (refine bstep ?_ (by assumption)) | (refine Below.setCell ?_ (by simp <;> omega) _) | refine Below.drew ?_))) fr11 (fun k h1 h2 => by have q1 := RGG3.out k h1; have q9 := RGG5.out _ h2; omega))
  have RMG5 := Lib.hid rd11
  have HLG5_11 := Lib.hid (lt_fr (lt_below HLG5_9.out (by repeat (first | exact Below.refl _ _ | assumption | (refine bstep ?_ (below_drewN _ _)) | exact bstep (by assumption) (by assumption) | (refine bstep ?_ (below_alloc _ _)) | (refine bstep ?_ (by assumption)) | (refine Below.setCell ?_ (by simp <;> omega) _) | refine Below.drew ?_))) fr11)
  clear rd11
  go_wp2_with fail
  refine (heldInt_any G5 _ h5 1 _ HLE.out (by omega) (by omega) (RMG5.out.below HLG5_11.out (by repeat (first | exact Below.refl _ _ | assumption | (refine bstep ?_ (below_drewN _ _)) | exact bstep (by assumption) (by assumption) | (refine bstep ?_ (below_alloc _ _)) | (refine bstep ?_ (by assumption)) | (refine Below.setCell ?_ (by simp <;> omega) _) | refine Below.drew ?_)))).mono ?_
  rintro e w12 ⟨rfl, hw12⟩
  have hb12 := below_same hw12
  clear hw12
  have hs12 := hb12.size
  (try simp at hs12)
  have hy12_0 : w.heap.size < w12.heap.size := by omega
  have hk12_0 := fun o => hb12.cell (p := ⟨w.heap.size, o, none⟩) (by first | omega | (simp <;> omega))
  have hg12_0 := fun o => hb12.frozen (p := ⟨w.heap.size, o, none⟩) (by first | omega | (simp <;> omega))
  have hy12_1 : w4.heap.size < w12.heap.size := by omega
  have hk12_1 := fun o => hb12.cell (p := ⟨w4.heap.size, o, none⟩) (by first | omega | (simp <;> omega))
  have hg12_1 := fun o => hb12.frozen (p := ⟨w4.heap.size, o, none⟩) (by first | omega | (simp <;> omega))
  go_wp2_with fail
  refine (toTopo_any A B n c m d ps ns _ HN.out HM.out (HR.out.below (by repeat (first | exact Below.refl _ _ | assumption | (refine bstep ?_ (below_drewN _ _)) | exact bstep (by assumption) (by assumption) | (refine bstep ?_ (below_alloc _ _)) | (refine bstep ?_ (by assumption)) | (refine Below.setCell ?_ (by simp <;> omega) _) | refine Below.drew ?_ | (refine Below.trans ?_ (by assumption))))) (HQ.out.below (by repeat (first | exact Below.refl _ _ | assumption | (refine bstep ?_ (below_drewN _ _)) | exact bstep (by assumption) (by assumption) | (refine bstep ?_ (below_alloc _ _)) | (refine bstep ?_ (by assumption)) | (refine Below.setCell ?_ (by simp <;> omega) _) | refine Below.drew ?_ | (refine Below.trans ?_ (by assumption)))))).mono ?_
  rintro e w13 ⟨u13, v13, rfl, owa13, owb13, hb13⟩
  have hs13 := hb13.size
  (try simp at hs13)
  have hy13_0 : w.heap.size < w13.heap.size := by omega
  have hk13_0 := fun o => hb13.cell (p := ⟨w.heap.size, o, none⟩) (by first | omega | (simp <;> omega))
  have hg13_0 := fun o => hb13.frozen (p := ⟨w.heap.size, o, none⟩) (by first | omega | (simp <;> omega))
  have hy13_1 : w4.heap.size < w13.heap.size := by omega
  have hk13_1 := fun o => hb13.cell (p := ⟨w4.heap.size, o, none⟩) (by first | omega | (simp <;> omega))
  have hg13_1 := fun o => hb13.frozen (p := ⟨w4.heap.size, o, none⟩) (by first | omega | (simp <;> omega))
  obtain ⟨A13, c13, rfl, rd_A13⟩ := own_rd owa13
  have RDA13 := Lib.hid rd_A13
  have HLA13 := Lib.hid (own_blk owa13)
  have RGA13 : Hid (∀ k, atB A13 k → w12.heap.size ≤ k ∧ k < w13.heap.size) := Lib.hid (fun k hk => ⟨by have h9 := (own_rng owa13 k hk).1; (try simp at h9); omega, (own_rng owa13 k hk).2⟩)
  have OWA13 := Lib.hid owa13
  clear rd_A13 owa13
  obtain ⟨B13, d13, rfl, rd_B13⟩ := own_rd owb13
  have RDB13 := Lib.hid rd_B13
  have HLB13 := Lib.hid (own_blk owb13)
  have RGB13 : Hid (∀ k, atB B13 k → w12.heap.size ≤ k ∧ k < w13.heap.size) := Lib.hid (fun k hk => ⟨by have h9 := (own_rng owb13 k hk).1; (try simp at h9); omega, (own_rng owb13 k hk).2⟩)
  have OWB13 := Lib.hid owb13
  clear rd_B13 owb13
  go_wp2_with fail
  refine (Below_any A13 B13 n c13 m d13 ps ns  x _ HN.out HM.out (RDA13.out.below HLA13.out (by repeat (first | exact Below.refl _ _ | assumption | (refine bstep ?_ (below_drewN _ _)) | exact bstep (by assumption) (by assumption) | (refine bstep ?_ (below_alloc _ _)) | (refine bstep ?_ (by assumption)) | (refine Below.setCell ?_ (by simp <;> omega) _) | refine Below.drew ?_))) (RDB13.out.below HLB13.out (by repeat (first | exact Below.refl _ _ | assumption | (refine bstep ?_ (below_drewN _ _)) | exact bstep (by assumption) (by assumption) | (refine bstep ?_ (below_alloc _ _)) | (refine bstep ?_ (by assumption)) | (refine Below.setCell ?_ (by simp <;> omega) _) | refine Below.drew ?_))) (lt_below HLA13.out (by repeat (first | exact Below.refl _ _ | assumption | (refine bstep ?_ (below_drewN _ _)) | exact bstep (by assumption) (by assumption) | (refine bstep ?_ (below_alloc _ _)) | (refine bstep ?_ (by assumption)) | (refine Below.setCell ?_ (by simp <;> omega) _) | refine Below.drew ?_))) (lt_below HLB13.out (by repeat (first | exact Below.refl _ _ | assumption | (refine bstep ?_ (below_drewN _ _)) | exact bstep (by assumption) (by assumption) | (refine bstep ?_ (below_alloc _ _)) | (refine bstep ?_ (by assumption)) | (refine Below.setCell ?_ (by simp <;> omega) _) | refine Below.drew ?_))) ).mono ?_
  rintro e w14 ⟨v14, rfl, own14, hb14⟩
  have hs14 := hb14.size
  (try simp at hs14)
  have hy14_0 : w.heap.size < w14.heap.size := by omega
  have hk14_0 := fun o => hb14.cell (p := ⟨w.heap.size, o, none⟩) (by first | omega | (simp <;> omega))
  have hg14_0 := fun o => hb14.frozen (p := ⟨w.heap.size, o, none⟩) (by first | omega | (simp <;> omega))
  have hy14_1 : w4.heap.size < w14.heap.size := by omega
  have hk14_1 := fun o => hb14.cell (p := ⟨w4.heap.size, o, none⟩) (by first | omega | (simp <;> omega))
  have hg14_1 := fun o => hb14.frozen (p := ⟨w4.heap.size, o, none⟩) (by first | omega | (simp <;> omega))
  obtain ⟨G14, h14, rfl, rd_G14⟩ := own_rd own14
  have RDG14 := Lib.hid rd_G14
  have HLG14 := Lib.hid (own_blk own14)
  have RGG14 : Hid (∀ k, atB G14 k → w13.heap.size ≤ k ∧ k < w14.heap.size) := Lib.hid (fun k hk => ⟨by have h9 := (own_rng own14 k hk).1; (try simp at h9); omega, (own_rng own14 k hk).2⟩)
  have OWG14 := Lib.hid own14
  clear rd_G14 own14
  go_wp2_with fail
  refine (eqIntS_any G14 G3 _ h14 h3 (belowV ps ns x) _ HLE.out (RDG14.out.below HLG14.out (by repeat (first | exact Below.refl _ _ | assumption | (refine bstep ?_ (below_drewN _ _)) | exact bstep (by assumption) (by assumption) | (refine bstep ?_ (below_alloc _ _)) | (refine bstep ?_ (by assumption)) | (refine Below.setCell ?_ (by simp <;> omega) _) | refine Below.drew ?_))) (RDG3_11.out.below HLG3_11.out (by repeat (first | exact Below.refl _ _ | assumption | (refine bstep ?_ (below_drewN _ _)) | exact bstep (by assumption) (by assumption) | (refine bstep ?_ (below_alloc _ _)) | (refine bstep ?_ (by assumption)) | (refine Below.setCell ?_ (by simp <;> omega) _) | refine Below.drew ?_)))).mono ?_
  rintro e w15 ⟨rfl, k15, hw15⟩
  have hb15 := below_eqN hw15
  clear hw15
  have hs15 := hb15.size
  (try simp at hs15)
  have hy15_0 : w.heap.size < w15.heap.size := by omega
  have hk15_0 := fun o => hb15.cell (p := ⟨w.heap.size, o, none⟩) (by first | omega | (simp <;> omega))
  have hg15_0 := fun o => hb15.frozen (p := ⟨w.heap.size, o, none⟩) (by first | omega | (simp <;> omega))
  have hy15_1 : w4.heap.size < w15.heap.size := by omega
  have hk15_1 := fun o => hb15.cell (p := ⟨w4.heap.size, o, none⟩) (by first | omega | (simp <;> omega))
  have hg15_1 := fun o => hb15.frozen (p := ⟨w4.heap.size, o, none⟩) (by first | omega | (simp <;> omega))
  go_wp2_with fail
  refine (heldInt_any G5 _ h5 1 _ HLE.out (by omega) (by omega) (RMG5.out.below HLG5_11.out (by repeat (first | exact Below.refl _ _ | assumption | (refine bstep ?_ (below_drewN _ _)) | exact bstep (by assumption) (by assumption) | (refine bstep ?_ (below_alloc _ _)) | (refine bstep ?_ (by assumption)) | (refine Below.setCell ?_ (by simp <;> omega) _) | refine Below.drew ?_)))).mono ?_
  rintro e w16 ⟨rfl, hw16⟩
  have hb16 := below_same hw16
  clear hw16
  have hs16 := hb16.size
  (try simp at hs16)
  have hy16_0 : w.heap.size < w16.heap.size := by omega
  have hk16_0 := fun o => hb16.cell (p := ⟨w.heap.size, o, none⟩) (by first | omega | (simp <;> omega))
  have hg16_0 := fun o => hb16.frozen (p := ⟨w.heap.size, o, none⟩) (by first | omega | (simp <;> omega))
  have hy16_1 : w4.heap.size < w16.heap.size := by omega
  have hk16_1 := fun o => hb16.cell (p := ⟨w4.heap.size, o, none⟩) (by first | omega | (simp <;> omega))
  have hg16_1 := fun o => hb16.frozen (p := ⟨w4.heap.size, o, none⟩) (by first | omega | (simp <;> omega))
  go_wp2
  go_ret
  exact ⟨rfl, (by repeat (first | exact Below.refl _ _ | assumption | (refine bstep ?_ (below_drewN _ _)) | exact bstep (by assumption) (by assumption) | (refine bstep ?_ (below_alloc _ _)) | (refine bstep ?_ (by assumption)) | (refine Below.setCell ?_ (by simp <;> omega) _) | refine Below.drew ?_ | (refine Below.trans ?_ (by assumption))))⟩
theorem law_below (A B : Option Addr) (n c m d : Nat) (ps : List Int) (ns : List Q) (x : Int) (w : World) (hn : n ≤ maxLen) (hm : m ≤ maxLen) (hr : RdI w A n ps) (hq : RdE w B m ns) :
    Calls Try.prog 19 #[.agg #[.slice A n c, .slice B m d], .int .i64 x] w fun e w' => e = .returned (.bool true) ∧ Below w.heap.size w w' := by
  rcases szT_cases n m with h | ⟨h, h1, h2⟩
  · exact law_below_big A B n c m d x w hn hm h
  · exact law_below_small A B n c m d ps ns x w h h1 h2 hr hq
end Go.Proofs.Ytjnfdcojccgfoaa
