import Derived.Test.YtjnfdcojccgfoaaTg
import Derived.Test.YtjnfdcojccgfoaaMb
import Derived.Test.YtjnfdcojccgfoaaTo
namespace Go.Proofs.Ytjnfdcojccgfoaa
set_option linter.unusedSimpArgs false
set_option linter.unusedVariables false
set_option linter.unnecessarySimpa false
open Go.RowKit

set_option maxHeartbeats 4000000 in
theorem law_lowest_long (A B : Option Addr) (n c m d : Nat) (D : Option Addr) (k e : Nat)  (w : World) (hk : ¬ (k : Int) ≤ 1048576) (hk9 : k ≤ maxLen) :
    Calls Try.prog 18 #[.agg #[.slice A n c, .slice B m d], .slice D k e] w fun e w' => e = .returned (.bool true) ∧ Below w.heap.size w w' := by
  have hk' : 1048576 < (k : Int) := by omega
  unfold maxLen at hk9
  clear hk
  go_enter Try.func18, Try.ntmps18
  go_wp2
  go_ret
  exact ⟨rfl, (by repeat (first | exact Below.refl _ _ | assumption | (refine bstep ?_ (below_drewN _ _)) | exact bstep (by assumption) (by assumption) | (refine bstep ?_ (below_alloc _ _)) | (refine bstep ?_ (by assumption)) | (refine Below.setCell ?_ (by simp <;> omega) _) | refine Below.drew ?_))⟩

set_option maxHeartbeats 4000000 in
theorem law_lowest_big (A B : Option Addr) (n c m d : Nat) (D : Option Addr) (k e : Nat)  (w : World) (hk : (k : Int) ≤ 1048576) (hn : n ≤ maxLen) (hm : m ≤ maxLen) (hz : szT n m = -1) :
    Calls Try.prog 18 #[.agg #[.slice A n c, .slice B m d], .slice D k e] w fun e w' => e = .returned (.bool true) ∧ Below w.heap.size w w' := by
  have HN := Lib.hid hn
  have HM := Lib.hid hm
  have HZ := Lib.hid hz
  clear hn hm hz
  go_enter Try.func18, Try.ntmps18
  go_wp2_with fail
  refine (szTopo_any A B n c m d _ HN.out HM.out).mono ?_
  rintro e w1 ⟨rfl, hb1⟩
  rw [HZ.out]
  go_wp2
  go_ret
  exact ⟨rfl, (by repeat (first | exact Below.refl _ _ | assumption | (refine bstep ?_ (below_drewN _ _)) | exact bstep (by assumption) (by assumption) | (refine bstep ?_ (below_alloc _ _)) | (refine bstep ?_ (by assumption)) | (refine Below.setCell ?_ (by simp <;> omega) _) | refine Below.drew ?_))⟩

set_option maxHeartbeats 8000000 in
theorem law_lowest_small (A B : Option Addr) (n c m d : Nat) (ps : List Int) (ns : List Q) (D : Option Addr) (k e : Nat) (nd : List Int)  (w : World) (hk : (k : Int) ≤ 1048576) (hz : 0 ≤ szT n m) (hn : n ≤ 1048576) (hm : m ≤ 1048576) (hr : RdI w A n ps) (hq : RdE w B m ns) (hd : RdI w D k nd) :
    Calls Try.prog 18 #[.agg #[.slice A n c, .slice B m d], .slice D k e] w fun e w' => e = .returned (.bool true) ∧ Below w.heap.size w w' := by
  have hz' : ¬ szT n m < 0 := by omega
  have HN := Lib.hid hn
  have HM := Lib.hid hm
  have HR := Lib.hid hr
  have HQ := Lib.hid hq
  clear hn hm hr hq
  have HK : Hid (k ≤ 1048576) := Lib.hid (by omega)
  have HD := Lib.hid hd
  clear hd
  go_enter Try.func18, Try.ntmps18
  go_wp2_with fail
  refine (szTopo_any A B n c m d _ (Nat.le_trans HN.out (by decide)) (Nat.le_trans HM.out (by decide))).mono ?_
  rintro e w1 ⟨rfl, hb1⟩
  have hs1 := hb1.size
  (try simp at hs1)
  have hy1_0 : w.heap.size < w1.heap.size := by omega
  have hk1_0 := fun o => hb1.cell (p := ⟨w.heap.size, o, none⟩) (by first | omega | (simp <;> omega))
  have hg1_0 := fun o => hb1.frozen (p := ⟨w.heap.size, o, none⟩) (by first | omega | (simp <;> omega))
  go_wp2_with fail
  refine (toTopo_any A B n c m d ps ns _ HN.out HM.out (HR.out.below (by repeat (first | exact Below.refl _ _ | assumption | (refine bstep ?_ (below_drewN _ _)) | exact bstep (by assumption) (by assumption) | (refine bstep ?_ (below_alloc _ _)) | (refine bstep ?_ (by assumption)) | (refine Below.setCell ?_ (by simp <;> omega) _) | refine Below.drew ?_ | (refine Below.trans ?_ (by assumption))))) (HQ.out.below (by repeat (first | exact Below.refl _ _ | assumption | (refine bstep ?_ (below_drewN _ _)) | exact bstep (by assumption) (by assumption) | (refine bstep ?_ (below_alloc _ _)) | (refine bstep ?_ (by assumption)) | (refine Below.setCell ?_ (by simp <;> omega) _) | refine Below.drew ?_ | (refine Below.trans ?_ (by assumption)))))).mono ?_
  rintro e w2 ⟨u2, v2, rfl, owa2, owb2, hb2⟩
  have hs2 := hb2.size
  (try simp at hs2)
  have hy2_0 : w.heap.size < w2.heap.size := by omega
  have hk2_0 := fun o => hb2.cell (p := ⟨w.heap.size, o, none⟩) (by first | omega | (simp <;> omega))
  have hg2_0 := fun o => hb2.frozen (p := ⟨w.heap.size, o, none⟩) (by first | omega | (simp <;> omega))
  obtain ⟨A2, c2, rfl, rd_A2⟩ := own_rd owa2
  have RDA2 := Lib.hid rd_A2
  have HLA2 := Lib.hid (own_blk owa2)
  have RGA2 : Hid (∀ k, atB A2 k → w1.heap.size ≤ k ∧ k < w2.heap.size) := Lib.hid (fun k hk => ⟨by have h9 := (own_rng owa2 k hk).1; (try simp at h9); omega, (own_rng owa2 k hk).2⟩)
  have OWA2 := Lib.hid owa2
  clear rd_A2 owa2
  obtain ⟨B2, d2, rfl, rd_B2⟩ := own_rd owb2
  have RDB2 := Lib.hid rd_B2
  have HLB2 := Lib.hid (own_blk owb2)
  have RGB2 : Hid (∀ k, atB B2 k → w1.heap.size ≤ k ∧ k < w2.heap.size) := Lib.hid (fun k hk => ⟨by have h9 := (own_rng owb2 k hk).1; (try simp at h9); omega, (own_rng owb2 k hk).2⟩)
  have OWB2 := Lib.hid owb2
  clear rd_B2 owb2
  go_wp2_with fail
  refine (toIntS_any D k e nd _ HK.out (HD.out.below (by repeat (first | exact Below.refl _ _ | assumption | (refine bstep ?_ (below_drewN _ _)) | exact bstep (by assumption) (by assumption) | (refine bstep ?_ (below_alloc _ _)) | (refine bstep ?_ (by assumption)) | (refine Below.setCell ?_ (by simp <;> omega) _) | refine Below.drew ?_ | (refine Below.trans ?_ (by assumption)))))).mono ?_
  rintro e w3 ⟨v3, rfl, own3, hb3⟩
  have hs3 := hb3.size
  (try simp at hs3)
  have hy3_0 : w.heap.size < w3.heap.size := by omega
  have hk3_0 := fun o => hb3.cell (p := ⟨w.heap.size, o, none⟩) (by first | omega | (simp <;> omega))
  have hg3_0 := fun o => hb3.frozen (p := ⟨w.heap.size, o, none⟩) (by first | omega | (simp <;> omega))
  obtain ⟨D3, e3, rfl, rd_D3⟩ := own_rd own3
  have RDD3 := Lib.hid rd_D3
  have HLD3 := Lib.hid (own_blk own3)
  have RGD3 : Hid (∀ k, atB D3 k → w2.heap.size ≤ k ∧ k < w3.heap.size) := Lib.hid (fun k hk => ⟨by have h9 := (own_rng own3 k hk).1; (try simp at h9); omega, (own_rng own3 k hk).2⟩)
  have OWD3 := Lib.hid own3
  clear rd_D3 own3
  go_wp2_with fail
  refine (slowest_any A2 B2 n c2 m d2 ps ns D3 k e3 nd  _ HN.out HM.out (RDA2.out.below HLA2.out (by repeat (first | exact Below.refl _ _ | assumption | (refine bstep ?_ (below_drewN _ _)) | exact bstep (by assumption) (by assumption) | (refine bstep ?_ (below_alloc _ _)) | (refine bstep ?_ (by assumption)) | (refine Below.setCell ?_ (by simp <;> omega) _) | refine Below.drew ?_))) (RDB2.out.below HLB2.out (by repeat (first | exact Below.refl _ _ | assumption | (refine bstep ?_ (below_drewN _ _)) | exact bstep (by assumption) (by assumption) | (refine bstep ?_ (below_alloc _ _)) | (refine bstep ?_ (by assumption)) | (refine Below.setCell ?_ (by simp <;> omega) _) | refine Below.drew ?_))) (lt_below HLA2.out (by repeat (first | exact Below.refl _ _ | assumption | (refine bstep ?_ (below_drewN _ _)) | exact bstep (by assumption) (by assumption) | (refine bstep ?_ (below_alloc _ _)) | (refine bstep ?_ (by assumption)) | (refine Below.setCell ?_ (by simp <;> omega) _) | refine Below.drew ?_))) (lt_below HLB2.out (by repeat (first | exact Below.refl _ _ | assumption | (refine bstep ?_ (below_drewN _ _)) | exact bstep (by assumption) (by assumption) | (refine bstep ?_ (below_alloc _ _)) | (refine bstep ?_ (by assumption)) | (refine Below.setCell ?_ (by simp <;> omega) _) | refine Below.drew ?_))) HK.out (RDD3.out.below HLD3.out (by repeat (first | exact Below.refl _ _ | assumption | (refine bstep ?_ (below_drewN _ _)) | exact bstep (by assumption) (by assumption) | (refine bstep ?_ (below_alloc _ _)) | (refine bstep ?_ (by assumption)) | (refine Below.setCell ?_ (by simp <;> omega) _) | refine Below.drew ?_))) (lt_below HLD3.out (by repeat (first | exact Below.refl _ _ | assumption | (refine bstep ?_ (below_drewN _ _)) | exact bstep (by assumption) (by assumption) | (refine bstep ?_ (below_alloc _ _)) | (refine bstep ?_ (by assumption)) | (refine Below.setCell ?_ (by simp <;> omega) _) | refine Below.drew ?_)))).mono ?_
  rintro e w4 ⟨rfl, hb4⟩
  have hs4 := hb4.size
  (try simp at hs4)
  have hy4_0 : w.heap.size < w4.heap.size := by omega
  have hk4_0 := fun o => hb4.cell (p := ⟨w.heap.size, o, none⟩) (by first | omega | (simp <;> omega))
  have hg4_0 := fun o => hb4.frozen (p := ⟨w.heap.size, o, none⟩) (by first | omega | (simp <;> omega))
  go_wp2_with fail
  refine (toTopo_any A B n c m d ps ns _ HN.out HM.out (HR.out.below (by repeat (first | exact Below.refl _ _ | assumption | (refine bstep ?_ (below_drewN _ _)) | exact bstep (by assumption) (by assumption) | (refine bstep ?_ (below_alloc _ _)) | (refine bstep ?_ (by assumption)) | (refine Below.setCell ?_ (by simp <;> omega) _) | refine Below.drew ?_ | (refine Below.trans ?_ (by assumption))))) (HQ.out.below (by repeat (first | exact Below.refl _ _ | assumption | (refine bstep ?_ (below_drewN _ _)) | exact bstep (by assumption) (by assumption) | (refine bstep ?_ (below_alloc _ _)) | (refine bstep ?_ (by assumption)) | (refine Below.setCell ?_ (by simp <;> omega) _) | refine Below.drew ?_ | (refine Below.trans ?_ (by assumption)))))).mono ?_
  rintro e w5 ⟨u5, v5, rfl, owa5, owb5, hb5⟩
  have hs5 := hb5.size
  (try simp at hs5)
  have hy5_0 : w.heap.size < w5.heap.size := by omega
  have hk5_0 := fun o => hb5.cell (p := ⟨w.heap.size, o, none⟩) (by first | omega | (simp <;> omega))
  have hg5_0 := fun o => hb5.frozen (p := ⟨w.heap.size, o, none⟩) (by first | omega | (simp <;> omega))
  obtain ⟨A5, c5, rfl, rd_A5⟩ := own_rd owa5
  have RDA5 := Lib.hid rd_A5
  have HLA5 := Lib.hid (own_blk owa5)
  have RGA5 : Hid (∀ k, atB A5 k → w4.heap.size ≤ k ∧ k < w5.heap.size) := Lib.hid (fun k hk => ⟨by have h9 := (own_rng owa5 k hk).1; (try simp at h9); omega, (own_rng owa5 k hk).2⟩)
  have OWA5 := Lib.hid owa5
  clear rd_A5 owa5
  obtain ⟨B5, d5, rfl, rd_B5⟩ := own_rd owb5
  have RDB5 := Lib.hid rd_B5
  have HLB5 := Lib.hid (own_blk owb5)
  have RGB5 : Hid (∀ k, atB B5 k → w4.heap.size ≤ k ∧ k < w5.heap.size) := Lib.hid (fun k hk => ⟨by have h9 := (own_rng owb5 k hk).1; (try simp at h9); omega, (own_rng owb5 k hk).2⟩)
  have OWB5 := Lib.hid owb5
  clear rd_B5 owb5
  go_wp2_with fail
  refine (toIntS_any D k e nd _ HK.out (HD.out.below (by repeat (first | exact Below.refl _ _ | assumption | (refine bstep ?_ (below_drewN _ _)) | exact bstep (by assumption) (by assumption) | (refine bstep ?_ (below_alloc _ _)) | (refine bstep ?_ (by assumption)) | (refine Below.setCell ?_ (by simp <;> omega) _) | refine Below.drew ?_ | (refine Below.trans ?_ (by assumption)))))).mono ?_
  rintro e w6 ⟨v6, rfl, own6, hb6⟩
  have hs6 := hb6.size
  (try simp at hs6)
  have hy6_0 : w.heap.size < w6.heap.size := by omega
  have hk6_0 := fun o => hb6.cell (p := ⟨w.heap.size, o, none⟩) (by first | omega | (simp <;> omega))
  have hg6_0 := fun o => hb6.frozen (p := ⟨w.heap.size, o, none⟩) (by first | omega | (simp <;> omega))
  have hy6_1 : w5.heap.size < w6.heap.size := by omega
  have hk6_1 := fun o => hb6.cell (p := ⟨w5.heap.size, o, none⟩) (by first | omega | (simp <;> omega))
  have hg6_1 := fun o => hb6.frozen (p := ⟨w5.heap.size, o, none⟩) (by first | omega | (simp <;> omega))
  obtain ⟨D6, e6, rfl, rd_D6⟩ := own_rd own6
  have RDD6 := Lib.hid rd_D6
  have HLD6 := Lib.hid (own_blk own6)
  have RGD6 : Hid (∀ k, atB D6 k → w5.heap.size + 1 ≤ k ∧ k < w6.heap.size) := Lib.hid (fun k hk => ⟨by have h9 := (own_rng own6 k hk).1; (try simp at h9); omega, (own_rng own6 k hk).2⟩)
  have OWD6 := Lib.hid own6
  clear rd_D6 own6
  go_wp2_with fail
  refine (lowest_any A5 B5 n c5 m d5 ps ns D6 k e6 nd  _ HN.out HM.out (RDA5.out.below HLA5.out (by repeat (first | exact Below.refl _ _ | assumption | (refine bstep ?_ (below_drewN _ _)) | exact bstep (by assumption) (by assumption) | (refine bstep ?_ (below_alloc _ _)) | (refine bstep ?_ (by assumption)) | (refine Below.setCell ?_ (by simp <;> omega) _) | refine Below.drew ?_))) (RDB5.out.below HLB5.out (by repeat (first | exact Below.refl _ _ | assumption | (refine bstep ?_ (below_drewN _ _)) | exact bstep (by assumption) (by assumption) | (refine bstep ?_ (below_alloc _ _)) | (refine bstep ?_ (by assumption)) | (refine Below.setCell ?_ (by simp <;> omega) _) | refine Below.drew ?_))) (lt_below HLA5.out (by repeat (first | exact Below.refl _ _ | assumption | (refine bstep ?_ (below_drewN _ _)) | exact bstep (by assumption) (by assumption) | (refine bstep ?_ (below_alloc _ _)) | (refine bstep ?_ (by assumption)) | (refine Below.setCell ?_ (by simp <;> omega) _) | refine Below.drew ?_))) (lt_below HLB5.out (by repeat (first | exact Below.refl _ _ | assumption | (refine bstep ?_ (below_drewN _ _)) | exact bstep (by assumption) (by assumption) | (refine bstep ?_ (below_alloc _ _)) | (refine bstep ?_ (by assumption)) | (refine Below.setCell ?_ (by simp <;> omega) _) | refine Below.drew ?_))) HK.out (RDD6.out.below HLD6.out (by repeat (first | exact Below.refl _ _ | assumption | (refine bstep ?_ (below_drewN _ _)) | exact bstep (by assumption) (by assumption) | (refine bstep ?_ (below_alloc _ _)) | (refine bstep ?_ (by assumption)) | (refine Below.setCell ?_ (by simp <;> omega) _) | refine Below.drew ?_))) (lt_below HLD6.out (by repeat (first | exact Below.refl _ _ | assumption | (refine bstep ?_ (below_drewN _ _)) | exact bstep (by assumption) (by assumption) | (refine bstep ?_ (below_alloc _ _)) | (refine bstep ?_ (by assumption)) | (refine Below.setCell ?_ (by simp <;> omega) _) | refine Below.drew ?_)))).mono ?_
  rintro e w7 ⟨rfl, hb7⟩
  have hs7 := hb7.size
  (try simp at hs7)
  have hy7_0 : w.heap.size < w7.heap.size := by omega
  have hk7_0 := fun o => hb7.cell (p := ⟨w.heap.size, o, none⟩) (by first | omega | (simp <;> omega))
  have hg7_0 := fun o => hb7.frozen (p := ⟨w.heap.size, o, none⟩) (by first | omega | (simp <;> omega))
  have hy7_1 : w5.heap.size < w7.heap.size := by omega
  have hk7_1 := fun o => hb7.cell (p := ⟨w5.heap.size, o, none⟩) (by first | omega | (simp <;> omega))
  have hg7_1 := fun o => hb7.frozen (p := ⟨w5.heap.size, o, none⟩) (by first | omega | (simp <;> omega))
  go_wp2_with fail
  go_region_held3 (fun w' => w'.cell? ⟨w.heap.size, 0, none⟩ = some (.slice A n c) ∧ w'.cell? ⟨w.heap.size, 1, none⟩ = some (.slice B m d) ∧ w'.cell? ⟨w5.heap.size, 0, none⟩ = some (.slice A5 n c5) ∧ w'.cell? ⟨w5.heap.size, 1, none⟩ = some (.slice B5 m d5)) (simp [go_sem, *, World.cell?_alloc_some, World.cell?_setCell_far, Nat.lt_add_right, Nat.ne_of_gt]) (first | (go_at_call 69; refine (toTopo_any A B n c m d ps ns _ HN.out HM.out (HR.out.below (by repeat (first | exact Below.refl _ _ | assumption | (refine bstep ?_ (below_drewN _ _)) | exact bstep (by assumption) (by assumption) | (refine bstep ?_ (below_alloc _ _)) | (refine bstep ?_ (by assumption)) | (refine Below.setCell ?_ (by simp <;> omega) _) | refine Below.drew ?_ | (refine Below.trans ?_ (by assumption))))) (HQ.out.below (by repeat (first | exact Below.refl _ _ | assumption | (refine bstep ?_ (below_drewN _ _)) | exact bstep (by assumption) (by assumption) | (refine bstep ?_ (below_alloc _ _)) | (refine bstep ?_ (by assumption)) | (refine Below.setCell ?_ (by simp <;> omega) _) | refine Below.drew ?_ | (refine Below.trans ?_ (by assumption)))))).mono ?_; rintro e w8 ⟨u8, v8, rfl, owa8, owb8, hb8⟩; have hs8 := hb8.size; (try simp at hs8); have hy8_0 : w.heap.size < w8.heap.size := (by omega); have hk8_0 := fun o => hb8.cell (p := ⟨w.heap.size, o, none⟩) (by first | omega | (simp <;> omega)); have hg8_0 := fun o => hb8.frozen (p := ⟨w.heap.size, o, none⟩) (by first | omega | (simp <;> omega)); have hy8_1 : w5.heap.size < w8.heap.size := (by omega); have hk8_1 := fun o => hb8.cell (p := ⟨w5.heap.size, o, none⟩) (by first | omega | (simp <;> omega)); have hg8_1 := fun o => hb8.frozen (p := ⟨w5.heap.size, o, none⟩) (by first | omega | (simp <;> omega)); obtain ⟨A8, c8, rfl, rd_A8⟩ := own_rd owa8; have RDA8 := Lib.hid rd_A8; have HLA8 := Lib.hid (own_blk owa8); have OWA8 := Lib.hid owa8; clear rd_A8 owa8; obtain ⟨B8, d8, rfl, rd_B8⟩ := own_rd owb8; have RDB8 := Lib.hid rd_B8; have HLB8 := Lib.hid (own_blk owb8); have OWB8 := Lib.hid owb8; clear rd_B8 owb8) | (go_at_call 71; refine (eqTopo_any A5 A8 B5 B8 n c5 c8 m d5 d8 ps ns _ (Nat.le_succ_of_le HN.out) (Nat.le_succ_of_le HM.out) (RDA5.out.below HLA5.out (by repeat (first | exact Below.refl _ _ | assumption | (refine bstep ?_ (below_drewN _ _)) | exact bstep (by assumption) (by assumption) | (refine bstep ?_ (below_alloc _ _)) | (refine bstep ?_ (by assumption)) | (refine Below.setCell ?_ (by simp <;> omega) _) | refine Below.drew ?_))) RDA8.out (RDB5.out.below HLB5.out (by repeat (first | exact Below.refl _ _ | assumption | (refine bstep ?_ (below_drewN _ _)) | exact bstep (by assumption) (by assumption) | (refine bstep ?_ (below_alloc _ _)) | (refine bstep ?_ (by assumption)) | (refine Below.setCell ?_ (by simp <;> omega) _) | refine Below.drew ?_))) RDB8.out (lt_below HLA5.out (by repeat (first | exact Below.refl _ _ | assumption | (refine bstep ?_ (below_drewN _ _)) | exact bstep (by assumption) (by assumption) | (refine bstep ?_ (below_alloc _ _)) | (refine bstep ?_ (by assumption)) | (refine Below.setCell ?_ (by simp <;> omega) _) | refine Below.drew ?_))) HLA8.out (lt_below HLB5.out (by repeat (first | exact Below.refl _ _ | assumption | (refine bstep ?_ (below_drewN _ _)) | exact bstep (by assumption) (by assumption) | (refine bstep ?_ (below_alloc _ _)) | (refine bstep ?_ (by assumption)) | (refine Below.setCell ?_ (by simp <;> omega) _) | refine Below.drew ?_))) HLB8.out).mono ?_; rintro e w9 ⟨rfl, hb9⟩; have hs9 := hb9.size; (try simp at hs9); have hy9_0 : w.heap.size < w9.heap.size := (by omega); have hk9_0 := fun o => hb9.cell (p := ⟨w.heap.size, o, none⟩) (by first | omega | (simp <;> omega)); have hg9_0 := fun o => hb9.frozen (p := ⟨w.heap.size, o, none⟩) (by first | omega | (simp <;> omega)); have hy9_1 : w5.heap.size < w9.heap.size := (by omega); have hk9_1 := fun o => hb9.cell (p := ⟨w5.heap.size, o, none⟩) (by first | omega | (simp <;> omega)); have hg9_1 := fun o => hb9.frozen (p := ⟨w5.heap.size, o, none⟩) (by first | omega | (simp <;> omega))))
  go_wp2_with fail
  refine (toIntS_any D k e nd _ HK.out (HD.out.below (by repeat (first | exact Below.refl _ _ | assumption | (refine bstep ?_ (below_drewN _ _)) | exact bstep (by assumption) (by assumption) | (refine bstep ?_ (below_alloc _ _)) | (refine bstep ?_ (by assumption)) | (refine Below.setCell ?_ (by simp <;> omega) _) | refine Below.drew ?_ | (refine Below.trans ?_ (by assumption)))))).mono ?_
  rintro e w10 ⟨v10, rfl, own10, hb10⟩
  have hs10 := hb10.size
  (try simp at hs10)
  have hy10_0 : w.heap.size < w10.heap.size := by omega
  have hk10_0 := fun o => hb10.cell (p := ⟨w.heap.size, o, none⟩) (by first | omega | (simp <;> omega))
  have hg10_0 := fun o => hb10.frozen (p := ⟨w.heap.size, o, none⟩) (by first | omega | (simp <;> omega))
  have hy10_1 : w5.heap.size < w10.heap.size := by omega
  have hk10_1 := fun o => hb10.cell (p := ⟨w5.heap.size, o, none⟩) (by first | omega | (simp <;> omega))
  have hg10_1 := fun o => hb10.frozen (p := ⟨w5.heap.size, o, none⟩) (by first | omega | (simp <;> omega))
  obtain ⟨D10, e10, rfl, rd_D10⟩ := own_rd own10
  have RDD10 := Lib.hid rd_D10
  have HLD10 := Lib.hid (own_blk own10)
  have RGD10 : Hid (∀ k, atB D10 k → w9.heap.size ≤ k ∧ k < w10.heap.size) := Lib.hid (fun k hk => ⟨by have h9 := (own_rng own10 k hk).1; (try simp at h9); omega, (own_rng own10 k hk).2⟩)
  have OWD10 := Lib.hid own10
  clear rd_D10 own10
  go_wp2_with fail
  refine (eqIntS_any D6 D10 k e6 e10 nd _ (Nat.le_succ_of_le HK.out) (RDD6.out.below HLD6.out (by repeat (first | exact Below.refl _ _ | assumption | (refine bstep ?_ (below_drewN _ _)) | exact bstep (by assumption) (by assumption) | (refine bstep ?_ (below_alloc _ _)) | (refine bstep ?_ (by assumption)) | (refine Below.setCell ?_ (by simp <;> omega) _) | refine Below.drew ?_))) (RDD10.out.below HLD10.out (by repeat (first | exact Below.refl _ _ | assumption | (refine bstep ?_ (below_drewN _ _)) | exact bstep (by assumption) (by assumption) | (refine bstep ?_ (below_alloc _ _)) | (refine bstep ?_ (by assumption)) | (refine Below.setCell ?_ (by simp <;> omega) _) | refine Below.drew ?_)))).mono ?_
  rintro e w11 ⟨rfl, k11, hw11⟩
  have hb11 := below_eqN hw11
  clear hw11
  have hs11 := hb11.size
  (try simp at hs11)
  have hy11_0 : w.heap.size < w11.heap.size := by omega
  have hk11_0 := fun o => hb11.cell (p := ⟨w.heap.size, o, none⟩) (by first | omega | (simp <;> omega))
  have hg11_0 := fun o => hb11.frozen (p := ⟨w.heap.size, o, none⟩) (by first | omega | (simp <;> omega))
  have hy11_1 : w5.heap.size < w11.heap.size := by omega
  have hk11_1 := fun o => hb11.cell (p := ⟨w5.heap.size, o, none⟩) (by first | omega | (simp <;> omega))
  have hg11_1 := fun o => hb11.frozen (p := ⟨w5.heap.size, o, none⟩) (by first | omega | (simp <;> omega))
  all_goals go_wp2
  all_goals go_ret
  all_goals exact ⟨rfl, (by repeat (first | exact Below.refl _ _ | assumption | (refine bstep ?_ (below_drewN _ _)) | exact bstep (by assumption) (by assumption) | (refine bstep ?_ (below_alloc _ _)) | (refine bstep ?_ (by assumption)) | (refine Below.setCell ?_ (by simp <;> omega) _) | refine Below.drew ?_ | (refine Below.trans ?_ (by assumption))))⟩
theorem law_lowest (A B : Option Addr) (n c m d : Nat) (ps : List Int) (ns : List Q) (D : Option Addr) (k e : Nat) (nd : List Int)  (w : World) (hn : n ≤ maxLen) (hm : m ≤ maxLen) (hk : k ≤ maxLen) (hr : RdI w A n ps) (hq : RdE w B m ns) (hd : RdI w D k nd) :
    Calls Try.prog 18 #[.agg #[.slice A n c, .slice B m d], .slice D k e] w fun e w' => e = .returned (.bool true) ∧ Below w.heap.size w w' := by
  by_cases hk9 : (k : Int) ≤ 1048576
  · rcases szT_cases n m with h | ⟨h, h1, h2⟩
    · exact law_lowest_big A B n c m d D k e  w hk9 hn hm h
    · exact law_lowest_small A B n c m d ps ns D k e nd  w hk9 h h1 h2 hr hq hd
  · exact law_lowest_long A B n c m d D k e  w hk9 hk
end Go.Proofs.Ytjnfdcojccgfoaa
