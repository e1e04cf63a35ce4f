import Derived.Test.YtjnfdcojccgfoaaQd
import Derived.Test.YtjnfdcojccgfoaaMa
namespace Go.Proofs.Ytjnfdcojccgfoaa
set_option linter.unusedSimpArgs false
set_option linter.unusedVariables false
set_option linter.unnecessarySimpa false
open Go.RowKit

set_option maxHeartbeats 4000000 in
theorem law_profMin_big (A : Option Addr) (n c : Nat) (lo hi : Int) (w : World) (hn : n ≤ maxLen) (hb : ¬ n ≤ 1048576) :
    Calls Try.prog 11 #[.agg #[.slice A n c], .int .i64 lo, .int .i64 hi] w fun e w' => e = .returned (.bool true) ∧ Below w.heap.size w w' := by
  have hz : szOf 1048576 n = -1 := if_neg (by omega)
  have HN := Lib.hid hn
  have HZ := Lib.hid hz
  clear hn hb hz
  go_enter Try.func11, Try.ntmps11
  go_wp2_with fail
  refine (szProf_any A n c 1048576 _ (by omega) (by omega) HN.out).mono ?_
  rintro e w1 ⟨rfl, hb1⟩
  rw [HZ.out]
  go_wp2
  go_ret
  exact ⟨rfl, (by repeat (first | exact Below.refl _ _ | assumption | (refine bstep ?_ (below_drewN _ _)) | exact bstep (by assumption) (by assumption) | (refine bstep ?_ (below_alloc _ _)) | (refine bstep ?_ (by assumption)) | (refine Below.setCell ?_ (by simp <;> omega) _) | refine Below.drew ?_))⟩
set_option maxHeartbeats 4000000 in
theorem law_profMin_small (A : Option Addr) (n c : Nat) (ps : List Q) (lo hi : Int) (w : World) (hn : n ≤ 1048576) (hr : RdE w A n ps) :
    Calls Try.prog 11 #[.agg #[.slice A n c], .int .i64 lo, .int .i64 hi] w fun e w' => e = .returned (.bool true) ∧ Below w.heap.size w w' := by
  have hz : ¬ szOf 1048576 n < 0 := by unfold szOf; split <;> omega
  have HN := Lib.hid hn
  have HR := Lib.hid hr
  clear hn hr
  go_enter Try.func11, Try.ntmps11
  go_wp2_with fail
  refine (szProf_any A n c 1048576 _ (by omega) (by omega) (Nat.le_trans HN.out (by decide))).mono ?_
  rintro e w1 ⟨rfl, hb1⟩
  have hs1 := hb1.size
  (try simp at hs1)
  have hy1_0 : w.heap.size < w1.heap.size := by omega
  have hk1_0 := fun o => hb1.cell (p := ⟨w.heap.size, o, none⟩) (by first | omega | (simp <;> omega))
  have hg1_0 := fun o => hb1.frozen (p := ⟨w.heap.size, o, none⟩) (by first | omega | (simp <;> omega))
  go_wp2_with fail
  refine (toProf_any A n c ps _ HN.out (HR.out.below (by repeat (first | exact Below.refl _ _ | assumption | (refine bstep ?_ (below_drewN _ _)) | exact bstep (by assumption) (by assumption) | (refine bstep ?_ (below_alloc _ _)) | (refine bstep ?_ (by assumption)) | (refine Below.setCell ?_ (by simp <;> omega) _) | refine Below.drew ?_)))).mono ?_
  rintro e w2 ⟨v2, rfl, own2, hb2⟩
  have hs2 := hb2.size
  (try simp at hs2)
  have hy2_0 : w.heap.size < w2.heap.size := by omega
  have hk2_0 := fun o => hb2.cell (p := ⟨w.heap.size, o, none⟩) (by first | omega | (simp <;> omega))
  have hg2_0 := fun o => hb2.frozen (p := ⟨w.heap.size, o, none⟩) (by first | omega | (simp <;> omega))
  obtain ⟨A2, c2, rfl, rd_A2⟩ := own_rd own2
  have RDA2 := Lib.hid rd_A2
  have HLA2 := Lib.hid (own_blk own2)
  have RGA2 : Hid (∀ k, atB A2 k → w1.heap.size ≤ k ∧ k < w2.heap.size) := Lib.hid (fun k hk => ⟨by have h9 := (own_rng own2 k hk).1; (try simp at h9); omega, (own_rng own2 k hk).2⟩)
  have OWA2 := Lib.hid own2
  clear rd_A2 own2
  go_wp2_with fail
  refine (sprofMin_any A2 n c2 ps lo hi _ HN.out RDA2.out HLA2.out).mono ?_
  rintro e w3 ⟨rfl, hb3⟩
  have hs3 := hb3.size
  (try simp at hs3)
  have hy3_0 : w.heap.size < w3.heap.size := by omega
  have hk3_0 := fun o => hb3.cell (p := ⟨w.heap.size, o, none⟩) (by first | omega | (simp <;> omega))
  have hg3_0 := fun o => hb3.frozen (p := ⟨w.heap.size, o, none⟩) (by first | omega | (simp <;> omega))
  go_wp2_with fail
  refine (toProf_any A n c ps _ HN.out (HR.out.below (by repeat (first | exact Below.refl _ _ | assumption | (refine bstep ?_ (below_drewN _ _)) | exact bstep (by assumption) (by assumption) | (refine bstep ?_ (below_alloc _ _)) | (refine bstep ?_ (by assumption)) | (refine Below.setCell ?_ (by simp <;> omega) _) | refine Below.drew ?_)))).mono ?_
  rintro e w4 ⟨v4, rfl, own4, hb4⟩
  have hs4 := hb4.size
  (try simp at hs4)
  have hy4_0 : w.heap.size < w4.heap.size := by omega
  have hk4_0 := fun o => hb4.cell (p := ⟨w.heap.size, o, none⟩) (by first | omega | (simp <;> omega))
  have hg4_0 := fun o => hb4.frozen (p := ⟨w.heap.size, o, none⟩) (by first | omega | (simp <;> omega))
  have hy4_1 : w3.heap.size < w4.heap.size := by omega
  have hk4_1 := fun o => hb4.cell (p := ⟨w3.heap.size, o, none⟩) (by first | omega | (simp <;> omega))
  have hg4_1 := fun o => hb4.frozen (p := ⟨w3.heap.size, o, none⟩) (by first | omega | (simp <;> omega))
  obtain ⟨A4, c4, rfl, rd_A4⟩ := own_rd own4
  have RDA4 := Lib.hid rd_A4
  have HLA4 := Lib.hid (own_blk own4)
  have RGA4 : Hid (∀ k, atB A4 k → w3.heap.size ≤ k ∧ k < w4.heap.size) := Lib.hid (fun k hk => ⟨by have h9 := (own_rng own4 k hk).1; (try simp at h9); omega, (own_rng own4 k hk).2⟩)
  have OWA4 := Lib.hid own4
  clear rd_A4 own4
  go_wp2_with fail
  refine (profMin_any A4 n c4 ps lo hi _ HN.out (RDA4.out.below HLA4.out (by repeat (first | exact Below.refl _ _ | assumption | (refine bstep ?_ (below_drewN _ _)) | exact bstep (by assumption) (by assumption) | (refine bstep ?_ (below_alloc _ _)) | (refine bstep ?_ (by assumption)) | (refine Below.setCell ?_ (by simp <;> omega) _) | refine Below.drew ?_))) (lt_below HLA4.out (by repeat (first | exact Below.refl _ _ | assumption | (refine bstep ?_ (below_drewN _ _)) | exact bstep (by assumption) (by assumption) | (refine bstep ?_ (below_alloc _ _)) | (refine bstep ?_ (by assumption)) | (refine Below.setCell ?_ (by simp <;> omega) _) | refine Below.drew ?_)))).mono ?_
  rintro e w5 ⟨rfl, hb5⟩
  have hs5 := hb5.size
  (try simp at hs5)
  have hy5_0 : w.heap.size < w5.heap.size := by omega
  have hk5_0 := fun o => hb5.cell (p := ⟨w.heap.size, o, none⟩) (by first | omega | (simp <;> omega))
  have hg5_0 := fun o => hb5.frozen (p := ⟨w.heap.size, o, none⟩) (by first | omega | (simp <;> omega))
  have hy5_1 : w3.heap.size < w5.heap.size := by omega
  have hk5_1 := fun o => hb5.cell (p := ⟨w3.heap.size, o, none⟩) (by first | omega | (simp <;> omega))
  have hg5_1 := fun o => hb5.frozen (p := ⟨w3.heap.size, o, none⟩) (by first | omega | (simp <;> omega))
  have hy5_2 : w4.heap.size < w5.heap.size := by omega
  have hk5_2 := fun o => hb5.cell (p := ⟨w4.heap.size, o, none⟩) (by first | omega | (simp <;> omega))
  have hg5_2 := fun o => hb5.frozen (p := ⟨w4.heap.size, o, none⟩) (by first | omega | (simp <;> omega))
  go_wp2_with fail
  refine (eqVec_int _ _ _ _).mono ?_
  rintro e w6 ⟨rfl, hb6⟩
  have hs6 := hb6.size
  (try simp at hs6)
  have hy6_0 : w.heap.size < w6.heap.size := by omega
  have hk6_0 := fun o => hb6.cell (p := ⟨w.heap.size, o, none⟩) (by first | omega | (simp <;> omega))
  have hg6_0 := fun o => hb6.frozen (p := ⟨w.heap.size, o, none⟩) (by first | omega | (simp <;> omega))
  have hy6_1 : w3.heap.size < w6.heap.size := by omega
  have hk6_1 := fun o => hb6.cell (p := ⟨w3.heap.size, o, none⟩) (by first | omega | (simp <;> omega))
  have hg6_1 := fun o => hb6.frozen (p := ⟨w3.heap.size, o, none⟩) (by first | omega | (simp <;> omega))
  have hy6_2 : w4.heap.size < w6.heap.size := by omega
  have hk6_2 := fun o => hb6.cell (p := ⟨w4.heap.size, o, none⟩) (by first | omega | (simp <;> omega))
  have hg6_2 := fun o => hb6.frozen (p := ⟨w4.heap.size, o, none⟩) (by first | omega | (simp <;> omega))
  have hy6_3 : w5.heap.size < w6.heap.size := by omega
  have hk6_3 := fun o => hb6.cell (p := ⟨w5.heap.size, o, none⟩) (by first | omega | (simp <;> omega))
  have hg6_3 := fun o => hb6.frozen (p := ⟨w5.heap.size, o, none⟩) (by first | omega | (simp <;> omega))
  go_wp2_with fail
  go_region_held3 (fun w' => w'.cell? ⟨w.heap.size, 0, none⟩ = some (.slice A n c) ∧ w'.cell? ⟨w4.heap.size, 0, none⟩ = some (.slice A4 n c4)) (simp [go_sem, *, World.cell?_alloc_some, World.cell?_setCell_far, Nat.lt_add_right, Nat.ne_of_gt]) (first | (go_at_call 31; refine (toProf_any A n c ps _ HN.out (HR.out.below (by repeat (first | exact Below.refl _ _ | assumption | (refine bstep ?_ (below_drewN _ _)) | exact bstep (by assumption) (by assumption) | (refine bstep ?_ (below_alloc _ _)) | (refine bstep ?_ (by assumption)) | (refine Below.setCell ?_ (by simp <;> omega) _) | refine Below.drew ?_)))).mono ?_; rintro e w7 ⟨v7, rfl, own7, hb7⟩; have hs7 := hb7.size; (try simp at hs7); have hy7_0 : w.heap.size < w7.heap.size := (by omega); have hk7_0 := fun o => hb7.cell (p := ⟨w.heap.size, o, none⟩) (by first | omega | (simp <;> omega)); have hg7_0 := fun o => hb7.frozen (p := ⟨w.heap.size, o, none⟩) (by first | omega | (simp <;> omega)); have hy7_1 : w3.heap.size < w7.heap.size := (by omega); have hk7_1 := fun o => hb7.cell (p := ⟨w3.heap.size, o, none⟩) (by first | omega | (simp <;> omega)); have hg7_1 := fun o => hb7.frozen (p := ⟨w3.heap.size, o, none⟩) (by first | omega | (simp <;> omega)); have hy7_2 : w4.heap.size < w7.heap.size := (by omega); have hk7_2 := fun o => hb7.cell (p := ⟨w4.heap.size, o, none⟩) (by first | omega | (simp <;> omega)); have hg7_2 := fun o => hb7.frozen (p := ⟨w4.heap.size, o, none⟩) (by first | omega | (simp <;> omega)); have hy7_3 : w5.heap.size < w7.heap.size := (by omega); have hk7_3 := fun o => hb7.cell (p := ⟨w5.heap.size, o, none⟩) (by first | omega | (simp <;> omega)); have hg7_3 := fun o => hb7.frozen (p := ⟨w5.heap.size, o, none⟩) (by first | omega | (simp <;> omega)); obtain ⟨A7, c7, rfl, rd_A7⟩ := own_rd own7; have RDA7 := Lib.hid rd_A7; have HLA7 := Lib.hid (own_blk own7); have OWA7 := Lib.hid own7; clear rd_A7 own7) | (go_at_call 33; refine (eqProf_any A4 A7 n c4 c7 ps _ (Nat.le_succ_of_le HN.out) (RDA4.out.below HLA4.out (by repeat (first | exact Below.refl _ _ | assumption | (refine bstep ?_ (below_drewN _ _)) | exact bstep (by assumption) (by assumption) | (refine bstep ?_ (below_alloc _ _)) | (refine bstep ?_ (by assumption)) | (refine Below.setCell ?_ (by simp <;> omega) _) | refine Below.drew ?_))) RDA7.out (lt_below HLA4.out (by repeat (first | exact Below.refl _ _ | assumption | (refine bstep ?_ (below_drewN _ _)) | exact bstep (by assumption) (by assumption) | (refine bstep ?_ (below_alloc _ _)) | (refine bstep ?_ (by assumption)) | (refine Below.setCell ?_ (by simp <;> omega) _) | refine Below.drew ?_))) HLA7.out).mono ?_; rintro e w8 ⟨rfl, hb8⟩; have hs8 := hb8.size; (try simp at hs8); have hy8_0 : w.heap.size < w8.heap.size := (by omega); have hk8_0 := fun o => hb8.cell (p := ⟨w.heap.size, o, none⟩) (by first | omega | (simp <;> omega)); have hg8_0 := fun o => hb8.frozen (p := ⟨w.heap.size, o, none⟩) (by first | omega | (simp <;> omega)); have hy8_1 : w3.heap.size < w8.heap.size := (by omega); have hk8_1 := fun o => hb8.cell (p := ⟨w3.heap.size, o, none⟩) (by first | omega | (simp <;> omega)); have hg8_1 := fun o => hb8.frozen (p := ⟨w3.heap.size, o, none⟩) (by first | omega | (simp <;> omega)); have hy8_2 : w4.heap.size < w8.heap.size := (by omega); have hk8_2 := fun o => hb8.cell (p := ⟨w4.heap.size, o, none⟩) (by first | omega | (simp <;> omega)); have hg8_2 := fun o => hb8.frozen (p := ⟨w4.heap.size, o, none⟩) (by first | omega | (simp <;> omega)); have hy8_3 : w5.heap.size < w8.heap.size := (by omega); have hk8_3 := fun o => hb8.cell (p := ⟨w5.heap.size, o, none⟩) (by first | omega | (simp <;> omega)); have hg8_3 := fun o => hb8.frozen (p := ⟨w5.heap.size, o, none⟩) (by first | omega | (simp <;> omega))))
  all_goals go_wp2
  all_goals go_ret
  all_goals exact ⟨rfl, (by repeat (first | exact Below.refl _ _ | assumption | (refine bstep ?_ (below_drewN _ _)) | exact bstep (by assumption) (by assumption) | (refine bstep ?_ (below_alloc _ _)) | (refine bstep ?_ (by assumption)) | (refine Below.setCell ?_ (by simp <;> omega) _) | refine Below.drew ?_))⟩
theorem law_profMin (A : Option Addr) (n c : Nat) (ps : List Q) (lo hi : Int) (w : World) (hn : n ≤ maxLen) (hr : RdE w A n ps) :
    Calls Try.prog 11 #[.agg #[.slice A n c], .int .i64 lo, .int .i64 hi] w fun e w' => e = .returned (.bool true) ∧ Below w.heap.size w w' := by
  by_cases h : n ≤ 1048576
  · exact law_profMin_small A n c ps lo hi w h hr
  · exact law_profMin_big A n c lo hi w hn h
end Go.Proofs.Ytjnfdcojccgfoaa
