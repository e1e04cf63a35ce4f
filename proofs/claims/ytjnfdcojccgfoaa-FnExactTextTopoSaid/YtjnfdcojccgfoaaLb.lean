import Derived.Test.YtjnfdcojccgfoaaA5
import Derived.Test.YtjnfdcojccgfoaaA3
namespace Go.Proofs.Ytjnfdcojccgfoaa
set_option linter.unusedSimpArgs false
set_option linter.unusedVariables false
set_option linter.unnecessarySimpa false
open Go.RowKit
theorem tmsV_len (ps : List Q) : (tmsV ps).length ≤ 200 := by
  unfold tmsV
  split
  · rename_i h; have := (profOk_parts h).2.1; simpa using this
  · simp

set_option maxHeartbeats 4000000 in
theorem law_profTimes_big (A : Option Addr) (n c : Nat)  (w : World) (hn : n ≤ maxLen) (hb : ¬ n ≤ 1048576) :
    Calls Try.prog 10 #[.agg #[.slice A n c]] w fun e w' => e = .returned (.bool true) ∧ Below w.heap.size w w' := by
  have hz : szOf 1048576 n = -1 := if_neg (by omega)
  have HN := Lib.hid hn
  have HZ := Lib.hid hz
  clear hn hb hz
  go_enter Try.func10, Try.ntmps10
  go_wp2_with fail
  refine (szProf_any A n c 1048576 _ (by omega) (by omega) HN.out).mono ?_
  rintro e w1 ⟨rfl, hb1⟩
  rw [HZ.out]
  go_wp2
  go_ret
  exact ⟨rfl, (by repeat (first | exact Below.refl _ _ | assumption | (refine bstep ?_ (below_drewN _ _)) | exact bstep (by assumption) (by assumption) | (refine bstep ?_ (below_alloc _ _)) | (refine bstep ?_ (by assumption)) | (refine Below.setCell ?_ (by simp <;> omega) _) | refine Below.drew ?_))⟩
set_option maxHeartbeats 4000000 in
theorem law_profTimes_small (A : Option Addr) (n c : Nat) (ps : List Q)  (w : World) (hn : n ≤ 1048576) (hr : RdE w A n ps) :
    Calls Try.prog 10 #[.agg #[.slice A n c]] w fun e w' => e = .returned (.bool true) ∧ Below w.heap.size w w' := by
  have hz : ¬ szOf 1048576 n < 0 := by unfold szOf; split <;> omega
  have HLE : Hid ((tmsV ps).length ≤ 1048577) := Lib.hid (by have := tmsV_len ps; omega)
  have hq0 : 0 ≤ 1 + 4 * ((tmsV ps).length : Int) := by omega
  have hq1 : 0 ≤ 1 + 1 * ((tmsV ps).length : Int) := by omega
  have hq3 : 0 ≤ 1 + ((tmsV ps).length : Int) := by omega
  have hq2 : 0 ≤ 1 + 4 * (n : Int) := by omega
  have HN := Lib.hid hn
  have HR := Lib.hid hr
  clear hn hr
  go_enter Try.func10, Try.ntmps10
  go_wp2_with fail
  refine (szProf_any A n c 1048576 _ (by omega) (by omega) (Nat.le_trans HN.out (by decide))).mono ?_
  rintro e w1 ⟨rfl, hb1⟩
  have hs1 := hb1.size
  (try simp at hs1)
  have hy1_0 : w.heap.size < w1.heap.size := by omega
  have hk1_0 := fun o => hb1.cell (p := ⟨w.heap.size, o, none⟩) (by first | omega | (simp <;> omega))
  have hg1_0 := fun o => hb1.frozen (p := ⟨w.heap.size, o, none⟩) (by first | omega | (simp <;> omega))
  go_wp2_with fail
  refine (toProf_any A n c ps _ HN.out (HR.out.below (by repeat (first | exact Below.refl _ _ | assumption | (refine bstep ?_ (below_drewN _ _)) | exact bstep (by assumption) (by assumption) | (refine bstep ?_ (below_alloc _ _)) | (refine bstep ?_ (by assumption)) | (refine Below.setCell ?_ (by simp <;> omega) _) | refine Below.drew ?_ | (refine Below.trans ?_ (by assumption)))))).mono ?_
  rintro e w2 ⟨v2, rfl, own2, hb2⟩
  have hs2 := hb2.size
  (try simp at hs2)
  have hy2_0 : w.heap.size < w2.heap.size := by omega
  have hk2_0 := fun o => hb2.cell (p := ⟨w.heap.size, o, none⟩) (by first | omega | (simp <;> omega))
  have hg2_0 := fun o => hb2.frozen (p := ⟨w.heap.size, o, none⟩) (by first | omega | (simp <;> omega))
  obtain ⟨A2, c2, rfl, rd_A2⟩ := own_rd own2
  have RDA2 := Lib.hid rd_A2
  have HLA2 := Lib.hid (own_blk own2)
  have RGA2 : Hid (∀ k, atB A2 k → w1.heap.size ≤ k ∧ k < w2.heap.size) := Lib.hid (fun k hk => ⟨by have h9 := (own_rng own2 k hk).1; (try simp at h9); omega, (own_rng own2 k hk).2⟩)
  have OWA2 := Lib.hid own2
  clear rd_A2 own2
  go_wp2_with fail
  refine (sprofTimes_any A2 n c2 ps  _ HN.out RDA2.out HLA2.out).mono ?_
  rintro e w3 ⟨v3, rfl, own3, hb3⟩
  have hs3 := hb3.size
  (try simp at hs3)
  have hy3_0 : w.heap.size < w3.heap.size := by omega
  have hk3_0 := fun o => hb3.cell (p := ⟨w.heap.size, o, none⟩) (by first | omega | (simp <;> omega))
  have hg3_0 := fun o => hb3.frozen (p := ⟨w.heap.size, o, none⟩) (by first | omega | (simp <;> omega))
  obtain ⟨A3, c3, rfl, rd_A3⟩ := own_rd own3
  have RDA3 := Lib.hid rd_A3
  have HLA3 := Lib.hid (own_blk own3)
  have RGA3 : Hid (∀ k, atB A3 k → w2.heap.size ≤ k ∧ k < w3.heap.size) := Lib.hid (fun k hk => ⟨by have h9 := (own_rng own3 k hk).1; (try simp at h9); omega, (own_rng own3 k hk).2⟩)
  have OWA3 := Lib.hid own3
  clear rd_A3 own3
  go_wp2_with fail
  refine (toProf_any A n c ps _ HN.out (HR.out.below (by repeat (first | exact Below.refl _ _ | assumption | (refine bstep ?_ (below_drewN _ _)) | exact bstep (by assumption) (by assumption) | (refine bstep ?_ (below_alloc _ _)) | (refine bstep ?_ (by assumption)) | (refine Below.setCell ?_ (by simp <;> omega) _) | refine Below.drew ?_ | (refine Below.trans ?_ (by assumption)))))).mono ?_
  rintro e w4 ⟨v4, rfl, own4, hb4⟩
  have hs4 := hb4.size
  (try simp at hs4)
  have hy4_0 : w.heap.size < w4.heap.size := by omega
  have hk4_0 := fun o => hb4.cell (p := ⟨w.heap.size, o, none⟩) (by first | omega | (simp <;> omega))
  have hg4_0 := fun o => hb4.frozen (p := ⟨w.heap.size, o, none⟩) (by first | omega | (simp <;> omega))
  obtain ⟨A4, c4, rfl, rd_A4⟩ := own_rd own4
  have RDA4 := Lib.hid rd_A4
  have HLA4 := Lib.hid (own_blk own4)
  have RGA4 : Hid (∀ k, atB A4 k → w3.heap.size ≤ k ∧ k < w4.heap.size) := Lib.hid (fun k hk => ⟨by have h9 := (own_rng own4 k hk).1; (try simp at h9); omega, (own_rng own4 k hk).2⟩)
  have OWA4 := Lib.hid own4
  clear rd_A4 own4
  go_wp2_with fail
  refine (profTimes_any A4 n c4 ps  _ HN.out (RDA4.out.below HLA4.out (by repeat (first | exact Below.refl _ _ | assumption | (refine bstep ?_ (below_drewN _ _)) | exact bstep (by assumption) (by assumption) | (refine bstep ?_ (below_alloc _ _)) | (refine bstep ?_ (by assumption)) | (refine Below.setCell ?_ (by simp <;> omega) _) | refine Below.drew ?_))) (lt_below HLA4.out (by repeat (first | exact Below.refl _ _ | assumption | (refine bstep ?_ (below_drewN _ _)) | exact bstep (by assumption) (by assumption) | (refine bstep ?_ (below_alloc _ _)) | (refine bstep ?_ (by assumption)) | (refine Below.setCell ?_ (by simp <;> omega) _) | refine Below.drew ?_)))).mono ?_
  rintro e w5 ⟨v5, rfl, own5, hb5⟩
  have hs5 := hb5.size
  (try simp at hs5)
  have hy5_0 : w.heap.size < w5.heap.size := by omega
  have hk5_0 := fun o => hb5.cell (p := ⟨w.heap.size, o, none⟩) (by first | omega | (simp <;> omega))
  have hg5_0 := fun o => hb5.frozen (p := ⟨w.heap.size, o, none⟩) (by first | omega | (simp <;> omega))
  have hy5_1 : w4.heap.size < w5.heap.size := by omega
  have hk5_1 := fun o => hb5.cell (p := ⟨w4.heap.size, o, none⟩) (by first | omega | (simp <;> omega))
  have hg5_1 := fun o => hb5.frozen (p := ⟨w4.heap.size, o, none⟩) (by first | omega | (simp <;> omega))
  obtain ⟨A5, c5, rfl, rd_A5⟩ := own_rd own5
  have RDA5 := Lib.hid rd_A5
  have HLA5 := Lib.hid (own_blk own5)
  have RGA5 : Hid (∀ k, atB A5 k → w4.heap.size + 1 ≤ k ∧ k < w5.heap.size) := Lib.hid (fun k hk => ⟨by have h9 := (own_rng own5 k hk).1; (try simp at h9); omega, (own_rng own5 k hk).2⟩)
  have OWA5 := Lib.hid own5
  clear rd_A5 own5
  go_wp2_with fail
  refine (eqIntS_any A5 A3 _ c5 c3 (tmsV ps) _ HLE.out (RDA5.out.below HLA5.out (by repeat (first | exact Below.refl _ _ | assumption | (refine bstep ?_ (below_drewN _ _)) | exact bstep (by assumption) (by assumption) | (refine bstep ?_ (below_alloc _ _)) | (refine bstep ?_ (by assumption)) | (refine Below.setCell ?_ (by simp <;> omega) _) | refine Below.drew ?_))) (RDA3.out.below HLA3.out (by repeat (first | exact Below.refl _ _ | assumption | (refine bstep ?_ (below_drewN _ _)) | exact bstep (by assumption) (by assumption) | (refine bstep ?_ (below_alloc _ _)) | (refine bstep ?_ (by assumption)) | (refine Below.setCell ?_ (by simp <;> omega) _) | refine Below.drew ?_)))).mono ?_
  rintro e w6 ⟨rfl, k6, hw6⟩
  have hb6 := below_eqN hw6
  clear hw6
  have hs6 := hb6.size
  (try simp at hs6)
  have hy6_0 : w.heap.size < w6.heap.size := by omega
  have hk6_0 := fun o => hb6.cell (p := ⟨w.heap.size, o, none⟩) (by first | omega | (simp <;> omega))
  have hg6_0 := fun o => hb6.frozen (p := ⟨w.heap.size, o, none⟩) (by first | omega | (simp <;> omega))
  have hy6_1 : w4.heap.size < w6.heap.size := by omega
  have hk6_1 := fun o => hb6.cell (p := ⟨w4.heap.size, o, none⟩) (by first | omega | (simp <;> omega))
  have hg6_1 := fun o => hb6.frozen (p := ⟨w4.heap.size, o, none⟩) (by first | omega | (simp <;> omega))
  go_wp2_with fail
  go_region_held3 (fun w' => w'.cell? ⟨w.heap.size, 0, none⟩ = some (.slice A n c) ∧ w'.cell? ⟨w4.heap.size, 0, none⟩ = some (.slice A4 n c4)) (simp [go_sem, *, World.cell?_alloc_some, World.cell?_setCell_far, Nat.lt_add_right, Nat.ne_of_gt]) (first | (go_at_call 31; refine (toProf_any A n c ps _ HN.out (HR.out.below (by repeat (first | exact Below.refl _ _ | assumption | (refine bstep ?_ (below_drewN _ _)) | exact bstep (by assumption) (by assumption) | (refine bstep ?_ (below_alloc _ _)) | (refine bstep ?_ (by assumption)) | (refine Below.setCell ?_ (by simp <;> omega) _) | refine Below.drew ?_ | (refine Below.trans ?_ (by assumption)))))).mono ?_; rintro e w7 ⟨v7, rfl, own7, hb7⟩; have hs7 := hb7.size; (try simp at hs7); have hy7_0 : w.heap.size < w7.heap.size := (by omega); have hk7_0 := fun o => hb7.cell (p := ⟨w.heap.size, o, none⟩) (by first | omega | (simp <;> omega)); have hg7_0 := fun o => hb7.frozen (p := ⟨w.heap.size, o, none⟩) (by first | omega | (simp <;> omega)); have hy7_1 : w4.heap.size < w7.heap.size := (by omega); have hk7_1 := fun o => hb7.cell (p := ⟨w4.heap.size, o, none⟩) (by first | omega | (simp <;> omega)); have hg7_1 := fun o => hb7.frozen (p := ⟨w4.heap.size, o, none⟩) (by first | omega | (simp <;> omega)); obtain ⟨A7, c7, rfl, rd_A7⟩ := own_rd own7; have RDA7 := Lib.hid rd_A7; have HLA7 := Lib.hid (own_blk own7); have OWA7 := Lib.hid own7; clear rd_A7 own7) | (go_at_call 33; refine (eqProf_any A4 A7 n c4 c7 ps _ (Nat.le_succ_of_le HN.out) (RDA4.out.below HLA4.out (by repeat (first | exact Below.refl _ _ | assumption | (refine bstep ?_ (below_drewN _ _)) | exact bstep (by assumption) (by assumption) | (refine bstep ?_ (below_alloc _ _)) | (refine bstep ?_ (by assumption)) | (refine Below.setCell ?_ (by simp <;> omega) _) | refine Below.drew ?_))) RDA7.out (lt_below HLA4.out (by repeat (first | exact Below.refl _ _ | assumption | (refine bstep ?_ (below_drewN _ _)) | exact bstep (by assumption) (by assumption) | (refine bstep ?_ (below_alloc _ _)) | (refine bstep ?_ (by assumption)) | (refine Below.setCell ?_ (by simp <;> omega) _) | refine Below.drew ?_))) HLA7.out).mono ?_; rintro e w8 ⟨rfl, hb8⟩; have hs8 := hb8.size; (try simp at hs8); have hy8_0 : w.heap.size < w8.heap.size := (by omega); have hk8_0 := fun o => hb8.cell (p := ⟨w.heap.size, o, none⟩) (by first | omega | (simp <;> omega)); have hg8_0 := fun o => hb8.frozen (p := ⟨w.heap.size, o, none⟩) (by first | omega | (simp <;> omega)); have hy8_1 : w4.heap.size < w8.heap.size := (by omega); have hk8_1 := fun o => hb8.cell (p := ⟨w4.heap.size, o, none⟩) (by first | omega | (simp <;> omega)); have hg8_1 := fun o => hb8.frozen (p := ⟨w4.heap.size, o, none⟩) (by first | omega | (simp <;> omega))))
  go_wp2_with fail
  refine (markProf_any A4 n c4 _ 1 _ (Nat.le_succ_of_le HN.out) (by omega) (by omega) ((own_wr2 OWA4.out).below (by repeat (first | exact Below.refl _ _ | assumption | (refine bstep ?_ (below_drewN _ _)) | exact bstep (by assumption) (by assumption) | (refine bstep ?_ (below_alloc _ _)) | (refine bstep ?_ (by assumption)) | (refine Below.setCell ?_ (by simp <;> omega) _) | refine Below.drew ?_)))).mono ?_
  rintro e w9 ⟨rfl, rd9, fr9⟩
  have hs9 := fr9.size
  (try simp at hs9)
  have hB9 : Below w.heap.size _ w9 := fr9.below (fun k hk => by have q9 := RGA4.out _ hk; omega) (by first | omega | (simp <;> omega))
  have hy9_0 : w.heap.size < w9.heap.size := by omega
  have hk9_0 := fun o => fr9.cell (b := w.heap.size) (by first | omega | (simp <;> omega)) (fun h => by have q9 := RGA4.out _ h; omega) o
  have hg9_0 := fun o => fr9.frozen (b := w.heap.size) (by first | omega | (simp <;> omega)) (fun h => by have q9 := RGA4.out _ h; omega) o
  have hy9_1 : w4.heap.size < w9.heap.size := by omega
  have hk9_1 := fun o => fr9.cell (b := w4.heap.size) (by first | omega | (simp <;> omega)) (fun h => by have q9 := RGA4.out _ h; omega) o
  have hg9_1 := fun o => fr9.frozen (b := w4.heap.size) (by first | omega | (simp <;> omega)) (fun h => by have q9 := RGA4.out _ h; omega) o
  have RDA3_9 := Lib.hid (Rd.fr (RDA3.out.below HLA3.out (by repeat (first | exact Below.refl _ _ | assumption | (refine bstep ?_ (below_drewN _ _)) | exact bstep (by assumption) (by assumption) | (refine bstep ?_ (below_alloc _ _)) | (refine bstep ?_ (by assumption)) | (refine Below.setCell ?_ (by simp <;> omega) _) | refine Below.drew ?_))) (lt_below HLA3.out (by repeat (first | exact Below.refl _ _ | assumption | (refine bstep ?_ (below_drewN _ _)) | exact bstep (by assumption) (by assumption) | (refine bstep ?_ (below_alloc _ _)) | (refine bstep ?_ (by assumption)) | (refine Below.setCell ?_ (by simp <;> omega) _) | refine Below.drew ?_))) fr9 (fun k h1 h2 => by have q1 := RGA3.out k h1; have q9 := RGA4.out _ h2; omega))
  have HLA3_9 := Lib.hid (lt_fr (lt_below HLA3.out (by repeat (first | exact Below.refl _ _ | assumption | (refine bstep ?_ (below_drewN _ _)) | exact bstep (by assumption) (by assumption) | (refine bstep ?_ (below_alloc _ _)) | (refine bstep ?_ (by assumption)) | (refine Below.setCell ?_ (by simp <;> omega) _) | refine Below.drew ?_))) fr9)
  have WRA3_9 := Lib.hid (Wr.fr ((own_wr2 OWA3.out).below (by repeat (first | exact Below.refl _ _ | assumption | (refine bstep ?_ (below_drewN _ _)) | exact bstep (by assumption) (by assumption) | (refine bstep ?_ (below_alloc _ _)) | (refine bstep ?_ (by assumption)) | (refine Below.setCell ?_ (by simp <;> omega) _) | refine Below.drew ?_))) fr9 (fun k h1 h2 => by have q1 := RGA3.out k h1; have q9 := RGA4.out _ h2; omega))
  have RDA5_9 := Lib.hid (Rd.fr (RDA5.out.below HLA5.out (by repeat (first | exact Below.refl _ _ | assumption | (refine bstep ?_ (below_drewN _ _)) | exact bstep (by assumption) (by assumption) | (refine bstep ?_ (below_alloc _ _)) | (refine bstep ?_ (by assumption)) | (refine Below.setCell ?_ (by simp <;> omega) _) | refine Below.drew ?_))) (lt_below HLA5.out (by repeat (first | exact Below.refl _ _ | assumption | (refine bstep ?_ (below_drewN _ _)) | exact bstep (by assumption) (by assumption) | (refine bstep ?_ (below_alloc _ _)) | (refine bstep ?_ (by assumption)) | (refine Below.setCell ?_ (by simp <;> omega) _) | refine Below.drew ?_))) fr9 (fun k h1 h2 => by have q1 := RGA5.out k h1; have q9 := RGA4.out _ h2; omega))
  have HLA5_9 := Lib.hid (lt_fr (lt_below HLA5.out (by repeat (first | exact Below.refl _ _ | assumption | (refine bstep ?_ (below_drewN _ _)) | exact bstep (by assumption) (by assumption) | (refine bstep ?_ (below_alloc _ _)) | (refine bstep ?_ (by assumption)) | (refine Below.setCell ?_ (by simp <;> omega) _) | refine Below.drew ?_))) fr9)
  have WRA5_9 := Lib.hid (Wr.fr ((own_wr2 OWA5.out).below (by repeat (first | exact Below.refl _ _ | assumption | (refine bstep ?_ (below_drewN _ _)) | exact bstep (by assumption) (by assumption) | (refine bstep ?_ (below_alloc _ _)) | (refine bstep ?_ (by assumption)) | (refine Below.setCell ?_ (by simp <;> omega) _) | refine Below.drew ?_))) fr9 (fun k h1 h2 => by have q1 := RGA5.out k h1; have q9 := RGA4.out _ h2; omega))
  have RMA4 := Lib.hid rd9
  have HLA4_9 := Lib.hid (lt_fr (lt_below HLA4.out (by repeat (first | exact Below.refl _ _ | assumption | (refine bstep ?_ (below_drewN _ _)) | exact bstep (by assumption) (by assumption) | (refine bstep ?_ (below_alloc _ _)) | (refine bstep ?_ (by assumption)) | (refine Below.setCell ?_ (by simp <;> omega) _) | refine Below.drew ?_))) fr9)
  clear rd9
  go_wp2_with fail
  refine (eqIntS_any A5 A3 _ c5 c3 (tmsV ps) _ HLE.out (RDA5_9.out.below HLA5_9.out (by repeat (first | exact Below.refl _ _ | assumption | (refine bstep ?_ (below_drewN _ _)) | exact bstep (by assumption) (by assumption) | (refine bstep ?_ (below_alloc _ _)) | (refine bstep ?_ (by assumption)) | (refine Below.setCell ?_ (by simp <;> omega) _) | refine Below.drew ?_))) (RDA3_9.out.below HLA3_9.out (by repeat (first | exact Below.refl _ _ | assumption | (refine bstep ?_ (below_drewN _ _)) | exact bstep (by assumption) (by assumption) | (refine bstep ?_ (below_alloc _ _)) | (refine bstep ?_ (by assumption)) | (refine Below.setCell ?_ (by simp <;> omega) _) | refine Below.drew ?_)))).mono ?_
  rintro e w10 ⟨rfl, k10, hw10⟩
  have hb10 := below_eqN hw10
  clear hw10
  have hs10 := hb10.size
  (try simp at hs10)
  have hy10_0 : w.heap.size < w10.heap.size := by omega
  have hk10_0 := fun o => hb10.cell (p := ⟨w.heap.size, o, none⟩) (by first | omega | (simp <;> omega))
  have hg10_0 := fun o => hb10.frozen (p := ⟨w.heap.size, o, none⟩) (by first | omega | (simp <;> omega))
  have hy10_1 : w4.heap.size < w10.heap.size := by omega
  have hk10_1 := fun o => hb10.cell (p := ⟨w4.heap.size, o, none⟩) (by first | omega | (simp <;> omega))
  have hg10_1 := fun o => hb10.frozen (p := ⟨w4.heap.size, o, none⟩) (by first | omega | (simp <;> omega))
  go_wp2_with fail
  refine (markIntF A5 _ c5 _ 1 _ HLE.out (by omega) (by omega) ((WRA5_9.out).below (by repeat (first | exact Below.refl _ _ | assumption | (refine bstep ?_ (below_drewN _ _)) | exact bstep (by assumption) (by assumption) | (refine bstep ?_ (below_alloc _ _)) | (refine bstep ?_ (by assumption)) | (refine Below.setCell ?_ (by simp <;> omega) _) | refine Below.drew ?_)))).mono ?_
  rintro e w11 ⟨rfl, rd11, fr11⟩
  have hs11 := fr11.size
  (try simp at hs11)
  have hB11 : Below w.heap.size _ w11 := fr11.below (fun k hk => by have q9 := RGA5.out _ hk; omega) (by first | omega | (simp <;> omega))
  have hy11_0 : w.heap.size < w11.heap.size := by omega
  have hk11_0 := fun o => fr11.cell (b := w.heap.size) (by first | omega | (simp <;> omega)) (fun h => by have q9 := RGA5.out _ h; omega) o
  have hg11_0 := fun o => fr11.frozen (b := w.heap.size) (by first | omega | (simp <;> omega)) (fun h => by have q9 := RGA5.out _ h; omega) o
  have hy11_1 : w4.heap.size < w11.heap.size := by omega
  have hk11_1 := fun o => fr11.cell (b := w4.heap.size) (by first | omega | (simp <;> omega)) (fun h => by have q9 := RGA5.out _ h; omega) o
  have hg11_1 := fun o => fr11.frozen (b := w4.heap.size) (by first | omega | (simp <;> omega)) (fun h => by have q9 := RGA5.out _ h; omega) o
  have RDA3_11 := Lib.hid (Rd.fr (RDA3_9.out.below HLA3_9.out (by repeat (first | exact Below.refl _ _ | assumption | (refine bstep ?_ (below_drewN _ _)) | exact bstep (by assumption) (by assumption) | (refine bstep ?_ (below_alloc _ _)) | (refine bstep ?_ (by assumption)) | (refine Below.setCell ?_ (by simp <;> omega) _) | refine Below.drew ?_))) (lt_below HLA3_9.out (by repeat (first | exact Below.refl _ _ | assumption | (refine bstep ?_ (below_drewN _ _)) | exact bstep (by assumption) (by assumption) | (refine bstep ?_ (below_alloc _ _)) | (refine bstep ?_ (by assumption)) | (refine Below.setCell ?_ (by simp <;> omega) _) | refine Below.drew ?_))) fr11 (fun k h1 h2 => by have q1 := RGA3.out k h1; have q9 := RGA5.out _ h2; omega))
  have HLA3_11 := Lib.hid (lt_fr (lt_below HLA3_9.out (by repeat (first | exact Below.refl _ _ | assumption | (refine bstep ?_ (below_drewN _ _)) | exact bstep (by assumption) (by assumption) | (refine bstep ?_ (below_alloc _ _)) | (refine bstep ?_ (by assumption)) | (refine Below.setCell ?_ (by simp <;> omega) _) | refine Below.drew ?_))) fr11)
  have WRA3_11 := Lib.hid (Wr.fr ((WRA3_9.out).below (by repeat (first | exact Below.refl _ _ | assumption | (refine bstep ?_ (below_drewN _ _)) | exact bstep (by assumption) (by assumption) | (refine bstep ?_ (below_alloc _ _)) | (refine bstep ?_ (by assumption)) | (refine Below.setCell ?_ (by simp <;> omega) _) | refine Below.drew ?_))) fr11 (fun k h1 h2 => by have q1 := RGA3.out k h1; have q9 := RGA5.out _ h2; omega))
  have RDA4_11 := Lib.hid (Rd.fr (RMA4.out.below HLA4_9.out (by repeat (first | exact Below.refl _ _ | assumption | (refine bstep ?_ (below_drewN _ _)) | exact bstep (by assumption) (by assumption) | (refine bstep ?_ (below_alloc _ _)) | (refine bstep ?_ (by assumption)) | (refine Below.setCell ?_ (by simp <;> omega) _) | refine Below.drew ?_))) (lt_below HLA4_9.out (by repeat (first | exact Below.refl _ _ | assumption | (refine bstep ?_ (below_drewN _ _)) | exact bstep (by assumption) (by assumption) | (refine bstep ?_ (below_alloc _ _)) | (refine bstep ?_ (by assumption)) | (refine Below.setCell ?_ (by simp <;> omega) _) | refine Below.drew ?_))) fr11 (fun k h1 h2 => by have q1 := RGA4.out k h1; have q9 := RGA5.out _ h2; omega))
  have HLA4_11 := Lib.hid (lt_fr (lt_below HLA4_9.out (by repeat (first | exact Below.refl _ _ | assumption | (refine bstep ?_ (below_drewN _ _)) | exact bstep (by assumption) (by assumption) | (refine bstep ?_ (below_alloc _ _)) | (refine bstep ?_ (by assumption)) | (refine Below.setCell ?_ (by simp <;> omega) _) | refine Below.drew ?_))) fr11)
  have RMA5 := Lib.hid rd11
  have HLA5_11 := Lib.hid (lt_fr (lt_below HLA5_9.out (by repeat (first | exact Below.refl _ _ | assumption | (refine bstep ?_ (below_drewN _ _)) | exact bstep (by assumption) (by assumption) | (refine bstep ?_ (below_alloc _ _)) | (refine bstep ?_ (by assumption)) | (refine Below.setCell ?_ (by simp <;> omega) _) | refine Below.drew ?_))) fr11)
  clear rd11
  go_wp2_with fail
  refine (heldInt_any A5 _ c5 1 _ HLE.out (by omega) (by omega) (RMA5.out.below HLA5_11.out (by repeat (first | exact Below.refl _ _ | assumption | (refine bstep ?_ (below_drewN _ _)) | exact bstep (by assumption) (by assumption) | (refine bstep ?_ (below_alloc _ _)) | (refine bstep ?_ (by assumption)) | (refine Below.setCell ?_ (by simp <;> omega) _) | refine Below.drew ?_)))).mono ?_
  rintro e w12 ⟨rfl, hw12⟩
  have hb12 := below_same hw12
  clear hw12
  have hs12 := hb12.size
  (try simp at hs12)
  have hy12_0 : w.heap.size < w12.heap.size := by omega
  have hk12_0 := fun o => hb12.cell (p := ⟨w.heap.size, o, none⟩) (by first | omega | (simp <;> omega))
  have hg12_0 := fun o => hb12.frozen (p := ⟨w.heap.size, o, none⟩) (by first | omega | (simp <;> omega))
  have hy12_1 : w4.heap.size < w12.heap.size := by omega
  have hk12_1 := fun o => hb12.cell (p := ⟨w4.heap.size, o, none⟩) (by first | omega | (simp <;> omega))
  have hg12_1 := fun o => hb12.frozen (p := ⟨w4.heap.size, o, none⟩) (by first | omega | (simp <;> omega))
  go_wp2_with fail
  refine (toProf_any A n c ps _ HN.out (HR.out.below (by repeat (first | exact Below.refl _ _ | assumption | (refine bstep ?_ (below_drewN _ _)) | exact bstep (by assumption) (by assumption) | (refine bstep ?_ (below_alloc _ _)) | (refine bstep ?_ (by assumption)) | (refine Below.setCell ?_ (by simp <;> omega) _) | refine Below.drew ?_ | (refine Below.trans ?_ (by assumption)))))).mono ?_
  rintro e w13 ⟨v13, rfl, own13, hb13⟩
  have hs13 := hb13.size
  (try simp at hs13)
  have hy13_0 : w.heap.size < w13.heap.size := by omega
  have hk13_0 := fun o => hb13.cell (p := ⟨w.heap.size, o, none⟩) (by first | omega | (simp <;> omega))
  have hg13_0 := fun o => hb13.frozen (p := ⟨w.heap.size, o, none⟩) (by first | omega | (simp <;> omega))
  have hy13_1 : w4.heap.size < w13.heap.size := by omega
  have hk13_1 := fun o => hb13.cell (p := ⟨w4.heap.size, o, none⟩) (by first | omega | (simp <;> omega))
  have hg13_1 := fun o => hb13.frozen (p := ⟨w4.heap.size, o, none⟩) (by first | omega | (simp <;> omega))
  obtain ⟨A13, c13, rfl, rd_A13⟩ := own_rd own13
  have RDA13 := Lib.hid rd_A13
  have HLA13 := Lib.hid (own_blk own13)
  have RGA13 : Hid (∀ k, atB A13 k → w12.heap.size ≤ k ∧ k < w13.heap.size) := Lib.hid (fun k hk => ⟨by have h9 := (own_rng own13 k hk).1; (try simp at h9); omega, (own_rng own13 k hk).2⟩)
  have OWA13 := Lib.hid own13
  clear rd_A13 own13
  go_wp2_with fail
  refine (profTimes_any A13 n c13 ps  _ HN.out RDA13.out HLA13.out).mono ?_
  rintro e w14 ⟨v14, rfl, own14, hb14⟩
  have hs14 := hb14.size
  (try simp at hs14)
  have hy14_0 : w.heap.size < w14.heap.size := by omega
  have hk14_0 := fun o => hb14.cell (p := ⟨w.heap.size, o, none⟩) (by first | omega | (simp <;> omega))
  have hg14_0 := fun o => hb14.frozen (p := ⟨w.heap.size, o, none⟩) (by first | omega | (simp <;> omega))
  have hy14_1 : w4.heap.size < w14.heap.size := by omega
  have hk14_1 := fun o => hb14.cell (p := ⟨w4.heap.size, o, none⟩) (by first | omega | (simp <;> omega))
  have hg14_1 := fun o => hb14.frozen (p := ⟨w4.heap.size, o, none⟩) (by first | omega | (simp <;> omega))
  obtain ⟨A14, c14, rfl, rd_A14⟩ := own_rd own14
  have RDA14 := Lib.hid rd_A14
  have HLA14 := Lib.hid (own_blk own14)
  have RGA14 : Hid (∀ k, atB A14 k → w13.heap.size ≤ k ∧ k < w14.heap.size) := Lib.hid (fun k hk => ⟨by have h9 := (own_rng own14 k hk).1; (try simp at h9); omega, (own_rng own14 k hk).2⟩)
  have OWA14 := Lib.hid own14
  clear rd_A14 own14
  go_wp2_with fail
  refine (eqIntS_any A14 A3 _ c14 c3 (tmsV ps) _ HLE.out (RDA14.out.below HLA14.out (by repeat (first | exact Below.refl _ _ | assumption | (refine bstep ?_ (below_drewN _ _)) | exact bstep (by assumption) (by assumption) | (refine bstep ?_ (below_alloc _ _)) | (refine bstep ?_ (by assumption)) | (refine Below.setCell ?_ (by simp <;> omega) _) | refine Below.drew ?_))) (RDA3_11.out.below HLA3_11.out (by repeat (first | exact Below.refl _ _ | assumption | (refine bstep ?_ (below_drewN _ _)) | exact bstep (by assumption) (by assumption) | (refine bstep ?_ (below_alloc _ _)) | (refine bstep ?_ (by assumption)) | (refine Below.setCell ?_ (by simp <;> omega) _) | refine Below.drew ?_)))).mono ?_
  rintro e w15 ⟨rfl, k15, hw15⟩
  have hb15 := below_eqN hw15
  clear hw15
  have hs15 := hb15.size
  (try simp at hs15)
  have hy15_0 : w.heap.size < w15.heap.size := by omega
  have hk15_0 := fun o => hb15.cell (p := ⟨w.heap.size, o, none⟩) (by first | omega | (simp <;> omega))
  have hg15_0 := fun o => hb15.frozen (p := ⟨w.heap.size, o, none⟩) (by first | omega | (simp <;> omega))
  have hy15_1 : w4.heap.size < w15.heap.size := by omega
  have hk15_1 := fun o => hb15.cell (p := ⟨w4.heap.size, o, none⟩) (by first | omega | (simp <;> omega))
  have hg15_1 := fun o => hb15.frozen (p := ⟨w4.heap.size, o, none⟩) (by first | omega | (simp <;> omega))
  go_wp2_with fail
  refine (heldInt_any A5 _ c5 1 _ HLE.out (by omega) (by omega) (RMA5.out.below HLA5_11.out (by repeat (first | exact Below.refl _ _ | assumption | (refine bstep ?_ (below_drewN _ _)) | exact bstep (by assumption) (by assumption) | (refine bstep ?_ (below_alloc _ _)) | (refine bstep ?_ (by assumption)) | (refine Below.setCell ?_ (by simp <;> omega) _) | refine Below.drew ?_)))).mono ?_
  rintro e w16 ⟨rfl, hw16⟩
  have hb16 := below_same hw16
  clear hw16
  have hs16 := hb16.size
  (try simp at hs16)
  have hy16_0 : w.heap.size < w16.heap.size := by omega
  have hk16_0 := fun o => hb16.cell (p := ⟨w.heap.size, o, none⟩) (by first | omega | (simp <;> omega))
  have hg16_0 := fun o => hb16.frozen (p := ⟨w.heap.size, o, none⟩) (by first | omega | (simp <;> omega))
  have hy16_1 : w4.heap.size < w16.heap.size := by omega
  have hk16_1 := fun o => hb16.cell (p := ⟨w4.heap.size, o, none⟩) (by first | omega | (simp <;> omega))
  have hg16_1 := fun o => hb16.frozen (p := ⟨w4.heap.size, o, none⟩) (by first | omega | (simp <;> omega))
  go_wp2
  go_ret
  exact ⟨rfl, (by repeat (first | exact Below.refl _ _ | assumption | (refine bstep ?_ (below_drewN _ _)) | exact bstep (by assumption) (by assumption) | (refine bstep ?_ (below_alloc _ _)) | (refine bstep ?_ (by assumption)) | (refine Below.setCell ?_ (by simp <;> omega) _) | refine Below.drew ?_ | (refine Below.trans ?_ (by assumption))))⟩
theorem law_profTimes (A : Option Addr) (n c : Nat) (ps : List Q)  (w : World) (hn : n ≤ maxLen) (hr : RdE w A n ps) :
    Calls Try.prog 10 #[.agg #[.slice A n c]] w fun e w' => e = .returned (.bool true) ∧ Below w.heap.size w w' := by
  by_cases h : n ≤ 1048576
  · exact law_profTimes_small A n c ps  w h hr
  · exact law_profTimes_big A n c  w hn h
end Go.Proofs.Ytjnfdcojccgfoaa
