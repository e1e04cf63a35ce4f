import Derived.Test.YtjnfdcojccgfoaaQa
import Derived.Test.YtjnfdcojccgfoaaMa
namespace Go.Proofs.Ytjnfdcojccgfoaa
set_option linter.unusedSimpArgs false
set_option linter.unusedVariables false
set_option linter.unnecessarySimpa false
open Go.RowKit
theorem newP_len (v : V) : (newP v).length ≤ 1 := by unfold newP; split <;> simp

set_option maxHeartbeats 4000000 in
theorem law_profNew (v : V) (w : World) :
    Calls Try.prog 5 #[.agg #[.int .i64 v.A, .int .i64 v.B, .int .i64 v.C]] w fun e w' => e = .returned (.bool true) ∧ Below w.heap.size w w' := by
  have HLE : Hid ((newP v).length ≤ 1048577) := Lib.hid (by have := newP_len v; omega)
  have hq0 : 0 ≤ 1 + 4 * ((newP v).length : Int) := by omega
  have hq1 : 0 ≤ 1 + 1 * ((newP v).length : Int) := by omega
  have hq3 : 0 ≤ 1 + ((newP v).length : Int) := by omega
  go_enter Try.func5, Try.ntmps5
  go_wp2_with fail
  refine (toVec_int v.A v.B v.C _).mono ?_
  rintro e w1 ⟨rfl, hb1⟩
  have hs1 := hb1.size
  (try simp at hs1)
  have hy1_0 : w.heap.size < w1.heap.size := by omega
  have hk1_0 := fun o => hb1.cell (p := ⟨w.heap.size, o, none⟩) (by first | omega | (simp <;> omega))
  have hg1_0 := fun o => hb1.frozen (p := ⟨w.heap.size, o, none⟩) (by first | omega | (simp <;> omega))
  go_wp2_with fail
  refine (sprofNew_any v _).mono ?_
  rintro e w2 ⟨v2, rfl, own2, hb2⟩
  have hs2 := hb2.size
  (try simp at hs2)
  have hy2_0 : w.heap.size < w2.heap.size := by omega
  have hk2_0 := fun o => hb2.cell (p := ⟨w.heap.size, o, none⟩) (by first | omega | (simp <;> omega))
  have hg2_0 := fun o => hb2.frozen (p := ⟨w.heap.size, o, none⟩) (by first | omega | (simp <;> omega))
  obtain ⟨A2, c2, rfl, rd_A2⟩ := own_rd own2
  have RDA2 := Lib.hid rd_A2
  have HLA2 := Lib.hid (own_blk own2)
  have RGA2 : Hid (∀ k, atB A2 k → w1.heap.size ≤ k ∧ k < w2.heap.size) := Lib.hid (fun k hk => ⟨by have h9 := (own_rng own2 k hk).1; (try simp at h9); omega, (own_rng own2 k hk).2⟩)
  have OWA2 := Lib.hid own2
  clear rd_A2 own2
  go_wp2_with fail
  refine (toVec_int v.A v.B v.C _).mono ?_
  rintro e w3 ⟨rfl, hb3⟩
  have hs3 := hb3.size
  (try simp at hs3)
  have hy3_0 : w.heap.size < w3.heap.size := by omega
  have hk3_0 := fun o => hb3.cell (p := ⟨w.heap.size, o, none⟩) (by first | omega | (simp <;> omega))
  have hg3_0 := fun o => hb3.frozen (p := ⟨w.heap.size, o, none⟩) (by first | omega | (simp <;> omega))
  have hy3_1 : w2.heap.size < w3.heap.size := by omega
  have hk3_1 := fun o => hb3.cell (p := ⟨w2.heap.size, o, none⟩) (by first | omega | (simp <;> omega))
  have hg3_1 := fun o => hb3.frozen (p := ⟨w2.heap.size, o, none⟩) (by first | omega | (simp <;> omega))
  go_wp2_with fail
  refine (profNew_any v _).mono ?_
  rintro e w4 ⟨v4, rfl, own4, hb4⟩
  have hs4 := hb4.size
  (try simp at hs4)
  have hy4_0 : w.heap.size < w4.heap.size := by omega
  have hk4_0 := fun o => hb4.cell (p := ⟨w.heap.size, o, none⟩) (by first | omega | (simp <;> omega))
  have hg4_0 := fun o => hb4.frozen (p := ⟨w.heap.size, o, none⟩) (by first | omega | (simp <;> omega))
  have hy4_1 : w2.heap.size < w4.heap.size := by omega
  have hk4_1 := fun o => hb4.cell (p := ⟨w2.heap.size, o, none⟩) (by first | omega | (simp <;> omega))
  have hg4_1 := fun o => hb4.frozen (p := ⟨w2.heap.size, o, none⟩) (by first | omega | (simp <;> omega))
  obtain ⟨A4, c4, rfl, rd_A4⟩ := own_rd own4
  have RDA4 := Lib.hid rd_A4
  have HLA4 := Lib.hid (own_blk own4)
  have RGA4 : Hid (∀ k, atB A4 k → w3.heap.size ≤ k ∧ k < w4.heap.size) := Lib.hid (fun k hk => ⟨by have h9 := (own_rng own4 k hk).1; (try simp at h9); omega, (own_rng own4 k hk).2⟩)
  have OWA4 := Lib.hid own4
  clear rd_A4 own4
  go_wp2_with fail
  refine (eqProf_any A4 A2 _ c4 c2 (newP v) _ HLE.out (RDA4.out.below HLA4.out (by repeat (first | exact Below.refl _ _ | assumption | (refine bstep ?_ (below_drewN _ _)) | exact bstep (by assumption) (by assumption) | (refine bstep ?_ (below_alloc _ _)) | (refine bstep ?_ (by assumption)) | (refine Below.setCell ?_ (by simp <;> omega) _) | refine Below.drew ?_))) (RDA2.out.below HLA2.out (by repeat (first | exact Below.refl _ _ | assumption | (refine bstep ?_ (below_drewN _ _)) | exact bstep (by assumption) (by assumption) | (refine bstep ?_ (below_alloc _ _)) | (refine bstep ?_ (by assumption)) | (refine Below.setCell ?_ (by simp <;> omega) _) | refine Below.drew ?_))) (lt_below HLA4.out (by repeat (first | exact Below.refl _ _ | assumption | (refine bstep ?_ (below_drewN _ _)) | exact bstep (by assumption) (by assumption) | (refine bstep ?_ (below_alloc _ _)) | (refine bstep ?_ (by assumption)) | (refine Below.setCell ?_ (by simp <;> omega) _) | refine Below.drew ?_))) (lt_below HLA2.out (by repeat (first | exact Below.refl _ _ | assumption | (refine bstep ?_ (below_drewN _ _)) | exact bstep (by assumption) (by assumption) | (refine bstep ?_ (below_alloc _ _)) | (refine bstep ?_ (by assumption)) | (refine Below.setCell ?_ (by simp <;> omega) _) | refine Below.drew ?_)))).mono ?_
  rintro e w5 ⟨rfl, hb5⟩
  have hs5 := hb5.size
  (try simp at hs5)
  have hy5_0 : w.heap.size < w5.heap.size := by omega
  have hk5_0 := fun o => hb5.cell (p := ⟨w.heap.size, o, none⟩) (by first | omega | (simp <;> omega))
  have hg5_0 := fun o => hb5.frozen (p := ⟨w.heap.size, o, none⟩) (by first | omega | (simp <;> omega))
  have hy5_1 : w2.heap.size < w5.heap.size := by omega
  have hk5_1 := fun o => hb5.cell (p := ⟨w2.heap.size, o, none⟩) (by first | omega | (simp <;> omega))
  have hg5_1 := fun o => hb5.frozen (p := ⟨w2.heap.size, o, none⟩) (by first | omega | (simp <;> omega))
  have hy5_2 : w4.heap.size < w5.heap.size := by omega
  have hk5_2 := fun o => hb5.cell (p := ⟨w4.heap.size, o, none⟩) (by first | omega | (simp <;> omega))
  have hg5_2 := fun o => hb5.frozen (p := ⟨w4.heap.size, o, none⟩) (by first | omega | (simp <;> omega))
  go_wp2_with fail
  refine (markProf_any A4 _ c4 _ 1 _ HLE.out (by omega) (by omega) ((own_wr2 OWA4.out).below (by repeat (first | exact Below.refl _ _ | assumption | (refine bstep ?_ (below_drewN _ _)) | exact bstep (by assumption) (by assumption) | (refine bstep ?_ (below_alloc _ _)) | (refine bstep ?_ (by assumption)) | (refine Below.setCell ?_ (by simp <;> omega) _) | refine Below.drew ?_)))).mono ?_
  rintro e w6 ⟨rfl, rd6, fr6⟩
  have hs6 := fr6.size
  (try simp at hs6)
  have hB6 : Below w.heap.size _ w6 := fr6.below (fun k hk => by have q9 := RGA4.out _ hk; omega) (by first | omega | (simp <;> omega))
  have hy6_0 : w.heap.size < w6.heap.size := by omega
  have hk6_0 := fun o => fr6.cell (b := w.heap.size) (by first | omega | (simp <;> omega)) (fun h => by have q9 := RGA4.out _ h; omega) o
  have hg6_0 := fun o => fr6.frozen (b := w.heap.size) (by first | omega | (simp <;> omega)) (fun h => by have q9 := RGA4.out _ h; omega) o
  have hy6_1 : w2.heap.size < w6.heap.size := by omega
  have hk6_1 := fun o => fr6.cell (b := w2.heap.size) (by first | omega | (simp <;> omega)) (fun h => by have q9 := RGA4.out _ h; omega) o
  have hg6_1 := fun o => fr6.frozen (b := w2.heap.size) (by first | omega | (simp <;> omega)) (fun h => by have q9 := RGA4.out _ h; omega) o
  have hy6_2 : w4.heap.size < w6.heap.size := by omega
  have hk6_2 := fun o => fr6.cell (b := w4.heap.size) (by first | omega | (simp <;> omega)) (fun h => by have q9 := RGA4.out _ h; omega) o
  have hg6_2 := fun o => fr6.frozen (b := w4.heap.size) (by first | omega | (simp <;> omega)) (fun h => by have q9 := RGA4.out _ h; omega) o
  have RDA2_6 := Lib.hid (Rd.fr (RDA2.out.below HLA2.out (by repeat (first | exact Below.refl _ _ | assumption | (refine bstep ?_ (below_drewN _ _)) | exact bstep (by assumption) (by assumption) | (refine bstep ?_ (below_alloc _ _)) | (refine bstep ?_ (by assumption)) | (refine Below.setCell ?_ (by simp <;> omega) _) | refine Below.drew ?_))) (lt_below HLA2.out (by repeat (first | exact Below.refl _ _ | assumption | (refine bstep ?_ (below_drewN _ _)) | exact bstep (by assumption) (by assumption) | (refine bstep ?_ (below_alloc _ _)) | (refine bstep ?_ (by assumption)) | (refine Below.setCell ?_ (by simp <;> omega) _) | refine Below.drew ?_))) fr6 (fun k h1 h2 => by have q1 := RGA2.out k h1; have q9 := RGA4.out _ h2; omega))
  have HLA2_6 := Lib.hid (lt_fr (lt_below HLA2.out (by repeat (first | exact Below.refl _ _ | assumption | (refine bstep ?_ (below_drewN _ _)) | exact bstep (by assumption) (by assumption) | (refine bstep ?_ (below_alloc _ _)) | (refine bstep ?_ (by assumption)) | (refine Below.setCell ?_ (by simp <;> omega) _) | refine Below.drew ?_))) fr6)
  have WRA2_6 := Lib.hid (Wr.fr ((own_wr2 OWA2.out).below (by repeat (first | exact Below.refl _ _ | assumption | (refine bstep ?_ (below_drewN _ _)) | exact bstep (by assumption) (by assumption) | (refine bstep ?_ (below_alloc _ _)) | (refine bstep ?_ (by assumption)) | (refine Below.setCell ?_ (by simp <;> omega) _) | refine Below.drew ?_))) fr6 (fun k h1 h2 => by have q1 := RGA2.out k h1; have q9 := RGA4.out _ h2; omega))
  have RMA4 := Lib.hid rd6
  have HLA4_6 := Lib.hid (lt_fr (lt_below HLA4.out (by repeat (first | exact Below.refl _ _ | assumption | (refine bstep ?_ (below_drewN _ _)) | exact bstep (by assumption) (by assumption) | (refine bstep ?_ (below_alloc _ _)) | (refine bstep ?_ (by assumption)) | (refine Below.setCell ?_ (by simp <;> omega) _) | refine Below.drew ?_))) fr6)
  clear rd6
  go_wp2_with fail
  refine (heldProf_any A4 _ c4 1 _ HLE.out (by omega) (by omega) (RMA4.out.below HLA4_6.out (by repeat (first | exact Below.refl _ _ | assumption | (refine bstep ?_ (below_drewN _ _)) | exact bstep (by assumption) (by assumption) | (refine bstep ?_ (below_alloc _ _)) | (refine bstep ?_ (by assumption)) | (refine Below.setCell ?_ (by simp <;> omega) _) | refine Below.drew ?_))) (lt_below HLA4_6.out (by repeat (first | exact Below.refl _ _ | assumption | (refine bstep ?_ (below_drewN _ _)) | exact bstep (by assumption) (by assumption) | (refine bstep ?_ (below_alloc _ _)) | (refine bstep ?_ (by assumption)) | (refine Below.setCell ?_ (by simp <;> omega) _) | refine Below.drew ?_)))).mono ?_
  rintro e w7 ⟨rfl, hb7⟩
  have hs7 := hb7.size
  (try simp at hs7)
  have hy7_0 : w.heap.size < w7.heap.size := by omega
  have hk7_0 := fun o => hb7.cell (p := ⟨w.heap.size, o, none⟩) (by first | omega | (simp <;> omega))
  have hg7_0 := fun o => hb7.frozen (p := ⟨w.heap.size, o, none⟩) (by first | omega | (simp <;> omega))
  have hy7_1 : w2.heap.size < w7.heap.size := by omega
  have hk7_1 := fun o => hb7.cell (p := ⟨w2.heap.size, o, none⟩) (by first | omega | (simp <;> omega))
  have hg7_1 := fun o => hb7.frozen (p := ⟨w2.heap.size, o, none⟩) (by first | omega | (simp <;> omega))
  have hy7_2 : w4.heap.size < w7.heap.size := by omega
  have hk7_2 := fun o => hb7.cell (p := ⟨w4.heap.size, o, none⟩) (by first | omega | (simp <;> omega))
  have hg7_2 := fun o => hb7.frozen (p := ⟨w4.heap.size, o, none⟩) (by first | omega | (simp <;> omega))
  go_wp2_with fail
  refine (toVec_int v.A v.B v.C _).mono ?_
  rintro e w8 ⟨rfl, hb8⟩
  have hs8 := hb8.size
  (try simp at hs8)
  have hy8_0 : w.heap.size < w8.heap.size := by omega
  have hk8_0 := fun o => hb8.cell (p := ⟨w.heap.size, o, none⟩) (by first | omega | (simp <;> omega))
  have hg8_0 := fun o => hb8.frozen (p := ⟨w.heap.size, o, none⟩) (by first | omega | (simp <;> omega))
  have hy8_1 : w2.heap.size < w8.heap.size := by omega
  have hk8_1 := fun o => hb8.cell (p := ⟨w2.heap.size, o, none⟩) (by first | omega | (simp <;> omega))
  have hg8_1 := fun o => hb8.frozen (p := ⟨w2.heap.size, o, none⟩) (by first | omega | (simp <;> omega))
  have hy8_2 : w4.heap.size < w8.heap.size := by omega
  have hk8_2 := fun o => hb8.cell (p := ⟨w4.heap.size, o, none⟩) (by first | omega | (simp <;> omega))
  have hg8_2 := fun o => hb8.frozen (p := ⟨w4.heap.size, o, none⟩) (by first | omega | (simp <;> omega))
  go_wp2_with fail
  refine (profNew_any v _).mono ?_
  rintro e w9 ⟨v9, rfl, own9, hb9⟩
  have hs9 := hb9.size
  (try simp at hs9)
  have hy9_0 : w.heap.size < w9.heap.size := by omega
  have hk9_0 := fun o => hb9.cell (p := ⟨w.heap.size, o, none⟩) (by first | omega | (simp <;> omega))
  have hg9_0 := fun o => hb9.frozen (p := ⟨w.heap.size, o, none⟩) (by first | omega | (simp <;> omega))
  have hy9_1 : w2.heap.size < w9.heap.size := by omega
  have hk9_1 := fun o => hb9.cell (p := ⟨w2.heap.size, o, none⟩) (by first | omega | (simp <;> omega))
  have hg9_1 := fun o => hb9.frozen (p := ⟨w2.heap.size, o, none⟩) (by first | omega | (simp <;> omega))
  have hy9_2 : w4.heap.size < w9.heap.size := by omega
  have hk9_2 := fun o => hb9.cell (p := ⟨w4.heap.size, o, none⟩) (by first | omega | (simp <;> omega))
  have hg9_2 := fun o => hb9.frozen (p := ⟨w4.heap.size, o, none⟩) (by first | omega | (simp <;> omega))
  obtain ⟨A9, c9, rfl, rd_A9⟩ := own_rd own9
  have RDA9 := Lib.hid rd_A9
  have HLA9 := Lib.hid (own_blk own9)
  have RGA9 : Hid (∀ k, atB A9 k → w8.heap.size ≤ k ∧ k < w9.heap.size) := Lib.hid (fun k hk => ⟨by have h9 := (own_rng own9 k hk).1; (try simp at h9); omega, (own_rng own9 k hk).2⟩)
  have OWA9 := Lib.hid own9
  clear rd_A9 own9
  go_wp2_with fail
  refine (eqProf_any A9 A2 _ c9 c2 (newP v) _ HLE.out (RDA9.out.below HLA9.out (by repeat (first | exact Below.refl _ _ | assumption | (refine bstep ?_ (below_drewN _ _)) | exact bstep (by assumption) (by assumption) | (refine bstep ?_ (below_alloc _ _)) | (refine bstep ?_ (by assumption)) | (refine Below.setCell ?_ (by simp <;> omega) _) | refine Below.drew ?_))) (RDA2_6.out.below HLA2_6.out (by repeat (first | exact Below.refl _ _ | assumption | (refine bstep ?_ (below_drewN _ _)) | exact bstep (by assumption) (by assumption) | (refine bstep ?_ (below_alloc _ _)) | (refine bstep ?_ (by assumption)) | (refine Below.setCell ?_ (by simp <;> omega) _) | refine Below.drew ?_))) (lt_below HLA9.out (by repeat (first | exact Below.refl _ _ | assumption | (refine bstep ?_ (below_drewN _ _)) | exact bstep (by assumption) (by assumption) | (refine bstep ?_ (below_alloc _ _)) | (refine bstep ?_ (by assumption)) | (refine Below.setCell ?_ (by simp <;> omega) _) | refine Below.drew ?_))) (lt_below HLA2_6.out (by repeat (first | exact Below.refl _ _ | assumption | (refine bstep ?_ (below_drewN _ _)) | exact bstep (by assumption) (by assumption) | (refine bstep ?_ (below_alloc _ _)) | (refine bstep ?_ (by assumption)) | (refine Below.setCell ?_ (by simp <;> omega) _) | refine Below.drew ?_)))).mono ?_
  rintro e w10 ⟨rfl, hb10⟩
  have hs10 := hb10.size
  (try simp at hs10)
  have hy10_0 : w.heap.size < w10.heap.size := by omega
  have hk10_0 := fun o => hb10.cell (p := ⟨w.heap.size, o, none⟩) (by first | omega | (simp <;> omega))
  have hg10_0 := fun o => hb10.frozen (p := ⟨w.heap.size, o, none⟩) (by first | omega | (simp <;> omega))
  have hy10_1 : w2.heap.size < w10.heap.size := by omega
  have hk10_1 := fun o => hb10.cell (p := ⟨w2.heap.size, o, none⟩) (by first | omega | (simp <;> omega))
  have hg10_1 := fun o => hb10.frozen (p := ⟨w2.heap.size, o, none⟩) (by first | omega | (simp <;> omega))
  have hy10_2 : w4.heap.size < w10.heap.size := by omega
  have hk10_2 := fun o => hb10.cell (p := ⟨w4.heap.size, o, none⟩) (by first | omega | (simp <;> omega))
  have hg10_2 := fun o => hb10.frozen (p := ⟨w4.heap.size, o, none⟩) (by first | omega | (simp <;> omega))
  have hy10_3 : w9.heap.size < w10.heap.size := by omega
  have hk10_3 := fun o => hb10.cell (p := ⟨w9.heap.size, o, none⟩) (by first | omega | (simp <;> omega))
  have hg10_3 := fun o => hb10.frozen (p := ⟨w9.heap.size, o, none⟩) (by first | omega | (simp <;> omega))
  go_wp2_with fail
  refine (heldProf_any A4 _ c4 1 _ HLE.out (by omega) (by omega) (RMA4.out.below HLA4_6.out (by repeat (first | exact Below.refl _ _ | assumption | (refine bstep ?_ (below_drewN _ _)) | exact bstep (by assumption) (by assumption) | (refine bstep ?_ (below_alloc _ _)) | (refine bstep ?_ (by assumption)) | (refine Below.setCell ?_ (by simp <;> omega) _) | refine Below.drew ?_))) (lt_below HLA4_6.out (by repeat (first | exact Below.refl _ _ | assumption | (refine bstep ?_ (below_drewN _ _)) | exact bstep (by assumption) (by assumption) | (refine bstep ?_ (below_alloc _ _)) | (refine bstep ?_ (by assumption)) | (refine Below.setCell ?_ (by simp <;> omega) _) | refine Below.drew ?_)))).mono ?_
  rintro e w11 ⟨rfl, hb11⟩
  have hs11 := hb11.size
  (try simp at hs11)
  have hy11_0 : w.heap.size < w11.heap.size := by omega
  have hk11_0 := fun o => hb11.cell (p := ⟨w.heap.size, o, none⟩) (by first | omega | (simp <;> omega))
  have hg11_0 := fun o => hb11.frozen (p := ⟨w.heap.size, o, none⟩) (by first | omega | (simp <;> omega))
  have hy11_1 : w2.heap.size < w11.heap.size := by omega
  have hk11_1 := fun o => hb11.cell (p := ⟨w2.heap.size, o, none⟩) (by first | omega | (simp <;> omega))
  have hg11_1 := fun o => hb11.frozen (p := ⟨w2.heap.size, o, none⟩) (by first | omega | (simp <;> omega))
  have hy11_2 : w4.heap.size < w11.heap.size := by omega
  have hk11_2 := fun o => hb11.cell (p := ⟨w4.heap.size, o, none⟩) (by first | omega | (simp <;> omega))
  have hg11_2 := fun o => hb11.frozen (p := ⟨w4.heap.size, o, none⟩) (by first | omega | (simp <;> omega))
  have hy11_3 : w9.heap.size < w11.heap.size := by omega
  have hk11_3 := fun o => hb11.cell (p := ⟨w9.heap.size, o, none⟩) (by first | omega | (simp <;> omega))
  have hg11_3 := fun o => hb11.frozen (p := ⟨w9.heap.size, o, none⟩) (by first | omega | (simp <;> omega))
  go_wp2
  go_ret
  exact ⟨rfl, (by repeat (first | exact Below.refl _ _ | assumption | (refine bstep ?_ (below_drewN _ _)) | exact bstep (by assumption) (by assumption) | (refine bstep ?_ (below_alloc _ _)) | (refine bstep ?_ (by assumption)) | (refine Below.setCell ?_ (by simp <;> omega) _) | refine Below.drew ?_ | (refine Below.trans ?_ (by assumption))))⟩
end Go.Proofs.Ytjnfdcojccgfoaa
