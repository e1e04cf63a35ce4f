import Derived.Test.YtjnfdcojccgfoaaQf
import Derived.Test.YtjnfdcojccgfoaaMa
import Derived.Test.YtjnfdcojccgfoaaTg
namespace Go.Proofs.Ytjnfdcojccgfoaa
set_option linter.unusedSimpArgs false
set_option linter.unusedVariables false
set_option linter.unnecessarySimpa false
open Go.RowKit

theorem szOf_cases (left : Int) (n : Nat) : szOf left n = -1 ∨ (szOf left n = left - n ∧ (n : Int) ≤ left) := by
  unfold szOf; split
  · exact Or.inr ⟨rfl, by assumption⟩
  · exact Or.inl rfl
set_option maxHeartbeats 4000000 in
theorem law_sameProf_big1 (A B : Option Addr) (n c m d : Nat) (w : World) (hn : n ≤ maxLen) (hz : szOf 1048576 n = -1) :
    Calls Try.prog 7 #[.agg #[.slice A n c], .agg #[.slice B m d]] w fun e w' => e = .returned (.bool true) ∧ Below w.heap.size w w' := by
  have HN := Lib.hid hn
  have HZ := Lib.hid hz
  clear hn hz
  go_enter Try.func7, Try.ntmps7
  go_wp2_with fail
  refine (szProf_any A n c 1048576 _ (by omega) (by omega) HN.out).mono ?_
  rintro e w1 ⟨rfl, hb1⟩
  rw [HZ.out]
  go_wp2
  go_ret
  exact ⟨rfl, (by repeat (first | exact Below.refl _ _ | assumption | (refine bstep ?_ (below_drewN _ _)) | exact bstep (by assumption) (by assumption) | (refine bstep ?_ (below_alloc _ _)) | (refine bstep ?_ (by assumption)) | (refine Below.setCell ?_ (by simp <;> omega) _) | refine Below.drew ?_))⟩
set_option maxHeartbeats 4000000 in
theorem law_sameProf_big2 (A B : Option Addr) (n c m d : Nat) (w : World) (hn : n ≤ maxLen) (hm : m ≤ maxLen) (hnl : (n : Int) ≤ 1048576) (hz : szOf 1048576 n = 1048576 - n) (hz2 : szOf (1048576 - n) m = -1) :
    Calls Try.prog 7 #[.agg #[.slice A n c], .agg #[.slice B m d]] w fun e w' => e = .returned (.bool true) ∧ Below w.heap.size w w' := by
  have HN := Lib.hid hn
  have HM := Lib.hid hm
  have HZ := Lib.hid hz
  have HZ2 := Lib.hid hz2
  have h0 : ¬ (1048576 - (n : Int) < 0) := by omega
  clear hn hm hz hz2
  go_enter Try.func7, Try.ntmps7
  go_wp2_with fail
  refine (szProf_any A n c 1048576 _ (by omega) (by omega) HN.out).mono ?_
  rintro e w1 ⟨rfl, hb1⟩
  have hs1 := hb1.size
  (try simp at hs1)
  have hy1_0 : w.heap.size < w1.heap.size := by omega
  have hk1_0 := fun o => hb1.cell (p := ⟨w.heap.size, o, none⟩) (by first | omega | (simp <;> omega))
  have hg1_0 := fun o => hb1.frozen (p := ⟨w.heap.size, o, none⟩) (by first | omega | (simp <;> omega))
  have hy1_1 : w.heap.size + 1 < w1.heap.size := by omega
  have hk1_1 := fun o => hb1.cell (p := ⟨w.heap.size + 1, o, none⟩) (by first | omega | (simp <;> omega))
  have hg1_1 := fun o => hb1.frozen (p := ⟨w.heap.size + 1, o, none⟩) (by first | omega | (simp <;> omega))
  rw [HZ.out]
  go_wp2_with fail
  refine (szProf_any B m d (1048576 - (n : Int)) _ (by omega) (by omega) HM.out).mono ?_
  rintro e w2 ⟨rfl, hb2⟩
  have hs2 := hb2.size
  (try simp at hs2)
  have hy2_0 : w.heap.size < w2.heap.size := by omega
  have hk2_0 := fun o => hb2.cell (p := ⟨w.heap.size, o, none⟩) (by first | omega | (simp <;> omega))
  have hg2_0 := fun o => hb2.frozen (p := ⟨w.heap.size, o, none⟩) (by first | omega | (simp <;> omega))
  have hy2_1 : w.heap.size + 1 < w2.heap.size := by omega
  have hk2_1 := fun o => hb2.cell (p := ⟨w.heap.size + 1, o, none⟩) (by first | omega | (simp <;> omega))
  have hg2_1 := fun o => hb2.frozen (p := ⟨w.heap.size + 1, o, none⟩) (by first | omega | (simp <;> omega))
  rw [HZ2.out]
  go_wp2
  go_ret
  exact ⟨rfl, (by repeat (first | exact Below.refl _ _ | assumption | (refine bstep ?_ (below_drewN _ _)) | exact bstep (by assumption) (by assumption) | (refine bstep ?_ (below_alloc _ _)) | (refine bstep ?_ (by assumption)) | (refine Below.setCell ?_ (by simp <;> omega) _) | refine Below.drew ?_ | (refine Below.trans ?_ (by assumption))))⟩
set_option maxHeartbeats 4000000 in
theorem law_sameProf_small (A B : Option Addr) (n c m d : Nat) (ps qs : List Q) (w : World) (hn : (n : Int) ≤ 1048576) (hm : (m : Int) ≤ 1048576 - n) (hr : RdE w A n ps) (hq : RdE w B m qs) :
    Calls Try.prog 7 #[.agg #[.slice A n c], .agg #[.slice B m d]] w fun e w' => e = .returned (.bool true) ∧ Below w.heap.size w w' := by
  have HZ : Hid (szOf 1048576 n = 1048576 - n) := Lib.hid (if_pos hn)
  have HZ2 : Hid (szOf (1048576 - n) m = 1048576 - n - m) := Lib.hid (if_pos hm)
  have h0 : ¬ (1048576 - (n : Int) < 0) := by omega
  have h1 : ¬ (1048576 - (n : Int) - m < 0) := by omega
  have HN : Hid (n ≤ 1048576) := Lib.hid (by omega)
  have HM : Hid (m ≤ 1048576) := Lib.hid (by omega)
  have HR := Lib.hid hr
  have HQ := Lib.hid hq
  clear hr hq
  go_enter Try.func7, Try.ntmps7
  go_wp2_with fail
  refine (szProf_any A n c 1048576 _ (by omega) (by omega) (Nat.le_trans HN.out (by decide))).mono ?_
  rintro e w1 ⟨rfl, hb1⟩
  have hs1 := hb1.size
  (try simp at hs1)
  have hy1_0 : w.heap.size < w1.heap.size := by omega
  have hk1_0 := fun o => hb1.cell (p := ⟨w.heap.size, o, none⟩) (by first | omega | (simp <;> omega))
  have hg1_0 := fun o => hb1.frozen (p := ⟨w.heap.size, o, none⟩) (by first | omega | (simp <;> omega))
  have hy1_1 : w.heap.size + 1 < w1.heap.size := by omega
  have hk1_1 := fun o => hb1.cell (p := ⟨w.heap.size + 1, o, none⟩) (by first | omega | (simp <;> omega))
  have hg1_1 := fun o => hb1.frozen (p := ⟨w.heap.size + 1, o, none⟩) (by first | omega | (simp <;> omega))
  rw [HZ.out]
  go_wp2_with fail
  refine (szProf_any B m d (1048576 - (n : Int)) _ (by omega) (by omega) (Nat.le_trans HM.out (by decide))).mono ?_
  rintro e w2 ⟨rfl, hb2⟩
  have hs2 := hb2.size
  (try simp at hs2)
  have hy2_0 : w.heap.size < w2.heap.size := by omega
  have hk2_0 := fun o => hb2.cell (p := ⟨w.heap.size, o, none⟩) (by first | omega | (simp <;> omega))
  have hg2_0 := fun o => hb2.frozen (p := ⟨w.heap.size, o, none⟩) (by first | omega | (simp <;> omega))
  have hy2_1 : w.heap.size + 1 < w2.heap.size := by omega
  have hk2_1 := fun o => hb2.cell (p := ⟨w.heap.size + 1, o, none⟩) (by first | omega | (simp <;> omega))
  have hg2_1 := fun o => hb2.frozen (p := ⟨w.heap.size + 1, o, none⟩) (by first | omega | (simp <;> omega))
  rw [HZ2.out]
  go_wp2_with fail
  go_region_held3 (fun w' => w'.cell? ⟨w.heap.size, 0, none⟩ = some (.slice A n c) ∧ w'.cell? ⟨w.heap.size + 1, 0, none⟩ = some (.slice B m d)) (simp [go_sem, *, World.cell?_alloc_some, World.cell?_setCell_far, Nat.lt_add_right, Nat.ne_of_gt]) (first | (go_at_call_of 31 (Value.slice A n c); refine (toProf_any A n c ps _ HN.out (HR.out.below (by repeat (first | exact Below.refl _ _ | assumption | (refine bstep ?_ (below_drewN _ _)) | exact bstep (by assumption) (by assumption) | (refine bstep ?_ (below_alloc _ _)) | (refine bstep ?_ (by assumption)) | (refine Below.setCell ?_ (by simp <;> omega) _) | refine Below.drew ?_ | (refine Below.trans ?_ (by assumption)))))).mono ?_; rintro e w3 ⟨v3, rfl, own3, hb3⟩; have hs3 := hb3.size; (try simp at hs3); have hy3_0 : w.heap.size < w3.heap.size := (by omega); have hk3_0 := fun o => hb3.cell (p := ⟨w.heap.size, o, none⟩) (by first | omega | (simp <;> omega)); have hg3_0 := fun o => hb3.frozen (p := ⟨w.heap.size, o, none⟩) (by first | omega | (simp <;> omega)); have hy3_1 : w.heap.size + 1 < w3.heap.size := (by omega); have hk3_1 := fun o => hb3.cell (p := ⟨w.heap.size + 1, o, none⟩) (by first | omega | (simp <;> omega)); have hg3_1 := fun o => hb3.frozen (p := ⟨w.heap.size + 1, o, none⟩) (by first | omega | (simp <;> omega)); obtain ⟨A3, c3, rfl, rd_A3⟩ := own_rd own3; have RDA3 := Lib.hid rd_A3; have HLA3 := Lib.hid (own_blk own3); have OWA3 := Lib.hid own3; clear rd_A3 own3) | (go_at_call_of 31 (Value.slice B m d); refine (toProf_any B m d qs _ HM.out (HQ.out.below (by repeat (first | exact Below.refl _ _ | assumption | (refine bstep ?_ (below_drewN _ _)) | exact bstep (by assumption) (by assumption) | (refine bstep ?_ (below_alloc _ _)) | (refine bstep ?_ (by assumption)) | (refine Below.setCell ?_ (by simp <;> omega) _) | refine Below.drew ?_ | (refine Below.trans ?_ (by assumption)))))).mono ?_; rintro e w4 ⟨v4, rfl, own4, hb4⟩; have hs4 := hb4.size; (try simp at hs4); have hy4_0 : w.heap.size < w4.heap.size := (by omega); have hk4_0 := fun o => hb4.cell (p := ⟨w.heap.size, o, none⟩) (by first | omega | (simp <;> omega)); have hg4_0 := fun o => hb4.frozen (p := ⟨w.heap.size, o, none⟩) (by first | omega | (simp <;> omega)); have hy4_1 : w.heap.size + 1 < w4.heap.size := (by omega); have hk4_1 := fun o => hb4.cell (p := ⟨w.heap.size + 1, o, none⟩) (by first | omega | (simp <;> omega)); have hg4_1 := fun o => hb4.frozen (p := ⟨w.heap.size + 1, o, none⟩) (by first | omega | (simp <;> omega)); obtain ⟨A4, c4, rfl, rd_A4⟩ := own_rd own4; have RDA4 := Lib.hid rd_A4; have HLA4 := Lib.hid (own_blk own4); have OWA4 := Lib.hid own4; clear rd_A4 own4) | (go_at_call 44; refine (ssameProf_any A3 A4 n c3 m c4 ps qs _ HN.out HM.out (RDA3.out.below HLA3.out (by repeat (first | exact Below.refl _ _ | assumption | (refine bstep ?_ (below_drewN _ _)) | exact bstep (by assumption) (by assumption) | (refine bstep ?_ (below_alloc _ _)) | (refine bstep ?_ (by assumption)) | (refine Below.setCell ?_ (by simp <;> omega) _) | refine Below.drew ?_))) RDA4.out (lt_below HLA3.out (by repeat (first | exact Below.refl _ _ | assumption | (refine bstep ?_ (below_drewN _ _)) | exact bstep (by assumption) (by assumption) | (refine bstep ?_ (below_alloc _ _)) | (refine bstep ?_ (by assumption)) | (refine Below.setCell ?_ (by simp <;> omega) _) | refine Below.drew ?_))) HLA4.out).mono ?_; rintro e w5 ⟨rfl, hb5⟩; have hs5 := hb5.size; (try simp at hs5); have hy5_0 : w.heap.size < w5.heap.size := (by omega); have hk5_0 := fun o => hb5.cell (p := ⟨w.heap.size, o, none⟩) (by first | omega | (simp <;> omega)); have hg5_0 := fun o => hb5.frozen (p := ⟨w.heap.size, o, none⟩) (by first | omega | (simp <;> omega)); have hy5_1 : w.heap.size + 1 < w5.heap.size := (by omega); have hk5_1 := fun o => hb5.cell (p := ⟨w.heap.size + 1, o, none⟩) (by first | omega | (simp <;> omega)); have hg5_1 := fun o => hb5.frozen (p := ⟨w.heap.size + 1, o, none⟩) (by first | omega | (simp <;> omega))))
  go_wp2_with fail
  refine (toProf_any A n c ps _ HN.out (HR.out.below (by repeat (first | exact Below.refl _ _ | assumption | (refine bstep ?_ (below_drewN _ _)) | exact bstep (by assumption) (by assumption) | (refine bstep ?_ (below_alloc _ _)) | (refine bstep ?_ (by assumption)) | (refine Below.setCell ?_ (by simp <;> omega) _) | refine Below.drew ?_ | (refine Below.trans ?_ (by assumption)))))).mono ?_
  rintro e w6 ⟨v6, rfl, own6, hb6⟩
  have hs6 := hb6.size
  (try simp at hs6)
  have hy6_0 : w.heap.size < w6.heap.size := by omega
  have hk6_0 := fun o => hb6.cell (p := ⟨w.heap.size, o, none⟩) (by first | omega | (simp <;> omega))
  have hg6_0 := fun o => hb6.frozen (p := ⟨w.heap.size, o, none⟩) (by first | omega | (simp <;> omega))
  have hy6_1 : w.heap.size + 1 < w6.heap.size := by omega
  have hk6_1 := fun o => hb6.cell (p := ⟨w.heap.size + 1, o, none⟩) (by first | omega | (simp <;> omega))
  have hg6_1 := fun o => hb6.frozen (p := ⟨w.heap.size + 1, o, none⟩) (by first | omega | (simp <;> omega))
  obtain ⟨A6, c6, rfl, rd_A6⟩ := own_rd own6
  have RDA6 := Lib.hid rd_A6
  have HLA6 := Lib.hid (own_blk own6)
  have OWA6 := Lib.hid own6
  clear rd_A6 own6
  go_wp2_with fail
  refine (toProf_any B m d qs _ HM.out (HQ.out.below (by repeat (first | exact Below.refl _ _ | assumption | (refine bstep ?_ (below_drewN _ _)) | exact bstep (by assumption) (by assumption) | (refine bstep ?_ (below_alloc _ _)) | (refine bstep ?_ (by assumption)) | (refine Below.setCell ?_ (by simp <;> omega) _) | refine Below.drew ?_ | (refine Below.trans ?_ (by assumption)))))).mono ?_
  rintro e w7 ⟨v7, rfl, own7, hb7⟩
  have hs7 := hb7.size
  (try simp at hs7)
  have hy7_0 : w.heap.size < w7.heap.size := by omega
  have hk7_0 := fun o => hb7.cell (p := ⟨w.heap.size, o, none⟩) (by first | omega | (simp <;> omega))
  have hg7_0 := fun o => hb7.frozen (p := ⟨w.heap.size, o, none⟩) (by first | omega | (simp <;> omega))
  have hy7_1 : w.heap.size + 1 < w7.heap.size := by omega
  have hk7_1 := fun o => hb7.cell (p := ⟨w.heap.size + 1, o, none⟩) (by first | omega | (simp <;> omega))
  have hg7_1 := fun o => hb7.frozen (p := ⟨w.heap.size + 1, o, none⟩) (by first | omega | (simp <;> omega))
  have hy7_2 : w6.heap.size < w7.heap.size := by omega
  have hk7_2 := fun o => hb7.cell (p := ⟨w6.heap.size, o, none⟩) (by first | omega | (simp <;> omega))
  have hg7_2 := fun o => hb7.frozen (p := ⟨w6.heap.size, o, none⟩) (by first | omega | (simp <;> omega))
  obtain ⟨A7, c7, rfl, rd_A7⟩ := own_rd own7
  have RDA7 := Lib.hid rd_A7
  have HLA7 := Lib.hid (own_blk own7)
  have OWA7 := Lib.hid own7
  clear rd_A7 own7
  go_wp2_with fail
  refine (sameProf_any A6 A7 n c6 m c7 ps qs _ HN.out HM.out (RDA6.out.below HLA6.out (by repeat (first | exact Below.refl _ _ | assumption | (refine bstep ?_ (below_drewN _ _)) | exact bstep (by assumption) (by assumption) | (refine bstep ?_ (below_alloc _ _)) | (refine bstep ?_ (by assumption)) | (refine Below.setCell ?_ (by simp <;> omega) _) | refine Below.drew ?_))) (RDA7.out.below HLA7.out (by repeat (first | exact Below.refl _ _ | assumption | (refine bstep ?_ (below_drewN _ _)) | exact bstep (by assumption) (by assumption) | (refine bstep ?_ (below_alloc _ _)) | (refine bstep ?_ (by assumption)) | (refine Below.setCell ?_ (by simp <;> omega) _) | refine Below.drew ?_))) (lt_below HLA6.out (by repeat (first | exact Below.refl _ _ | assumption | (refine bstep ?_ (below_drewN _ _)) | exact bstep (by assumption) (by assumption) | (refine bstep ?_ (below_alloc _ _)) | (refine bstep ?_ (by assumption)) | (refine Below.setCell ?_ (by simp <;> omega) _) | refine Below.drew ?_))) (lt_below HLA7.out (by repeat (first | exact Below.refl _ _ | assumption | (refine bstep ?_ (below_drewN _ _)) | exact bstep (by assumption) (by assumption) | (refine bstep ?_ (below_alloc _ _)) | (refine bstep ?_ (by assumption)) | (refine Below.setCell ?_ (by simp <;> omega) _) | refine Below.drew ?_)))).mono ?_
  rintro e w8 ⟨rfl, hb8⟩
  have hs8 := hb8.size
  (try simp at hs8)
  have hy8_0 : w.heap.size < w8.heap.size := by omega
  have hk8_0 := fun o => hb8.cell (p := ⟨w.heap.size, o, none⟩) (by first | omega | (simp <;> omega))
  have hg8_0 := fun o => hb8.frozen (p := ⟨w.heap.size, o, none⟩) (by first | omega | (simp <;> omega))
  have hy8_1 : w.heap.size + 1 < w8.heap.size := by omega
  have hk8_1 := fun o => hb8.cell (p := ⟨w.heap.size + 1, o, none⟩) (by first | omega | (simp <;> omega))
  have hg8_1 := fun o => hb8.frozen (p := ⟨w.heap.size + 1, o, none⟩) (by first | omega | (simp <;> omega))
  have hy8_2 : w6.heap.size < w8.heap.size := by omega
  have hk8_2 := fun o => hb8.cell (p := ⟨w6.heap.size, o, none⟩) (by first | omega | (simp <;> omega))
  have hg8_2 := fun o => hb8.frozen (p := ⟨w6.heap.size, o, none⟩) (by first | omega | (simp <;> omega))
  have hy8_3 : w7.heap.size < w8.heap.size := by omega
  have hk8_3 := fun o => hb8.cell (p := ⟨w7.heap.size, o, none⟩) (by first | omega | (simp <;> omega))
  have hg8_3 := fun o => hb8.frozen (p := ⟨w7.heap.size, o, none⟩) (by first | omega | (simp <;> omega))
  go_wp2_with fail
  go_region_held3 (fun w' => w'.cell? ⟨w.heap.size, 0, none⟩ = some (.slice A n c) ∧ w'.cell? ⟨w6.heap.size, 0, none⟩ = some (.slice A6 n c6)) (simp [go_sem, *, World.cell?_alloc_some, World.cell?_setCell_far, Nat.lt_add_right, Nat.ne_of_gt]) (first | (go_at_call 31; refine (toProf_any A n c ps _ HN.out (HR.out.below (by repeat (first | exact Below.refl _ _ | assumption | (refine bstep ?_ (below_drewN _ _)) | exact bstep (by assumption) (by assumption) | (refine bstep ?_ (below_alloc _ _)) | (refine bstep ?_ (by assumption)) | (refine Below.setCell ?_ (by simp <;> omega) _) | refine Below.drew ?_ | (refine Below.trans ?_ (by assumption)))))).mono ?_; rintro e w9 ⟨v9, rfl, own9, hb9⟩; have hs9 := hb9.size; (try simp at hs9); have hy9_0 : w.heap.size < w9.heap.size := (by omega); have hk9_0 := fun o => hb9.cell (p := ⟨w.heap.size, o, none⟩) (by first | omega | (simp <;> omega)); have hg9_0 := fun o => hb9.frozen (p := ⟨w.heap.size, o, none⟩) (by first | omega | (simp <;> omega)); have hy9_1 : w.heap.size + 1 < w9.heap.size := (by omega); have hk9_1 := fun o => hb9.cell (p := ⟨w.heap.size + 1, o, none⟩) (by first | omega | (simp <;> omega)); have hg9_1 := fun o => hb9.frozen (p := ⟨w.heap.size + 1, o, none⟩) (by first | omega | (simp <;> omega)); have hy9_2 : w6.heap.size < w9.heap.size := (by omega); have hk9_2 := fun o => hb9.cell (p := ⟨w6.heap.size, o, none⟩) (by first | omega | (simp <;> omega)); have hg9_2 := fun o => hb9.frozen (p := ⟨w6.heap.size, o, none⟩) (by first | omega | (simp <;> omega)); have hy9_3 : w7.heap.size < w9.heap.size := (by omega); have hk9_3 := fun o => hb9.cell (p := ⟨w7.heap.size, o, none⟩) (by first | omega | (simp <;> omega)); have hg9_3 := fun o => hb9.frozen (p := ⟨w7.heap.size, o, none⟩) (by first | omega | (simp <;> omega)); obtain ⟨A9, c9, rfl, rd_A9⟩ := own_rd own9; have RDA9 := Lib.hid rd_A9; have HLA9 := Lib.hid (own_blk own9); have OWA9 := Lib.hid own9; clear rd_A9 own9) | (go_at_call 33; refine (eqProf_any A6 A9 n c6 c9 ps _ (Nat.le_succ_of_le HN.out) (RDA6.out.below HLA6.out (by repeat (first | exact Below.refl _ _ | assumption | (refine bstep ?_ (below_drewN _ _)) | exact bstep (by assumption) (by assumption) | (refine bstep ?_ (below_alloc _ _)) | (refine bstep ?_ (by assumption)) | (refine Below.setCell ?_ (by simp <;> omega) _) | refine Below.drew ?_))) RDA9.out (lt_below HLA6.out (by repeat (first | exact Below.refl _ _ | assumption | (refine bstep ?_ (below_drewN _ _)) | exact bstep (by assumption) (by assumption) | (refine bstep ?_ (below_alloc _ _)) | (refine bstep ?_ (by assumption)) | (refine Below.setCell ?_ (by simp <;> omega) _) | refine Below.drew ?_))) HLA9.out).mono ?_; rintro e w10 ⟨rfl, hb10⟩; have hs10 := hb10.size; (try simp at hs10); have hy10_0 : w.heap.size < w10.heap.size := (by omega); have hk10_0 := fun o => hb10.cell (p := ⟨w.heap.size, o, none⟩) (by first | omega | (simp <;> omega)); have hg10_0 := fun o => hb10.frozen (p := ⟨w.heap.size, o, none⟩) (by first | omega | (simp <;> omega)); have hy10_1 : w.heap.size + 1 < w10.heap.size := (by omega); have hk10_1 := fun o => hb10.cell (p := ⟨w.heap.size + 1, o, none⟩) (by first | omega | (simp <;> omega)); have hg10_1 := fun o => hb10.frozen (p := ⟨w.heap.size + 1, o, none⟩) (by first | omega | (simp <;> omega)); have hy10_2 : w6.heap.size < w10.heap.size := (by omega); have hk10_2 := fun o => hb10.cell (p := ⟨w6.heap.size, o, none⟩) (by first | omega | (simp <;> omega)); have hg10_2 := fun o => hb10.frozen (p := ⟨w6.heap.size, o, none⟩) (by first | omega | (simp <;> omega)); have hy10_3 : w7.heap.size < w10.heap.size := (by omega); have hk10_3 := fun o => hb10.cell (p := ⟨w7.heap.size, o, none⟩) (by first | omega | (simp <;> omega)); have hg10_3 := fun o => hb10.frozen (p := ⟨w7.heap.size, o, none⟩) (by first | omega | (simp <;> omega))))
  go_wp2_with fail
  go_region_held3 (fun w' => w'.cell? ⟨w.heap.size + 1, 0, none⟩ = some (.slice B m d) ∧ w'.cell? ⟨w7.heap.size, 0, none⟩ = some (.slice A7 m c7)) (simp [go_sem, *, World.cell?_alloc_some, World.cell?_setCell_far, Nat.lt_add_right, Nat.ne_of_gt]) (first | (go_at_call 31; refine (toProf_any B m d qs _ HM.out (HQ.out.below (by repeat (first | exact Below.refl _ _ | assumption | (refine bstep ?_ (below_drewN _ _)) | exact bstep (by assumption) (by assumption) | (refine bstep ?_ (below_alloc _ _)) | (refine bstep ?_ (by assumption)) | (refine Below.setCell ?_ (by simp <;> omega) _) | refine Below.drew ?_ | (refine Below.trans ?_ (by assumption)))))).mono ?_; rintro e w11 ⟨v11, rfl, own11, hb11⟩; have hs11 := hb11.size; (try simp at hs11); have hy11_0 : w.heap.size < w11.heap.size := (by omega); have hk11_0 := fun o => hb11.cell (p := ⟨w.heap.size, o, none⟩) (by first | omega | (simp <;> omega)); have hg11_0 := fun o => hb11.frozen (p := ⟨w.heap.size, o, none⟩) (by first | omega | (simp <;> omega)); have hy11_1 : w.heap.size + 1 < w11.heap.size := (by omega); have hk11_1 := fun o => hb11.cell (p := ⟨w.heap.size + 1, o, none⟩) (by first | omega | (simp <;> omega)); have hg11_1 := fun o => hb11.frozen (p := ⟨w.heap.size + 1, o, none⟩) (by first | omega | (simp <;> omega)); have hy11_2 : w6.heap.size < w11.heap.size := (by omega); have hk11_2 := fun o => hb11.cell (p := ⟨w6.heap.size, o, none⟩) (by first | omega | (simp <;> omega)); have hg11_2 := fun o => hb11.frozen (p := ⟨w6.heap.size, o, none⟩) (by first | omega | (simp <;> omega)); have hy11_3 : w7.heap.size < w11.heap.size := (by omega); have hk11_3 := fun o => hb11.cell (p := ⟨w7.heap.size, o, none⟩) (by first | omega | (simp <;> omega)); have hg11_3 := fun o => hb11.frozen (p := ⟨w7.heap.size, o, none⟩) (by first | omega | (simp <;> omega)); obtain ⟨A11, c11, rfl, rd_A11⟩ := own_rd own11; have RDA11 := Lib.hid rd_A11; have HLA11 := Lib.hid (own_blk own11); have OWA11 := Lib.hid own11; clear rd_A11 own11) | (go_at_call 33; refine (eqProf_any A7 A11 m c7 c11 qs _ (Nat.le_succ_of_le HM.out) (RDA7.out.below HLA7.out (by repeat (first | exact Below.refl _ _ | assumption | (refine bstep ?_ (below_drewN _ _)) | exact bstep (by assumption) (by assumption) | (refine bstep ?_ (below_alloc _ _)) | (refine bstep ?_ (by assumption)) | (refine Below.setCell ?_ (by simp <;> omega) _) | refine Below.drew ?_))) RDA11.out (lt_below HLA7.out (by repeat (first | exact Below.refl _ _ | assumption | (refine bstep ?_ (below_drewN _ _)) | exact bstep (by assumption) (by assumption) | (refine bstep ?_ (below_alloc _ _)) | (refine bstep ?_ (by assumption)) | (refine Below.setCell ?_ (by simp <;> omega) _) | refine Below.drew ?_))) HLA11.out).mono ?_; rintro e w12 ⟨rfl, hb12⟩; have hs12 := hb12.size; (try simp at hs12); have hy12_0 : w.heap.size < w12.heap.size := (by omega); have hk12_0 := fun o => hb12.cell (p := ⟨w.heap.size, o, none⟩) (by first | omega | (simp <;> omega)); have hg12_0 := fun o => hb12.frozen (p := ⟨w.heap.size, o, none⟩) (by first | omega | (simp <;> omega)); have hy12_1 : w.heap.size + 1 < w12.heap.size := (by omega); have hk12_1 := fun o => hb12.cell (p := ⟨w.heap.size + 1, o, none⟩) (by first | omega | (simp <;> omega)); have hg12_1 := fun o => hb12.frozen (p := ⟨w.heap.size + 1, o, none⟩) (by first | omega | (simp <;> omega)); have hy12_2 : w6.heap.size < w12.heap.size := (by omega); have hk12_2 := fun o => hb12.cell (p := ⟨w6.heap.size, o, none⟩) (by first | omega | (simp <;> omega)); have hg12_2 := fun o => hb12.frozen (p := ⟨w6.heap.size, o, none⟩) (by first | omega | (simp <;> omega)); have hy12_3 : w7.heap.size < w12.heap.size := (by omega); have hk12_3 := fun o => hb12.cell (p := ⟨w7.heap.size, o, none⟩) (by first | omega | (simp <;> omega)); have hg12_3 := fun o => hb12.frozen (p := ⟨w7.heap.size, o, none⟩) (by first | omega | (simp <;> omega))))
  go_wp2
  go_ret
  exact ⟨rfl, (by repeat (first | exact Below.refl _ _ | assumption | (refine bstep ?_ (below_drewN _ _)) | exact bstep (by assumption) (by assumption) | (refine bstep ?_ (below_alloc _ _)) | (refine bstep ?_ (by assumption)) | (refine Below.setCell ?_ (by simp <;> omega) _) | refine Below.drew ?_ | (refine Below.trans ?_ (by assumption))))⟩
theorem law_sameProf (A B : Option Addr) (n c m d : Nat) (ps qs : List Q) (w : World) (hn : n ≤ maxLen) (hm : m ≤ maxLen) (hr : RdE w A n ps) (hq : RdE w B m qs) :
    Calls Try.prog 7 #[.agg #[.slice A n c], .agg #[.slice B m d]] w fun e w' => e = .returned (.bool true) ∧ Below w.heap.size w w' := by
  rcases szOf_cases 1048576 n with h | ⟨h, h1⟩
  · exact law_sameProf_big1 A B n c m d w hn h
  · rcases szOf_cases (1048576 - n) m with h2 | ⟨h2, h3⟩
    · exact law_sameProf_big2 A B n c m d w hn hm h1 h h2
    · exact law_sameProf_small A B n c m d ps qs w h1 h3 hr hq
end Go.Proofs.Ytjnfdcojccgfoaa
