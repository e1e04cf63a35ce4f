import Derived.Test.YtjnfdcojccgfoaaPf
import Derived.Test.YtjnfdcojccgfoaaPg
namespace Go.Proofs.Ytjnfdcojccgfoaa
open Go.RowKit

set_option maxHeartbeats 4000000 in
theorem law_profOk_big (A : Option Addr) (n c : Nat) (w : World) (hn : n ≤ maxLen) (hb : ¬ n ≤ 1048576) :
    Calls Try.prog 4 #[.agg #[.slice A n c]] w fun e w' => e = .returned (.bool true) ∧ Below w.heap.size w w' := by
  have hz : szOf 1048576 n = -1 := if_neg (by omega)
  have HN := Lib.hid hn
  have HZ := Lib.hid hz
  clear hn hb hz
  go_enter Try.func4, Try.ntmps4
  go_wp2_with fail
  refine (szProf_any A n c 1048576 _ (by omega) (by omega) HN.out).mono ?_
  rintro e w1 ⟨rfl, hb1⟩
  rw [HZ.out]
  go_wp2
  go_ret
  exact ⟨rfl, (by repeat (first | exact Below.refl _ _ | assumption | exact bstep (by assumption) (by assumption) | (refine bstep ?_ (below_alloc _ _)) | (refine bstep ?_ (by assumption)) | (refine Below.setCell ?_ (by simp <;> omega) _) | refine Below.drew ?_))⟩
set_option maxHeartbeats 4000000 in
theorem law_profOk_small (A : Option Addr) (n c : Nat) (ps : List Q) (w : World) (hn : n ≤ 1048576) (hr : RdE w A n ps) :
    Calls Try.prog 4 #[.agg #[.slice A n c]] w fun e w' => e = .returned (.bool true) ∧ Below w.heap.size w w' := by
  have hz : ¬ szOf 1048576 n < 0 := by unfold szOf; split <;> omega
  have HN := Lib.hid hn
  have HR := Lib.hid hr
  clear hn hr
  go_enter Try.func4, Try.ntmps4
  go_wp2_with fail
  refine (szProf_any A n c 1048576 _ (by omega) (by omega) (Nat.le_trans HN.out (by decide))).mono ?_
  rintro e w1 ⟨rfl, hb1⟩
  have hs1 := hb1.size
  (try simp at hs1)
  have hy10 : w.heap.size < w1.heap.size := by omega
  have hk10 := fun o => hb1.cell (p := ⟨w.heap.size, o, none⟩) (by first | omega | (simp <;> omega))
  have hg10 := fun o => hb1.frozen (p := ⟨w.heap.size, o, none⟩) (by first | omega | (simp <;> omega))
  go_wp2_with fail
  refine (toProf_any A n c ps _ HN.out (HR.out.below (bstep (below_alloc _ _) hb1))).mono ?_
  rintro e w2 ⟨v2, rfl, own2, hb2⟩
  have hs2 := hb2.size
  (try simp at hs2)
  have hy20 : w.heap.size < w2.heap.size := by omega
  have hk20 := fun o => hb2.cell (p := ⟨w.heap.size, o, none⟩) (by first | omega | (simp <;> omega))
  have hg20 := fun o => hb2.frozen (p := ⟨w.heap.size, o, none⟩) (by first | omega | (simp <;> omega))
  obtain ⟨A2, c2, rfl, rd2⟩ := own_rd own2
  have hl2 := own_blk own2
  have RD2 := Lib.hid rd2
  have HL2 := Lib.hid hl2
  have OW2 := Lib.hid own2
  clear rd2 hl2 own2
  go_wp2_with fail
  refine (sprofOk_any A2 n c2 ps _ HN.out RD2.out HL2.out).mono ?_
  rintro e w3 ⟨rfl, hb3⟩
  have hs3 := hb3.size
  (try simp at hs3)
  have hy30 : w.heap.size < w3.heap.size := by omega
  have hk30 := fun o => hb3.cell (p := ⟨w.heap.size, o, none⟩) (by first | omega | (simp <;> omega))
  have hg30 := fun o => hb3.frozen (p := ⟨w.heap.size, o, none⟩) (by first | omega | (simp <;> omega))
  go_wp2_with fail
  refine (toProf_any A n c ps _ HN.out (HR.out.below (by repeat (first | exact Below.refl _ _ | assumption | exact bstep (by assumption) (by assumption) | (refine bstep ?_ (below_alloc _ _)) | (refine bstep ?_ (by assumption)) | (refine Below.setCell ?_ (by simp <;> omega) _) | refine Below.drew ?_)))).mono ?_
  rintro e w4 ⟨v4, rfl, own4, hb4⟩
  have hs4 := hb4.size
  (try simp at hs4)
  have hy40 : w.heap.size < w4.heap.size := by omega
  have hk40 := fun o => hb4.cell (p := ⟨w.heap.size, o, none⟩) (by first | omega | (simp <;> omega))
  have hg40 := fun o => hb4.frozen (p := ⟨w.heap.size, o, none⟩) (by first | omega | (simp <;> omega))
  obtain ⟨A4, c4, rfl, rd4⟩ := own_rd own4
  have hl4 := own_blk own4
  have RD4 := Lib.hid rd4
  have HL4 := Lib.hid hl4
  have OW4 := Lib.hid own4
  clear rd4 hl4 own4
  go_wp2_with fail
  refine (profOk_any A4 n c4 ps _ HN.out (RD4.out.below HL4.out (below_alloc _ _)) (lt_below HL4.out (below_alloc _ _))).mono ?_
  rintro e w5 ⟨rfl, hb5⟩
  have hs5 := hb5.size
  (try simp at hs5)
  have hy50 : w.heap.size < w5.heap.size := by omega
  have hk50 := fun o => hb5.cell (p := ⟨w.heap.size, o, none⟩) (by first | omega | (simp <;> omega))
  have hg50 := fun o => hb5.frozen (p := ⟨w.heap.size, o, none⟩) (by first | omega | (simp <;> omega))
  have hy51 : w4.heap.size < w5.heap.size := by omega
  have hk51 := fun o => hb5.cell (p := ⟨w4.heap.size, o, none⟩) (by first | omega | (simp <;> omega))
  have hg51 := fun o => hb5.frozen (p := ⟨w4.heap.size, o, none⟩) (by first | omega | (simp <;> omega))
  go_wp2_with fail
  go_region_held3 (fun w' => w'.cell? ⟨w.heap.size, 0, none⟩ = some (.slice A n c) ∧ w'.cell? ⟨w4.heap.size, 0, none⟩ = some (.slice A4 n c4)) (simp [go_sem, *, World.cell?_alloc_some, World.cell?_setCell_far, Nat.lt_add_right, Nat.ne_of_gt]) (first | (go_at_call 31; refine (toProf_any A n c ps _ HN.out (HR.out.below (by repeat (first | exact Below.refl _ _ | assumption | exact bstep (by assumption) (by assumption) | (refine bstep ?_ (below_alloc _ _)) | (refine bstep ?_ (by assumption)) | (refine Below.setCell ?_ (by simp <;> omega) _) | refine Below.drew ?_)))).mono ?_; rintro e w6 ⟨v6, rfl, own6, hb6⟩; have hs6 := hb6.size; (try simp at hs6); have hy60 : w.heap.size < w6.heap.size := (by omega); have hk60 := fun o => hb6.cell (p := ⟨w.heap.size, o, none⟩) (by first | omega | (simp <;> omega)); have hg60 := fun o => hb6.frozen (p := ⟨w.heap.size, o, none⟩) (by first | omega | (simp <;> omega)); have hy61 : w4.heap.size < w6.heap.size := (by omega); have hk61 := fun o => hb6.cell (p := ⟨w4.heap.size, o, none⟩) (by first | omega | (simp <;> omega)); have hg61 := fun o => hb6.frozen (p := ⟨w4.heap.size, o, none⟩) (by first | omega | (simp <;> omega)); obtain ⟨A6, c6, rfl, rd6⟩ := own_rd own6; have hl6 := own_blk own6; have RD6 := Lib.hid rd6; have HL6 := Lib.hid hl6; have OW6 := Lib.hid own6; clear rd6 hl6 own6) | (go_at_call 33; refine (eqProf_any A4 A6 n c4 c6 ps _ (Nat.le_succ_of_le HN.out) (RD4.out.below HL4.out (by repeat (first | exact Below.refl _ _ | assumption | exact bstep (by assumption) (by assumption) | (refine bstep ?_ (below_alloc _ _)) | (refine bstep ?_ (by assumption)) | (refine Below.setCell ?_ (by simp <;> omega) _) | refine Below.drew ?_))) RD6.out (lt_below HL4.out (by repeat (first | exact Below.refl _ _ | assumption | exact bstep (by assumption) (by assumption) | (refine bstep ?_ (below_alloc _ _)) | (refine bstep ?_ (by assumption)) | (refine Below.setCell ?_ (by simp <;> omega) _) | refine Below.drew ?_))) HL6.out).mono ?_; rintro e w7 ⟨rfl, hb7⟩; have hs7 := hb7.size; (try simp at hs7); have hy70 : w.heap.size < w7.heap.size := (by omega); have hk70 := fun o => hb7.cell (p := ⟨w.heap.size, o, none⟩) (by first | omega | (simp <;> omega)); have hg70 := fun o => hb7.frozen (p := ⟨w.heap.size, o, none⟩) (by first | omega | (simp <;> omega)); have hy71 : w4.heap.size < w7.heap.size := (by omega); have hk71 := fun o => hb7.cell (p := ⟨w4.heap.size, o, none⟩) (by first | omega | (simp <;> omega)); have hg71 := fun o => hb7.frozen (p := ⟨w4.heap.size, o, none⟩) (by first | omega | (simp <;> omega))))
  all_goals go_wp2
  all_goals go_ret
  all_goals exact ⟨rfl, (by repeat (first | exact Below.refl _ _ | assumption | exact bstep (by assumption) (by assumption) | (refine bstep ?_ (below_alloc _ _)) | (refine bstep ?_ (by assumption)) | (refine Below.setCell ?_ (by simp <;> omega) _) | refine Below.drew ?_))⟩
theorem law_profOk (A : Option Addr) (n c : Nat) (ps : List Q) (w : World) (hn : n ≤ maxLen) (hr : RdE w A n ps) :
    Calls Try.prog 4 #[.agg #[.slice A n c]] w fun e w' => e = .returned (.bool true) ∧ Below w.heap.size w w' := by
  by_cases h : n ≤ 1048576
  · exact law_profOk_small A n c ps w h hr
  · exact law_profOk_big A n c w hn h
end Go.Proofs.Ytjnfdcojccgfoaa
