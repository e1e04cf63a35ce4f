import Derived.Test.YtjnfdcojccgfoaaA4
namespace Go.Proofs.Ytjnfdcojccgfoaa
set_option linter.unusedSimpArgs false
set_option linter.unusedVariables false
set_option linter.unnecessarySimpa false
open Go.RowKit
def atV (t : Int) (ps : List Q) : V := if profOkB ps && timeB t then freeV t ps else V.zero

set_option maxHeartbeats 4000000 in
theorem profAt_any (A : Option Addr) (n c : Nat) (ps : List Q) (t : Int) (w : World) (hn : n ≤ 1048576) (hr : Rd w A n 4 (flat ps)) (hl : ∀ g, A = some ⟨g, 0, none⟩ → g < w.heap.size) :
    Calls Try.prog 47 #[.agg #[.slice A n c], .int .i64 t] w fun e w' => e = .returned (.agg #[.int .i64 (atV t ps).A, .int .i64 (atV t ps).B, .int .i64 (atV t ps).C]) ∧ Below w.heap.size w w' := by
  have HN := Lib.hid hn
  have HR := Lib.hid hr
  have HL := Lib.hid hl
  clear hn hr hl
  cases hp : profOkB ps
  · have hF : atV t ps = V.zero := by unfold atV; rw [hp]; rfl
    have HF := Lib.hid hF
    clear hF
    have ht : timeB t = timeB t := rfl
    go_enter Try.func47, Try.ntmps47
    go_wp2_with (first | (go_at_call 32; refine (profOk_any _ _ _ _ _ HN.out (HR.out.below HL.out (bstep (below_alloc _ _) (below_alloc _ _))) (lt_below HL.out (bstep (below_alloc _ _) (below_alloc _ _)))).mono ?_; rintro e w1 ⟨rfl, hb1⟩; rw [hp]; have hs1 := hb1.size; (try simp at hs1); have hk1 := fun o => hb1.cell (p := ⟨w.heap.size, o, none⟩) (by simp <;> omega); have hk2 := fun o => hb1.cell (p := ⟨w.heap.size + 1, o, none⟩) (by simp <;> omega); have hg2 := fun o => hb1.frozen (p := ⟨w.heap.size + 1, o, none⟩) (by simp <;> omega)) | (go_at_call 105; refine (isTime_any _ _).mono ?_; rintro e w' ⟨rfl, rfl⟩))
    (try go_light)
    refine bodyPost_ret (v := .agg #[.int .i64 0, .int .i64 0, .int .i64 0]) (by simp [results, Try.results47, go_sem, *]) rfl ⟨by rw [HF.out]; rfl, (by repeat (first | exact Below.refl _ _ | assumption | exact bstep (by assumption) (by assumption) | (refine bstep ?_ (below_alloc _ _)) | (refine bstep ?_ (by assumption)) | (refine Below.setCell ?_ (by simp <;> omega) _) | refine Below.drew ?_))⟩
  · cases ht : timeB t
    · have hF : atV t ps = V.zero := by unfold atV; rw [hp, ht]; rfl
      have HF := Lib.hid hF
      clear hF
      go_enter Try.func47, Try.ntmps47
      go_wp2_with (first | (go_at_call 32; refine (profOk_any _ _ _ _ _ HN.out (HR.out.below HL.out (bstep (below_alloc _ _) (below_alloc _ _))) (lt_below HL.out (bstep (below_alloc _ _) (below_alloc _ _)))).mono ?_; rintro e w1 ⟨rfl, hb1⟩; rw [hp]; have hs1 := hb1.size; (try simp at hs1); have hk1 := fun o => hb1.cell (p := ⟨w.heap.size, o, none⟩) (by simp <;> omega); have hk2 := fun o => hb1.cell (p := ⟨w.heap.size + 1, o, none⟩) (by simp <;> omega); have hg2 := fun o => hb1.frozen (p := ⟨w.heap.size + 1, o, none⟩) (by simp <;> omega)) | (go_at_call 105; refine (isTime_any _ _).mono ?_; rintro e w' ⟨rfl, rfl⟩; rw [ht]))
      (try go_light)
      refine bodyPost_ret (v := .agg #[.int .i64 0, .int .i64 0, .int .i64 0]) (by simp [results, Try.results47, go_sem, *]) rfl ⟨by rw [HF.out]; rfl, (by repeat (first | exact Below.refl _ _ | assumption | exact bstep (by assumption) (by assumption) | (refine bstep ?_ (below_alloc _ _)) | (refine bstep ?_ (by assumption)) | (refine Below.setCell ?_ (by simp <;> omega) _) | refine Below.drew ?_))⟩
    · have hF : atV t ps = freeV t ps := by unfold atV; rw [hp, ht]; rfl
      have HF := Lib.hid hF
      clear hF
      go_enter Try.func47, Try.ntmps47
      go_wp2_with (first | (go_at_call 32; refine (profOk_any _ _ _ _ _ HN.out (HR.out.below HL.out (bstep (below_alloc _ _) (below_alloc _ _))) (lt_below HL.out (bstep (below_alloc _ _) (below_alloc _ _)))).mono ?_; rintro e w1 ⟨rfl, hb1⟩; rw [hp]; have hs1 := hb1.size; (try simp at hs1); have hk1 := fun o => hb1.cell (p := ⟨w.heap.size, o, none⟩) (by simp <;> omega); have hk2 := fun o => hb1.cell (p := ⟨w.heap.size + 1, o, none⟩) (by simp <;> omega); have hg2 := fun o => hb1.frozen (p := ⟨w.heap.size + 1, o, none⟩) (by simp <;> omega)) | (go_at_call 105; refine (isTime_any _ _).mono ?_; rintro e w' ⟨rfl, rfl⟩; rw [ht]))
      refine (free_any A n c ps t _ HN.out (HR.out.below HL.out (by repeat (first | exact Below.refl _ _ | assumption | exact bstep (by assumption) (by assumption) | (refine bstep ?_ (below_alloc _ _)) | (refine bstep ?_ (by assumption)) | (refine Below.setCell ?_ (by simp <;> omega) _) | refine Below.drew ?_))) (lt_below HL.out (by repeat (first | exact Below.refl _ _ | assumption | exact bstep (by assumption) (by assumption) | (refine bstep ?_ (below_alloc _ _)) | (refine bstep ?_ (by assumption)) | (refine Below.setCell ?_ (by simp <;> omega) _) | refine Below.drew ?_)))).mono ?_
      rintro e w2 ⟨rfl, hb2⟩
      have hs2 := hb2.size
      have hk3 := fun o => hb2.cell (p := ⟨w.heap.size + 1, o, none⟩) (show w.heap.size + 1 < w1.heap.size by omega)
      have hg3 := fun o => hb2.frozen (p := ⟨w.heap.size + 1, o, none⟩) (show w.heap.size + 1 < w1.heap.size by omega)
      go_wp2
      (try go_light)
      refine bodyPost_ret (v := .agg #[.int .i64 (freeV t ps).A, .int .i64 (freeV t ps).B, .int .i64 (freeV t ps).C]) (by simp [results, Try.results47, go_sem, *]) rfl ⟨by rw [HF.out], (by repeat (first | exact Below.refl _ _ | assumption | exact bstep (by assumption) (by assumption) | (refine bstep ?_ (below_alloc _ _)) | (refine bstep ?_ (by assumption)) | (refine Below.setCell ?_ (by simp <;> omega) _) | refine Below.drew ?_))⟩

set_option maxHeartbeats 4000000 in
theorem sprofAt_any (A : Option Addr) (n c : Nat) (ps : List Q) (t : Int) (w : World) (hn : n ≤ 1048576) (hr : Rd w A n 4 (flat ps)) (hl : ∀ g, A = some ⟨g, 0, none⟩ → g < w.heap.size) :
    Calls Try.prog 46 #[.agg #[.slice A n c], .int .i64 t] w fun e w' => e = .returned (.agg #[.int .i64 (atV t ps).A, .int .i64 (atV t ps).B, .int .i64 (atV t ps).C]) ∧ Below w.heap.size w w' := by
  have HN := Lib.hid hn
  have HR := Lib.hid hr
  have HL := Lib.hid hl
  clear hn hr hl
  cases hp : profOkB ps
  · have hF : atV t ps = V.zero := by unfold atV; rw [hp]; rfl
    have HF := Lib.hid hF
    clear hF
    have ht : timeB t = timeB t := rfl
    go_enter Try.func46, Try.ntmps46
    go_wp2_with (first | (go_at_call 30; refine (sprofOk_any _ _ _ _ _ HN.out (HR.out.below HL.out (bstep (below_alloc _ _) (below_alloc _ _))) (lt_below HL.out (bstep (below_alloc _ _) (below_alloc _ _)))).mono ?_; rintro e w1 ⟨rfl, hb1⟩; rw [hp]; have hs1 := hb1.size; (try simp at hs1); have hk1 := fun o => hb1.cell (p := ⟨w.heap.size, o, none⟩) (by simp <;> omega); have hk2 := fun o => hb1.cell (p := ⟨w.heap.size + 1, o, none⟩) (by simp <;> omega); have hg2 := fun o => hb1.frozen (p := ⟨w.heap.size + 1, o, none⟩) (by simp <;> omega)) | (go_at_call 102; refine (sTime_any _ _).mono ?_; rintro e w' ⟨rfl, rfl⟩))
    (try go_light)
    refine bodyPost_ret (v := .agg #[.int .i64 0, .int .i64 0, .int .i64 0]) (by simp [results, Try.results46, go_sem, *]) rfl ⟨by rw [HF.out]; rfl, (by repeat (first | exact Below.refl _ _ | assumption | exact bstep (by assumption) (by assumption) | (refine bstep ?_ (below_alloc _ _)) | (refine bstep ?_ (by assumption)) | (refine Below.setCell ?_ (by simp <;> omega) _) | refine Below.drew ?_))⟩
  · cases ht : timeB t
    · have hF : atV t ps = V.zero := by unfold atV; rw [hp, ht]; rfl
      have HF := Lib.hid hF
      clear hF
      go_enter Try.func46, Try.ntmps46
      go_wp2_with (first | (go_at_call 30; refine (sprofOk_any _ _ _ _ _ HN.out (HR.out.below HL.out (bstep (below_alloc _ _) (below_alloc _ _))) (lt_below HL.out (bstep (below_alloc _ _) (below_alloc _ _)))).mono ?_; rintro e w1 ⟨rfl, hb1⟩; rw [hp]; have hs1 := hb1.size; (try simp at hs1); have hk1 := fun o => hb1.cell (p := ⟨w.heap.size, o, none⟩) (by simp <;> omega); have hk2 := fun o => hb1.cell (p := ⟨w.heap.size + 1, o, none⟩) (by simp <;> omega); have hg2 := fun o => hb1.frozen (p := ⟨w.heap.size + 1, o, none⟩) (by simp <;> omega)) | (go_at_call 102; refine (sTime_any _ _).mono ?_; rintro e w' ⟨rfl, rfl⟩; rw [ht]))
      (try go_light)
      refine bodyPost_ret (v := .agg #[.int .i64 0, .int .i64 0, .int .i64 0]) (by simp [results, Try.results46, go_sem, *]) rfl ⟨by rw [HF.out]; rfl, (by repeat (first | exact Below.refl _ _ | assumption | exact bstep (by assumption) (by assumption) | (refine bstep ?_ (below_alloc _ _)) | (refine bstep ?_ (by assumption)) | (refine Below.setCell ?_ (by simp <;> omega) _) | refine Below.drew ?_))⟩
    · have hF : atV t ps = freeV t ps := by unfold atV; rw [hp, ht]; rfl
      have HF := Lib.hid hF
      clear hF
      go_enter Try.func46, Try.ntmps46
      go_wp2_with (first | (go_at_call 30; refine (sprofOk_any _ _ _ _ _ HN.out (HR.out.below HL.out (bstep (below_alloc _ _) (below_alloc _ _))) (lt_below HL.out (bstep (below_alloc _ _) (below_alloc _ _)))).mono ?_; rintro e w1 ⟨rfl, hb1⟩; rw [hp]; have hs1 := hb1.size; (try simp at hs1); have hk1 := fun o => hb1.cell (p := ⟨w.heap.size, o, none⟩) (by simp <;> omega); have hk2 := fun o => hb1.cell (p := ⟨w.heap.size + 1, o, none⟩) (by simp <;> omega); have hg2 := fun o => hb1.frozen (p := ⟨w.heap.size + 1, o, none⟩) (by simp <;> omega)) | (go_at_call 102; refine (sTime_any _ _).mono ?_; rintro e w' ⟨rfl, rfl⟩; rw [ht]))
      refine (sfree_any A n c ps t _ HN.out (HR.out.below HL.out (by repeat (first | exact Below.refl _ _ | assumption | exact bstep (by assumption) (by assumption) | (refine bstep ?_ (below_alloc _ _)) | (refine bstep ?_ (by assumption)) | (refine Below.setCell ?_ (by simp <;> omega) _) | refine Below.drew ?_))) (lt_below HL.out (by repeat (first | exact Below.refl _ _ | assumption | exact bstep (by assumption) (by assumption) | (refine bstep ?_ (below_alloc _ _)) | (refine bstep ?_ (by assumption)) | (refine Below.setCell ?_ (by simp <;> omega) _) | refine Below.drew ?_)))).mono ?_
      rintro e w2 ⟨rfl, hb2⟩
      have hs2 := hb2.size
      have hk3 := fun o => hb2.cell (p := ⟨w.heap.size + 1, o, none⟩) (show w.heap.size + 1 < w1.heap.size by omega)
      have hg3 := fun o => hb2.frozen (p := ⟨w.heap.size + 1, o, none⟩) (show w.heap.size + 1 < w1.heap.size by omega)
      go_wp2
      (try go_light)
      refine bodyPost_ret (v := .agg #[.int .i64 (freeV t ps).A, .int .i64 (freeV t ps).B, .int .i64 (freeV t ps).C]) (by simp [results, Try.results46, go_sem, *]) rfl ⟨by rw [HF.out], (by repeat (first | exact Below.refl _ _ | assumption | exact bstep (by assumption) (by assumption) | (refine bstep ?_ (below_alloc _ _)) | (refine bstep ?_ (by assumption)) | (refine Below.setCell ?_ (by simp <;> omega) _) | refine Below.drew ?_))⟩

set_option maxHeartbeats 4000000 in
theorem law_profAt_big (A : Option Addr) (n c : Nat) (t : Int) (w : World) (hn : n ≤ maxLen) (hb : ¬ n ≤ 1048576) :
    Calls Try.prog 8 #[.agg #[.slice A n c], .int .i64 t] w fun e w' => e = .returned (.bool true) ∧ Below w.heap.size w w' := by
  have hz : szOf 1048576 n = -1 := if_neg (by omega)
  have HN := Lib.hid hn
  have HZ := Lib.hid hz
  clear hn hb hz
  go_enter Try.func8, Try.ntmps8
  go_wp2_with fail
  refine (szProf_any A n c 1048576 _ (by omega) (by omega) HN.out).mono ?_
  rintro e w1 ⟨rfl, hb1⟩
  rw [HZ.out]
  go_wp2
  go_ret
  exact ⟨rfl, (by repeat (first | exact Below.refl _ _ | assumption | exact bstep (by assumption) (by assumption) | (refine bstep ?_ (below_alloc _ _)) | (refine bstep ?_ (by assumption)) | (refine Below.setCell ?_ (by simp <;> omega) _) | refine Below.drew ?_))⟩
set_option maxHeartbeats 4000000 in
theorem law_profAt_small (A : Option Addr) (n c : Nat) (ps : List Q) (t : Int) (w : World) (hn : n ≤ 1048576) (hr : RdE w A n ps) :
    Calls Try.prog 8 #[.agg #[.slice A n c], .int .i64 t] w fun e w' => e = .returned (.bool true) ∧ Below w.heap.size w w' := by
  have hz : ¬ szOf 1048576 n < 0 := by unfold szOf; split <;> omega
  have HN := Lib.hid hn
  have HR := Lib.hid hr
  clear hn hr
  go_enter Try.func8, Try.ntmps8
  go_wp2_with fail
  refine (szProf_any A n c 1048576 _ (by omega) (by omega) (Nat.le_trans HN.out (by decide))).mono ?_
  rintro e w1 ⟨rfl, hb1⟩
  have hs1 := hb1.size
  (try simp at hs1)
  have hy10 : w.heap.size < w1.heap.size := by omega
  have hk10 := fun o => hb1.cell (p := ⟨w.heap.size, o, none⟩) (by first | omega | (simp <;> omega))
  have hg10 := fun o => hb1.frozen (p := ⟨w.heap.size, o, none⟩) (by first | omega | (simp <;> omega))
  go_wp2_with fail
  refine (toProf_any A n c ps _ HN.out (HR.out.below (by repeat (first | exact Below.refl _ _ | assumption | exact bstep (by assumption) (by assumption) | (refine bstep ?_ (below_alloc _ _)) | (refine bstep ?_ (by assumption)) | (refine Below.setCell ?_ (by simp <;> omega) _) | refine Below.drew ?_)))).mono ?_
  rintro e w2 ⟨v2, rfl, own2, hb2⟩
  have hs2 := hb2.size
  (try simp at hs2)
  have hy20 : w.heap.size < w2.heap.size := by omega
  have hk20 := fun o => hb2.cell (p := ⟨w.heap.size, o, none⟩) (by first | omega | (simp <;> omega))
  have hg20 := fun o => hb2.frozen (p := ⟨w.heap.size, o, none⟩) (by first | omega | (simp <;> omega))
  obtain ⟨A2, c2, rfl, rd2⟩ := own_rd own2
  have hl2 := own_blk own2
  have RD2 := Lib.hid rd2
  have HL2 := Lib.hid hl2
  have OW2 := Lib.hid own2
  clear rd2 hl2 own2
  go_wp2_with fail
  refine (sprofAt_any A2 n c2 ps t _ HN.out RD2.out HL2.out).mono ?_
  rintro e w3 ⟨rfl, hb3⟩
  have hs3 := hb3.size
  (try simp at hs3)
  have hy30 : w.heap.size < w3.heap.size := by omega
  have hk30 := fun o => hb3.cell (p := ⟨w.heap.size, o, none⟩) (by first | omega | (simp <;> omega))
  have hg30 := fun o => hb3.frozen (p := ⟨w.heap.size, o, none⟩) (by first | omega | (simp <;> omega))
  go_wp2_with fail
  refine (toProf_any A n c ps _ HN.out (HR.out.below (by repeat (first | exact Below.refl _ _ | assumption | exact bstep (by assumption) (by assumption) | (refine bstep ?_ (below_alloc _ _)) | (refine bstep ?_ (by assumption)) | (refine Below.setCell ?_ (by simp <;> omega) _) | refine Below.drew ?_)))).mono ?_
  rintro e w4 ⟨v4, rfl, own4, hb4⟩
  have hs4 := hb4.size
  (try simp at hs4)
  have hy40 : w.heap.size < w4.heap.size := by omega
  have hk40 := fun o => hb4.cell (p := ⟨w.heap.size, o, none⟩) (by first | omega | (simp <;> omega))
  have hg40 := fun o => hb4.frozen (p := ⟨w.heap.size, o, none⟩) (by first | omega | (simp <;> omega))
  have hy41 : w3.heap.size < w4.heap.size := by omega
  have hk41 := fun o => hb4.cell (p := ⟨w3.heap.size, o, none⟩) (by first | omega | (simp <;> omega))
  have hg41 := fun o => hb4.frozen (p := ⟨w3.heap.size, o, none⟩) (by first | omega | (simp <;> omega))
  obtain ⟨A4, c4, rfl, rd4⟩ := own_rd own4
  have hl4 := own_blk own4
  have RD4 := Lib.hid rd4
  have HL4 := Lib.hid hl4
  have OW4 := Lib.hid own4
  clear rd4 hl4 own4
  go_wp2_with fail
  refine (profAt_any A4 n c4 ps t _ HN.out (RD4.out.below HL4.out (below_alloc _ _)) (lt_below HL4.out (below_alloc _ _))).mono ?_
  rintro e w5 ⟨rfl, hb5⟩
  have hs5 := hb5.size
  (try simp at hs5)
  have hy50 : w.heap.size < w5.heap.size := by omega
  have hk50 := fun o => hb5.cell (p := ⟨w.heap.size, o, none⟩) (by first | omega | (simp <;> omega))
  have hg50 := fun o => hb5.frozen (p := ⟨w.heap.size, o, none⟩) (by first | omega | (simp <;> omega))
  have hy51 : w3.heap.size < w5.heap.size := by omega
  have hk51 := fun o => hb5.cell (p := ⟨w3.heap.size, o, none⟩) (by first | omega | (simp <;> omega))
  have hg51 := fun o => hb5.frozen (p := ⟨w3.heap.size, o, none⟩) (by first | omega | (simp <;> omega))
  have hy52 : w4.heap.size < w5.heap.size := by omega
  have hk52 := fun o => hb5.cell (p := ⟨w4.heap.size, o, none⟩) (by first | omega | (simp <;> omega))
  have hg52 := fun o => hb5.frozen (p := ⟨w4.heap.size, o, none⟩) (by first | omega | (simp <;> omega))
  go_wp2_with fail
  refine (eqVec_int _ _ _ _).mono ?_
  rintro e w6 ⟨rfl, hb6⟩
  have hs6 := hb6.size
  (try simp at hs6)
  have hy60 : w.heap.size < w6.heap.size := by omega
  have hk60 := fun o => hb6.cell (p := ⟨w.heap.size, o, none⟩) (by first | omega | (simp <;> omega))
  have hg60 := fun o => hb6.frozen (p := ⟨w.heap.size, o, none⟩) (by first | omega | (simp <;> omega))
  have hy61 : w4.heap.size < w6.heap.size := by omega
  have hk61 := fun o => hb6.cell (p := ⟨w4.heap.size, o, none⟩) (by first | omega | (simp <;> omega))
  have hg61 := fun o => hb6.frozen (p := ⟨w4.heap.size, o, none⟩) (by first | omega | (simp <;> omega))
  go_wp2_with fail
  go_region_held3 (fun w' => w'.cell? ⟨w.heap.size, 0, none⟩ = some (.slice A n c) ∧ w'.cell? ⟨w4.heap.size, 0, none⟩ = some (.slice A4 n c4)) (simp [go_sem, *, World.cell?_alloc_some, World.cell?_setCell_far, Nat.lt_add_right, Nat.ne_of_gt]) (first | (go_at_call 31; refine (toProf_any A n c ps _ HN.out (HR.out.below (by repeat (first | exact Below.refl _ _ | assumption | exact bstep (by assumption) (by assumption) | (refine bstep ?_ (below_alloc _ _)) | (refine bstep ?_ (by assumption)) | (refine Below.setCell ?_ (by simp <;> omega) _) | refine Below.drew ?_)))).mono ?_; rintro e w7 ⟨v7, rfl, own7, hb7⟩; have hs7 := hb7.size; (try simp at hs7); have hy70 : w.heap.size < w7.heap.size := (by omega); have hk70 := fun o => hb7.cell (p := ⟨w.heap.size, o, none⟩) (by first | omega | (simp <;> omega)); have hg70 := fun o => hb7.frozen (p := ⟨w.heap.size, o, none⟩) (by first | omega | (simp <;> omega)); have hy71 : w4.heap.size < w7.heap.size := (by omega); have hk71 := fun o => hb7.cell (p := ⟨w4.heap.size, o, none⟩) (by first | omega | (simp <;> omega)); have hg71 := fun o => hb7.frozen (p := ⟨w4.heap.size, o, none⟩) (by first | omega | (simp <;> omega)); obtain ⟨A7, c7, rfl, rd7⟩ := own_rd own7; have hl7 := own_blk own7; have RD7 := Lib.hid rd7; have HL7 := Lib.hid hl7; have OW7 := Lib.hid own7; clear rd7 hl7 own7) | (go_at_call 33; refine (eqProf_any A4 A7 n c4 c7 ps _ (Nat.le_succ_of_le HN.out) (RD4.out.below HL4.out (by repeat (first | exact Below.refl _ _ | assumption | exact bstep (by assumption) (by assumption) | (refine bstep ?_ (below_alloc _ _)) | (refine bstep ?_ (by assumption)) | (refine Below.setCell ?_ (by simp <;> omega) _) | refine Below.drew ?_))) RD7.out (lt_below HL4.out (by repeat (first | exact Below.refl _ _ | assumption | exact bstep (by assumption) (by assumption) | (refine bstep ?_ (below_alloc _ _)) | (refine bstep ?_ (by assumption)) | (refine Below.setCell ?_ (by simp <;> omega) _) | refine Below.drew ?_))) HL7.out).mono ?_; rintro e w8 ⟨rfl, hb8⟩; have hs8 := hb8.size; (try simp at hs8); have hy80 : w.heap.size < w8.heap.size := (by omega); have hk80 := fun o => hb8.cell (p := ⟨w.heap.size, o, none⟩) (by first | omega | (simp <;> omega)); have hg80 := fun o => hb8.frozen (p := ⟨w.heap.size, o, none⟩) (by first | omega | (simp <;> omega)); have hy81 : w4.heap.size < w8.heap.size := (by omega); have hk81 := fun o => hb8.cell (p := ⟨w4.heap.size, o, none⟩) (by first | omega | (simp <;> omega)); have hg81 := fun o => hb8.frozen (p := ⟨w4.heap.size, o, none⟩) (by first | omega | (simp <;> omega))))
  all_goals go_wp2
  all_goals go_ret
  all_goals exact ⟨rfl, (by repeat (first | exact Below.refl _ _ | assumption | exact bstep (by assumption) (by assumption) | (refine bstep ?_ (below_alloc _ _)) | (refine bstep ?_ (by assumption)) | (refine Below.setCell ?_ (by simp <;> omega) _) | refine Below.drew ?_))⟩
theorem law_profAt (A : Option Addr) (n c : Nat) (ps : List Q) (t : Int) (w : World) (hn : n ≤ maxLen) (hr : RdE w A n ps) :
    Calls Try.prog 8 #[.agg #[.slice A n c], .int .i64 t] w fun e w' => e = .returned (.bool true) ∧ Below w.heap.size w w' := by
  by_cases h : n ≤ 1048576
  · exact law_profAt_small A n c ps t w h hr
  · exact law_profAt_big A n c t w hn h
end Go.Proofs.Ytjnfdcojccgfoaa
