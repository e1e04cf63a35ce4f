import Derived.Test.YtpfcegjomdppmaaA4
namespace Go.Proofs.Ytpfcegjomdppmaa
set_option linter.unusedSimpArgs false
set_option linter.unusedVariables false
set_option linter.unnecessarySimpa false
open Go.RowKit
def atV (t : Int) (ps : List Q) : V := if profOkB ps && timeB t then freeV t ps else V.zero

set_option maxHeartbeats 4000000 in
theorem profAt_any (A : Option Addr) (n c : Nat) (ps : List Q) (t : Int) (w : World) (hn : n ≤ 1048576) (hr : Rd w A n 4 (flat ps)) (hl : ∀ g, A = some ⟨g, 0, none⟩ → g < w.heap.size) :
    Calls Try.prog 45 #[.agg #[.slice A n c], .int .i64 t] w fun e w' => e = .returned (.agg #[.int .i64 (atV t ps).A, .int .i64 (atV t ps).B, .int .i64 (atV t ps).C]) ∧ Below w.heap.size w w' := by
  have HN := Lib.hid hn
  have HR := Lib.hid hr
  have HL := Lib.hid hl
  clear hn hr hl
  cases hp : profOkB ps
  · have hF : atV t ps = V.zero := by unfold atV; rw [hp]; rfl
    have HF := Lib.hid hF
    clear hF
    have ht : timeB t = timeB t := rfl
    go_enter Try.func45, Try.ntmps45
    go_wp2_with (first | (go_at_call 48; refine (profOk_any _ _ _ _ _ HN.out (HR.out.below HL.out (bstep (below_alloc _ _) (below_alloc _ _))) (lt_below HL.out (bstep (below_alloc _ _) (below_alloc _ _)))).mono ?_; rintro e w1 ⟨rfl, hb1⟩; rw [hp]; have hs1 := hb1.size; (try simp at hs1); have hk1 := fun o => hb1.cell (p := ⟨w.heap.size, o, none⟩) (by simp <;> omega); have hk2 := fun o => hb1.cell (p := ⟨w.heap.size + 1, o, none⟩) (by simp <;> omega); have hg2 := fun o => hb1.frozen (p := ⟨w.heap.size + 1, o, none⟩) (by simp <;> omega)) | (go_at_call 105; refine (isTime_any _ _).mono ?_; rintro e w' ⟨rfl, rfl⟩))
    (try go_light)
    refine bodyPost_ret (v := .agg #[.int .i64 0, .int .i64 0, .int .i64 0]) (by simp [results, Try.results45, go_sem, *]) rfl ⟨by rw [HF.out]; rfl, (by repeat (first | exact Below.refl _ _ | assumption | exact bstep (by assumption) (by assumption) | (refine bstep ?_ (below_alloc _ _)) | (refine bstep ?_ (by assumption)) | (refine Below.setCell ?_ (by simp <;> omega) _) | refine Below.drew ?_))⟩
  · cases ht : timeB t
    · have hF : atV t ps = V.zero := by unfold atV; rw [hp, ht]; rfl
      have HF := Lib.hid hF
      clear hF
      go_enter Try.func45, Try.ntmps45
      go_wp2_with (first | (go_at_call 48; refine (profOk_any _ _ _ _ _ HN.out (HR.out.below HL.out (bstep (below_alloc _ _) (below_alloc _ _))) (lt_below HL.out (bstep (below_alloc _ _) (below_alloc _ _)))).mono ?_; rintro e w1 ⟨rfl, hb1⟩; rw [hp]; have hs1 := hb1.size; (try simp at hs1); have hk1 := fun o => hb1.cell (p := ⟨w.heap.size, o, none⟩) (by simp <;> omega); have hk2 := fun o => hb1.cell (p := ⟨w.heap.size + 1, o, none⟩) (by simp <;> omega); have hg2 := fun o => hb1.frozen (p := ⟨w.heap.size + 1, o, none⟩) (by simp <;> omega)) | (go_at_call 105; refine (isTime_any _ _).mono ?_; rintro e w' ⟨rfl, rfl⟩; rw [ht]))
      (try go_light)
      refine bodyPost_ret (v := .agg #[.int .i64 0, .int .i64 0, .int .i64 0]) (by simp [results, Try.results45, go_sem, *]) rfl ⟨by rw [HF.out]; rfl, (by repeat (first | exact Below.refl _ _ | assumption | exact bstep (by assumption) (by assumption) | (refine bstep ?_ (below_alloc _ _)) | (refine bstep ?_ (by assumption)) | (refine Below.setCell ?_ (by simp <;> omega) _) | refine Below.drew ?_))⟩
    · have hF : atV t ps = freeV t ps := by unfold atV; rw [hp, ht]; rfl
      have HF := Lib.hid hF
      clear hF
      go_enter Try.func45, Try.ntmps45
      go_wp2_with (first | (go_at_call 48; refine (profOk_any _ _ _ _ _ HN.out (HR.out.below HL.out (bstep (below_alloc _ _) (below_alloc _ _))) (lt_below HL.out (bstep (below_alloc _ _) (below_alloc _ _)))).mono ?_; rintro e w1 ⟨rfl, hb1⟩; rw [hp]; have hs1 := hb1.size; (try simp at hs1); have hk1 := fun o => hb1.cell (p := ⟨w.heap.size, o, none⟩) (by simp <;> omega); have hk2 := fun o => hb1.cell (p := ⟨w.heap.size + 1, o, none⟩) (by simp <;> omega); have hg2 := fun o => hb1.frozen (p := ⟨w.heap.size + 1, o, none⟩) (by simp <;> omega)) | (go_at_call 105; refine (isTime_any _ _).mono ?_; rintro e w' ⟨rfl, rfl⟩; rw [ht]))
      refine (free_any A n c ps t _ HN.out (HR.out.below HL.out (by repeat (first | exact Below.refl _ _ | assumption | exact bstep (by assumption) (by assumption) | (refine bstep ?_ (below_alloc _ _)) | (refine bstep ?_ (by assumption)) | (refine Below.setCell ?_ (by simp <;> omega) _) | refine Below.drew ?_))) (lt_below HL.out (by repeat (first | exact Below.refl _ _ | assumption | exact bstep (by assumption) (by assumption) | (refine bstep ?_ (below_alloc _ _)) | (refine bstep ?_ (by assumption)) | (refine Below.setCell ?_ (by simp <;> omega) _) | refine Below.drew ?_)))).mono ?_
      rintro e w2 ⟨rfl, hb2⟩
      have hs2 := hb2.size
      have hk3 := fun o => hb2.cell (p := ⟨w.heap.size + 1, o, none⟩) (show w.heap.size + 1 < w1.heap.size by omega)
      have hg3 := fun o => hb2.frozen (p := ⟨w.heap.size + 1, o, none⟩) (show w.heap.size + 1 < w1.heap.size by omega)
      go_wp2
      (try go_light)
      refine bodyPost_ret (v := .agg #[.int .i64 (freeV t ps).A, .int .i64 (freeV t ps).B, .int .i64 (freeV t ps).C]) (by simp [results, Try.results45, go_sem, *]) rfl ⟨by rw [HF.out], (by repeat (first | exact Below.refl _ _ | assumption | exact bstep (by assumption) (by assumption) | (refine bstep ?_ (below_alloc _ _)) | (refine bstep ?_ (by assumption)) | (refine Below.setCell ?_ (by simp <;> omega) _) | refine Below.drew ?_))⟩

end Go.Proofs.Ytpfcegjomdppmaa
