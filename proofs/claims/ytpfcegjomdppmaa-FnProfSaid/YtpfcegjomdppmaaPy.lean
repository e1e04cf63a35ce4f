/-
  Taking from a profile and giving back (the program).
-/
import Derived.Test.YtpfcegjomdppmaaPx
import Derived.Test.YtpfcegjomdppmaaPw
import Derived.Shelf.Abstract
namespace Go.Proofs.Ytpfcegjomdppmaa
set_option linter.unusedSimpArgs false
set_option linter.unusedVariables false
set_option linter.unnecessarySimpa false
open Go.RowKit Go.Shelf
theorem chg_vbad {ps : List Q} {lo hi : Int} {fb : V → Bool} (h : ∀ y, fb y = false) (hs : spanB lo hi = true) : chgB ps lo hi fb = false := by
  cases h1 : chgB ps lo hi fb with
  | false => rfl
  | true =>
    have h2 : lo < hi := by
      unfold spanB at hs
      simp only [Bool.and_eq_true, decide_eq_true_eq] at hs
      exact hs.2
    have := chgB_at h1 (timesL_mem.2 (Or.inr (Or.inl rfl))) (Int.le_refl _) h2
    rw [h] at this; cases this
theorem tk_vbad {ps : List Q} {lo hi : Int} {v : V} (hv : v.ok = false) (hs : spanB lo hi = true) : takeB ps lo hi v = false ∧ tkV ps lo hi v = [] := by
  have e : takeB ps lo hi v = false := by
    have : chgB ps lo hi (fun x => subB x v) = false := chg_vbad (fun y => by
      cases h : subB y v with
      | false => rfl
      | true => have := (sub_ok h).2.2; rw [hv] at this; cases this) hs
    unfold takeB; rw [this]; simp
  exact ⟨e, by unfold tkV; rw [e]; rfl⟩
theorem gv_vbad {ps : List Q} {lo hi : Int} {v : V} (hv : v.ok = false) (hs : spanB lo hi = true) : giveB ps lo hi v = false ∧ gvV ps lo hi v = [] := by
  have e : giveB ps lo hi v = false := by
    have : chgB ps lo hi (fun x => addB x v) = false := chg_vbad (fun y => by
      cases h : addB y v with
      | false => rfl
      | true => have := (add_ok h).2.2; rw [hv] at this; cases this) hs
    unfold giveB; rw [this]; simp
  exact ⟨e, by unfold gvV; rw [e]; rfl⟩

set_option maxHeartbeats 2000000 in
theorem take1_any (y v : V) (bv : Nat) (w : World) (hl : bv < w.heap.size) (h0 : w.cell? ⟨bv, 0, none⟩ = some (.int .i64 v.A)) (h1 : w.cell? ⟨bv, 1, none⟩ = some (.int .i64 v.B)) (h2 : w.cell? ⟨bv, 2, none⟩ = some (.int .i64 v.C)) :
    Calls Try.prog 100 #[.agg #[.int .i64 y.A, .int .i64 y.B, .int .i64 y.C], .pointer (some ⟨bv, 0, none⟩)] w fun e w' => e = .returned (.tuple #[.agg #[.int .i64 (subV y v).A, .int .i64 (subV y v).B, .int .i64 (subV y v).C], .bool (subB y v)]) ∧ Below w.heap.size w w' := by
  go_enter Try.func100, Try.ntmps100
  go_wp2_with fail
  refine (sub_raw y v _).mono ?_
  rintro e w1 ⟨rfl, hb1⟩
  have hs1 := hb1.size
  (try simp at hs1)
  have hy10 : w.heap.size < w1.heap.size := by omega
  have hk10 := fun o => hb1.cell (p := ⟨w.heap.size, o, none⟩) (by first | omega | (simp <;> omega))
  have hg10 := fun o => hb1.frozen (p := ⟨w.heap.size, o, none⟩) (by first | omega | (simp <;> omega))
  have hy11 : w.heap.size + 1 < w1.heap.size := by omega
  have hk11 := fun o => hb1.cell (p := ⟨w.heap.size + 1, o, none⟩) (by first | omega | (simp <;> omega))
  have hg11 := fun o => hb1.frozen (p := ⟨w.heap.size + 1, o, none⟩) (by first | omega | (simp <;> omega))
  go_wp2
  (try go_light)
  refine bodyPost_ret (v := .tuple #[.agg #[.int .i64 (subV y v).A, .int .i64 (subV y v).B, .int .i64 (subV y v).C], .bool (subB y v)]) (by simp [results, Try.results100, go_sem, *]) rfl ?_
  exact ⟨rfl, (by repeat (first | exact Below.refl _ _ | assumption | (refine bstep ?_ (below_drewN _ _)) | exact bstep (by assumption) (by assumption) | (refine bstep ?_ (below_alloc _ _)) | (refine bstep ?_ (by assumption)) | (refine Below.setCell ?_ (by simp <;> omega) _) | refine Below.drew ?_))⟩

set_option maxHeartbeats 2000000 in
theorem give1_any (y v : V) (bv : Nat) (w : World) (hl : bv < w.heap.size) (h0 : w.cell? ⟨bv, 0, none⟩ = some (.int .i64 v.A)) (h1 : w.cell? ⟨bv, 1, none⟩ = some (.int .i64 v.B)) (h2 : w.cell? ⟨bv, 2, none⟩ = some (.int .i64 v.C)) :
    Calls Try.prog 96 #[.agg #[.int .i64 y.A, .int .i64 y.B, .int .i64 y.C], .pointer (some ⟨bv, 0, none⟩)] w fun e w' => e = .returned (.tuple #[.agg #[.int .i64 (addV y v).A, .int .i64 (addV y v).B, .int .i64 (addV y v).C], .bool (addB y v)]) ∧ Below w.heap.size w w' := by
  go_enter Try.func96, Try.ntmps96
  go_wp2_with fail
  refine (add_raw y v _).mono ?_
  rintro e w1 ⟨rfl, hb1⟩
  have hs1 := hb1.size
  (try simp at hs1)
  have hy10 : w.heap.size < w1.heap.size := by omega
  have hk10 := fun o => hb1.cell (p := ⟨w.heap.size, o, none⟩) (by first | omega | (simp <;> omega))
  have hg10 := fun o => hb1.frozen (p := ⟨w.heap.size, o, none⟩) (by first | omega | (simp <;> omega))
  have hy11 : w.heap.size + 1 < w1.heap.size := by omega
  have hk11 := fun o => hb1.cell (p := ⟨w.heap.size + 1, o, none⟩) (by first | omega | (simp <;> omega))
  have hg11 := fun o => hb1.frozen (p := ⟨w.heap.size + 1, o, none⟩) (by first | omega | (simp <;> omega))
  go_wp2
  (try go_light)
  refine bodyPost_ret (v := .tuple #[.agg #[.int .i64 (addV y v).A, .int .i64 (addV y v).B, .int .i64 (addV y v).C], .bool (addB y v)]) (by simp [results, Try.results96, go_sem, *]) rfl ?_
  exact ⟨rfl, (by repeat (first | exact Below.refl _ _ | assumption | (refine bstep ?_ (below_drewN _ _)) | exact bstep (by assumption) (by assumption) | (refine bstep ?_ (below_alloc _ _)) | (refine bstep ?_ (by assumption)) | (refine Below.setCell ?_ (by simp <;> omega) _) | refine Below.drew ?_))⟩

set_option maxHeartbeats 4000000 in
theorem take_any (A : Option Addr) (n c : Nat) (ps : List Q) (lo hi : Int) (v : V) (w : World) (hn : n ≤ 1048576) (hr : Rd w A n 4 (flat ps)) (hl : ∀ g, A = some ⟨g, 0, none⟩ → g < w.heap.size) :
    Calls Try.prog 43 #[.agg #[.slice A n c], .int .i64 lo, .int .i64 hi, .agg #[.int .i64 v.A, .int .i64 v.B, .int .i64 v.C]] w fun e w' => ∃ u, e = .returned (.tuple #[.agg #[u], .bool (takeB ps lo hi v)]) ∧ w'.ownsRow w.heap.size 138 4 u (tkV ps lo hi v).length (flat (tkV ps lo hi v)) ∧ Below w.heap.size w w' := by
  cases hok : profOkB ps
  · have HF := Lib.hid (tk_no (lo := lo) (hi := hi) (v := v) (show minB ps lo hi = false by unfold minB; rw [hok]; rfl))
    have HK := Lib.hid hok
    clear hok
    have hpl : ps.length = n := by have := hr.1; rw [flat_len] at this; omega
    have hm : n ≤ 9223372036854775807 := by omega
    have HN := Lib.hid hn
    have HR := Lib.hid hr
    have HL := Lib.hid hl
    have HP := Lib.hid hpl
    clear hn hr hl hpl
    go_enter Try.func43, Try.ntmps43
    go_wp2_with fail
    refine (profOk_any A n c ps _ HN.out (HR.out.below HL.out (by repeat (first | exact Below.refl _ _ | assumption | (refine bstep ?_ (below_drewN _ _)) | exact bstep (by assumption) (by assumption) | (refine bstep ?_ (below_alloc _ _)) | (refine bstep ?_ (by assumption)) | (refine Below.setCell ?_ (by simp <;> omega) _) | refine Below.drew ?_))) (lt_below HL.out (by repeat (first | exact Below.refl _ _ | assumption | (refine bstep ?_ (below_drewN _ _)) | exact bstep (by assumption) (by assumption) | (refine bstep ?_ (below_alloc _ _)) | (refine bstep ?_ (by assumption)) | (refine Below.setCell ?_ (by simp <;> omega) _) | refine Below.drew ?_)))).mono ?_
    rintro e w1 ⟨rfl, hb1⟩
    have hs1 := hb1.size
    (try simp at hs1)
    have hy10 : w.heap.size < w1.heap.size := by omega
    have hk10 := fun o => hb1.cell (p := ⟨w.heap.size, o, none⟩) (by first | omega | (simp <;> omega))
    have hg10 := fun o => hb1.frozen (p := ⟨w.heap.size, o, none⟩) (by first | omega | (simp <;> omega))
    have hy11 : w.heap.size + 1 < w1.heap.size := by omega
    have hk11 := fun o => hb1.cell (p := ⟨w.heap.size + 1, o, none⟩) (by first | omega | (simp <;> omega))
    have hg11 := fun o => hb1.frozen (p := ⟨w.heap.size + 1, o, none⟩) (by first | omega | (simp <;> omega))
    have hy12 : w.heap.size + 1 + 1 < w1.heap.size := by omega
    have hk12 := fun o => hb1.cell (p := ⟨w.heap.size + 1 + 1, o, none⟩) (by first | omega | (simp <;> omega))
    have hg12 := fun o => hb1.frozen (p := ⟨w.heap.size + 1 + 1, o, none⟩) (by first | omega | (simp <;> omega))
    rw [HK.out]
    go_wp2
    (try go_light)
    refine bodyPost_ret (v := .tuple #[.agg #[.slice none 0 0], .bool false]) (by simp [results, Try.results43, go_sem, *]) rfl ?_
    refine ⟨_, by rw [HF.out.1], ?_, ?_⟩
    · rw [HF.out.2]; exact own_nil _ _ _ _
    · repeat (first | exact Below.refl _ _ | assumption | (refine bstep ?_ (below_drewN _ _)) | exact bstep (by assumption) (by assumption) | (refine bstep ?_ (below_alloc _ _)) | (refine bstep ?_ (by assumption)) | (refine Below.setCell ?_ (by simp <;> omega) _) | refine Below.drew ?_)
  · have HK := Lib.hid hok
    clear hok
    cases hsp : spanB lo hi
    · have HF := Lib.hid (tk_no (ps := ps) (v := v) (show minB ps lo hi = false by unfold minB; rw [hsp, Bool.and_false]))
      have HS := Lib.hid hsp
      clear hsp
      have hpl : ps.length = n := by have := hr.1; rw [flat_len] at this; omega
      have hm : n ≤ 9223372036854775807 := by omega
      have HN := Lib.hid hn
      have HR := Lib.hid hr
      have HL := Lib.hid hl
      have HP := Lib.hid hpl
      clear hn hr hl hpl
      go_enter Try.func43, Try.ntmps43
      go_wp2_with fail
      refine (profOk_any A n c ps _ HN.out (HR.out.below HL.out (by repeat (first | exact Below.refl _ _ | assumption | (refine bstep ?_ (below_drewN _ _)) | exact bstep (by assumption) (by assumption) | (refine bstep ?_ (below_alloc _ _)) | (refine bstep ?_ (by assumption)) | (refine Below.setCell ?_ (by simp <;> omega) _) | refine Below.drew ?_))) (lt_below HL.out (by repeat (first | exact Below.refl _ _ | assumption | (refine bstep ?_ (below_drewN _ _)) | exact bstep (by assumption) (by assumption) | (refine bstep ?_ (below_alloc _ _)) | (refine bstep ?_ (by assumption)) | (refine Below.setCell ?_ (by simp <;> omega) _) | refine Below.drew ?_)))).mono ?_
      rintro e w1 ⟨rfl, hb1⟩
      have hs1 := hb1.size
      (try simp at hs1)
      have hy10 : w.heap.size < w1.heap.size := by omega
      have hk10 := fun o => hb1.cell (p := ⟨w.heap.size, o, none⟩) (by first | omega | (simp <;> omega))
      have hg10 := fun o => hb1.frozen (p := ⟨w.heap.size, o, none⟩) (by first | omega | (simp <;> omega))
      have hy11 : w.heap.size + 1 < w1.heap.size := by omega
      have hk11 := fun o => hb1.cell (p := ⟨w.heap.size + 1, o, none⟩) (by first | omega | (simp <;> omega))
      have hg11 := fun o => hb1.frozen (p := ⟨w.heap.size + 1, o, none⟩) (by first | omega | (simp <;> omega))
      have hy12 : w.heap.size + 1 + 1 < w1.heap.size := by omega
      have hk12 := fun o => hb1.cell (p := ⟨w.heap.size + 1 + 1, o, none⟩) (by first | omega | (simp <;> omega))
      have hg12 := fun o => hb1.frozen (p := ⟨w.heap.size + 1 + 1, o, none⟩) (by first | omega | (simp <;> omega))
      rw [HK.out]
      go_wp2_with fail
      refine (isSpan_any lo hi _).mono ?_
      rintro e w3 ⟨rfl, rfl⟩
      rw [HS.out]
      go_wp2
      (try go_light)
      refine bodyPost_ret (v := .tuple #[.agg #[.slice none 0 0], .bool false]) (by simp [results, Try.results43, go_sem, *]) rfl ?_
      refine ⟨_, by rw [HF.out.1], ?_, ?_⟩
      · rw [HF.out.2]; exact own_nil _ _ _ _
      · repeat (first | exact Below.refl _ _ | assumption | (refine bstep ?_ (below_drewN _ _)) | exact bstep (by assumption) (by assumption) | (refine bstep ?_ (below_alloc _ _)) | (refine bstep ?_ (by assumption)) | (refine Below.setCell ?_ (by simp <;> omega) _) | refine Below.drew ?_)
    · cases hv : v.ok
      · have HF := Lib.hid (tk_vbad (ps := ps) hv hsp)
        have HS := Lib.hid hsp
        have HV : Hid (vecOkB v.A v.B v.C = false) := Lib.hid hv
        clear hsp hv
        have hpl : ps.length = n := by have := hr.1; rw [flat_len] at this; omega
        have hm : n ≤ 9223372036854775807 := by omega
        have HN := Lib.hid hn
        have HR := Lib.hid hr
        have HL := Lib.hid hl
        have HP := Lib.hid hpl
        clear hn hr hl hpl
        go_enter Try.func43, Try.ntmps43
        go_wp2_with fail
        refine (profOk_any A n c ps _ HN.out (HR.out.below HL.out (by repeat (first | exact Below.refl _ _ | assumption | (refine bstep ?_ (below_drewN _ _)) | exact bstep (by assumption) (by assumption) | (refine bstep ?_ (below_alloc _ _)) | (refine bstep ?_ (by assumption)) | (refine Below.setCell ?_ (by simp <;> omega) _) | refine Below.drew ?_))) (lt_below HL.out (by repeat (first | exact Below.refl _ _ | assumption | (refine bstep ?_ (below_drewN _ _)) | exact bstep (by assumption) (by assumption) | (refine bstep ?_ (below_alloc _ _)) | (refine bstep ?_ (by assumption)) | (refine Below.setCell ?_ (by simp <;> omega) _) | refine Below.drew ?_)))).mono ?_
        rintro e w1 ⟨rfl, hb1⟩
        have hs1 := hb1.size
        (try simp at hs1)
        have hy10 : w.heap.size < w1.heap.size := by omega
        have hk10 := fun o => hb1.cell (p := ⟨w.heap.size, o, none⟩) (by first | omega | (simp <;> omega))
        have hg10 := fun o => hb1.frozen (p := ⟨w.heap.size, o, none⟩) (by first | omega | (simp <;> omega))
        have hy11 : w.heap.size + 1 < w1.heap.size := by omega
        have hk11 := fun o => hb1.cell (p := ⟨w.heap.size + 1, o, none⟩) (by first | omega | (simp <;> omega))
        have hg11 := fun o => hb1.frozen (p := ⟨w.heap.size + 1, o, none⟩) (by first | omega | (simp <;> omega))
        have hy12 : w.heap.size + 1 + 1 < w1.heap.size := by omega
        have hk12 := fun o => hb1.cell (p := ⟨w.heap.size + 1 + 1, o, none⟩) (by first | omega | (simp <;> omega))
        have hg12 := fun o => hb1.frozen (p := ⟨w.heap.size + 1 + 1, o, none⟩) (by first | omega | (simp <;> omega))
        rw [HK.out]
        go_wp2_with fail
        refine (isSpan_any lo hi _).mono ?_
        rintro e w3 ⟨rfl, rfl⟩
        rw [HS.out]
        go_wp2_with fail
        refine (vecOk_raw v.A v.B v.C _).mono ?_
        rintro e w2 ⟨rfl, hb2⟩
        have hs2 := hb2.size
        (try simp at hs2)
        have hy20 : w.heap.size < w2.heap.size := by omega
        have hk20 := fun o => hb2.cell (p := ⟨w.heap.size, o, none⟩) (by first | omega | (simp <;> omega))
        have hg20 := fun o => hb2.frozen (p := ⟨w.heap.size, o, none⟩) (by first | omega | (simp <;> omega))
        have hy21 : w.heap.size + 1 < w2.heap.size := by omega
        have hk21 := fun o => hb2.cell (p := ⟨w.heap.size + 1, o, none⟩) (by first | omega | (simp <;> omega))
        have hg21 := fun o => hb2.frozen (p := ⟨w.heap.size + 1, o, none⟩) (by first | omega | (simp <;> omega))
        have hy22 : w.heap.size + 1 + 1 < w2.heap.size := by omega
        have hk22 := fun o => hb2.cell (p := ⟨w.heap.size + 1 + 1, o, none⟩) (by first | omega | (simp <;> omega))
        have hg22 := fun o => hb2.frozen (p := ⟨w.heap.size + 1 + 1, o, none⟩) (by first | omega | (simp <;> omega))
        rw [HV.out]
        go_wp2
        (try go_light)
        refine bodyPost_ret (v := .tuple #[.agg #[.slice none 0 0], .bool false]) (by simp [results, Try.results43, go_sem, *]) rfl ?_
        refine ⟨_, by rw [HF.out.1], ?_, ?_⟩
        · rw [HF.out.2]; exact own_nil _ _ _ _
        · repeat (first | exact Below.refl _ _ | assumption | (refine bstep ?_ (below_drewN _ _)) | exact bstep (by assumption) (by assumption) | (refine bstep ?_ (below_alloc _ _)) | (refine bstep ?_ (by assumption)) | (refine Below.setCell ?_ (by simp <;> omega) _) | refine Below.drew ?_)
      · have HE := Lib.hid (tk_eq (v := v) (show minB ps lo hi = true by unfold minB; rw [HK.out, hsp]; rfl))
        have HS := Lib.hid hsp
        have HV : Hid (vecOkB v.A v.B v.C = true) := Lib.hid hv
        clear hsp hv
        have hpl : ps.length = n := by have := hr.1; rw [flat_len] at this; omega
        have hm : n ≤ 9223372036854775807 := by omega
        have HN := Lib.hid hn
        have HR := Lib.hid hr
        have HL := Lib.hid hl
        have HP := Lib.hid hpl
        clear hn hr hl hpl
        have HEG : Hid (∀ args w, (callFunc 100 args).run Try.prog w = .ok (.enter 100 args) w) := Lib.hid (enters_of Try.func100 (by kernel_rfl) rfl)
        go_enter Try.func43, Try.ntmps43
        go_wp2_with fail
        refine (profOk_any A n c ps _ HN.out (HR.out.below HL.out (by repeat (first | exact Below.refl _ _ | assumption | (refine bstep ?_ (below_drewN _ _)) | exact bstep (by assumption) (by assumption) | (refine bstep ?_ (below_alloc _ _)) | (refine bstep ?_ (by assumption)) | (refine Below.setCell ?_ (by simp <;> omega) _) | refine Below.drew ?_))) (lt_below HL.out (by repeat (first | exact Below.refl _ _ | assumption | (refine bstep ?_ (below_drewN _ _)) | exact bstep (by assumption) (by assumption) | (refine bstep ?_ (below_alloc _ _)) | (refine bstep ?_ (by assumption)) | (refine Below.setCell ?_ (by simp <;> omega) _) | refine Below.drew ?_)))).mono ?_
        rintro e w1 ⟨rfl, hb1⟩
        have hs1 := hb1.size
        (try simp at hs1)
        have hy10 : w.heap.size < w1.heap.size := by omega
        have hk10 := fun o => hb1.cell (p := ⟨w.heap.size, o, none⟩) (by first | omega | (simp <;> omega))
        have hg10 := fun o => hb1.frozen (p := ⟨w.heap.size, o, none⟩) (by first | omega | (simp <;> omega))
        have hy11 : w.heap.size + 1 < w1.heap.size := by omega
        have hk11 := fun o => hb1.cell (p := ⟨w.heap.size + 1, o, none⟩) (by first | omega | (simp <;> omega))
        have hg11 := fun o => hb1.frozen (p := ⟨w.heap.size + 1, o, none⟩) (by first | omega | (simp <;> omega))
        have hy12 : w.heap.size + 1 + 1 < w1.heap.size := by omega
        have hk12 := fun o => hb1.cell (p := ⟨w.heap.size + 1 + 1, o, none⟩) (by first | omega | (simp <;> omega))
        have hg12 := fun o => hb1.frozen (p := ⟨w.heap.size + 1 + 1, o, none⟩) (by first | omega | (simp <;> omega))
        rw [HK.out]
        go_wp2_with fail
        refine (isSpan_any lo hi _).mono ?_
        rintro e w3 ⟨rfl, rfl⟩
        rw [HS.out]
        go_wp2_with fail
        refine (vecOk_raw v.A v.B v.C _).mono ?_
        rintro e w2 ⟨rfl, hb2⟩
        have hs2 := hb2.size
        (try simp at hs2)
        have hy20 : w.heap.size < w2.heap.size := by omega
        have hk20 := fun o => hb2.cell (p := ⟨w.heap.size, o, none⟩) (by first | omega | (simp <;> omega))
        have hg20 := fun o => hb2.frozen (p := ⟨w.heap.size, o, none⟩) (by first | omega | (simp <;> omega))
        have hy21 : w.heap.size + 1 < w2.heap.size := by omega
        have hk21 := fun o => hb2.cell (p := ⟨w.heap.size + 1, o, none⟩) (by first | omega | (simp <;> omega))
        have hg21 := fun o => hb2.frozen (p := ⟨w.heap.size + 1, o, none⟩) (by first | omega | (simp <;> omega))
        have hy22 : w.heap.size + 1 + 1 < w2.heap.size := by omega
        have hk22 := fun o => hb2.cell (p := ⟨w.heap.size + 1 + 1, o, none⟩) (by first | omega | (simp <;> omega))
        have hg22 := fun o => hb2.frozen (p := ⟨w.heap.size + 1 + 1, o, none⟩) (by first | omega | (simp <;> omega))
        rw [HV.out]
        have hw2 : w.heap.size + 1 < w2.heap.size := by omega
        have x0 : w2.cell? ⟨w.heap.size + 1, 0, none⟩ = some (.int .i64 v.A) := by simp [go_sem, *]
        have x1 : w2.cell? ⟨w.heap.size + 1, 1, none⟩ = some (.int .i64 v.B) := by simp [go_sem, *]
        have x2 : w2.cell? ⟨w.heap.size + 1, 2, none⟩ = some (.int .i64 v.C) := by simp [go_sem, *]
        go_wp2_with fail
        refine (changed_any A n c ps lo hi (fun y => subV y v) (fun y => subB y v) 100 #[.pointer (some ⟨w.heap.size + 1, 0, none⟩)] _ HN.out (HR.out.below HL.out (by repeat (first | exact Below.refl _ _ | assumption | (refine bstep ?_ (below_drewN _ _)) | exact bstep (by assumption) (by assumption) | (refine bstep ?_ (below_alloc _ _)) | (refine bstep ?_ (by assumption)) | (refine Below.setCell ?_ (by simp <;> omega) _) | refine Below.drew ?_))) (lt_below HL.out (by repeat (first | exact Below.refl _ _ | assumption | (refine bstep ?_ (below_drewN _ _)) | exact bstep (by assumption) (by assumption) | (refine bstep ?_ (below_alloc _ _)) | (refine bstep ?_ (by assumption)) | (refine Below.setCell ?_ (by simp <;> omega) _) | refine Below.drew ?_))) HK.out HEG.out (fun y W hW => take1_any y v (w.heap.size + 1) W (Nat.lt_of_lt_of_le hw2 hW.size) ((hW.cell (p := ⟨w.heap.size + 1, 0, none⟩) hw2).trans x0) ((hW.cell (p := ⟨w.heap.size + 1, 1, none⟩) hw2).trans x1) ((hW.cell (p := ⟨w.heap.size + 1, 2, none⟩) hw2).trans x2))).mono ?_
        rintro e w4 ⟨u, rfl, own4, hb4⟩
        have hs4 := hb4.size
        (try simp at hs4)
        have hy40 : w.heap.size < w4.heap.size := by omega
        have hk40 := fun o => hb4.cell (p := ⟨w.heap.size, o, none⟩) (by first | omega | (simp <;> omega))
        have hg40 := fun o => hb4.frozen (p := ⟨w.heap.size, o, none⟩) (by first | omega | (simp <;> omega))
        have hy41 : w.heap.size + 1 < w4.heap.size := by omega
        have hk41 := fun o => hb4.cell (p := ⟨w.heap.size + 1, o, none⟩) (by first | omega | (simp <;> omega))
        have hg41 := fun o => hb4.frozen (p := ⟨w.heap.size + 1, o, none⟩) (by first | omega | (simp <;> omega))
        have hy42 : w.heap.size + 1 + 1 < w4.heap.size := by omega
        have hk42 := fun o => hb4.cell (p := ⟨w.heap.size + 1 + 1, o, none⟩) (by first | omega | (simp <;> omega))
        have hg42 := fun o => hb4.frozen (p := ⟨w.heap.size + 1 + 1, o, none⟩) (by first | omega | (simp <;> omega))
        rw [HE.out.1, HE.out.2] at *
        obtain ⟨U, cu, rfl, ru⟩ := own_rd own4
        clear ru
        have OW := Lib.hid own4
        clear own4
        have NE : Hid (∀ k, (Value.slice U (tkV ps lo hi v).length cu).ownBlock = some k → k ≠ w.heap.size + 1 + 1) := Lib.hid (fun k hk => by have := own_ge OW.out k hk; (try simp at this); omega)
        go_wp2
        (try go_light)
        refine bodyPost_ret (v := .tuple #[.agg #[.slice U (tkV ps lo hi v).length cu], .bool (takeB ps lo hi v)]) (by simp [results, Try.results43, go_sem, *]) rfl ?_
        refine ⟨_, rfl, ?_, ?_⟩
        · have h9 := own_set (a := ⟨w.heap.size + 1 + 1, 0, none⟩) OW.out NE.out (.slice U (tkV ps lo hi v).length cu)
          exact own_mono h9 (by have := hs1; have := hs2; simp <;> omega)
        · repeat (first | exact Below.refl _ _ | assumption | (refine bstep ?_ (below_drewN _ _)) | exact bstep (by assumption) (by assumption) | (refine bstep ?_ (below_alloc _ _)) | (refine bstep ?_ (by assumption)) | (refine Below.setCell ?_ (by simp <;> omega) _) | refine Below.drew ?_)

set_option maxHeartbeats 4000000 in
theorem give_any (A : Option Addr) (n c : Nat) (ps : List Q) (lo hi : Int) (v : V) (w : World) (hn : n ≤ 1048576) (hr : Rd w A n 4 (flat ps)) (hl : ∀ g, A = some ⟨g, 0, none⟩ → g < w.heap.size) :
    Calls Try.prog 38 #[.agg #[.slice A n c], .int .i64 lo, .int .i64 hi, .agg #[.int .i64 v.A, .int .i64 v.B, .int .i64 v.C]] w fun e w' => ∃ u, e = .returned (.tuple #[.agg #[u], .bool (giveB ps lo hi v)]) ∧ w'.ownsRow w.heap.size 138 4 u (gvV ps lo hi v).length (flat (gvV ps lo hi v)) ∧ Below w.heap.size w w' := by
  cases hok : profOkB ps
  · have HF := Lib.hid (gv_no (lo := lo) (hi := hi) (v := v) (show minB ps lo hi = false by unfold minB; rw [hok]; rfl))
    have HK := Lib.hid hok
    clear hok
    have hpl : ps.length = n := by have := hr.1; rw [flat_len] at this; omega
    have hm : n ≤ 9223372036854775807 := by omega
    have HN := Lib.hid hn
    have HR := Lib.hid hr
    have HL := Lib.hid hl
    have HP := Lib.hid hpl
    clear hn hr hl hpl
    go_enter Try.func38, Try.ntmps38
    go_wp2_with fail
    refine (profOk_any A n c ps _ HN.out (HR.out.below HL.out (by repeat (first | exact Below.refl _ _ | assumption | (refine bstep ?_ (below_drewN _ _)) | exact bstep (by assumption) (by assumption) | (refine bstep ?_ (below_alloc _ _)) | (refine bstep ?_ (by assumption)) | (refine Below.setCell ?_ (by simp <;> omega) _) | refine Below.drew ?_))) (lt_below HL.out (by repeat (first | exact Below.refl _ _ | assumption | (refine bstep ?_ (below_drewN _ _)) | exact bstep (by assumption) (by assumption) | (refine bstep ?_ (below_alloc _ _)) | (refine bstep ?_ (by assumption)) | (refine Below.setCell ?_ (by simp <;> omega) _) | refine Below.drew ?_)))).mono ?_
    rintro e w1 ⟨rfl, hb1⟩
    have hs1 := hb1.size
    (try simp at hs1)
    have hy10 : w.heap.size < w1.heap.size := by omega
    have hk10 := fun o => hb1.cell (p := ⟨w.heap.size, o, none⟩) (by first | omega | (simp <;> omega))
    have hg10 := fun o => hb1.frozen (p := ⟨w.heap.size, o, none⟩) (by first | omega | (simp <;> omega))
    have hy11 : w.heap.size + 1 < w1.heap.size := by omega
    have hk11 := fun o => hb1.cell (p := ⟨w.heap.size + 1, o, none⟩) (by first | omega | (simp <;> omega))
    have hg11 := fun o => hb1.frozen (p := ⟨w.heap.size + 1, o, none⟩) (by first | omega | (simp <;> omega))
    have hy12 : w.heap.size + 1 + 1 < w1.heap.size := by omega
    have hk12 := fun o => hb1.cell (p := ⟨w.heap.size + 1 + 1, o, none⟩) (by first | omega | (simp <;> omega))
    have hg12 := fun o => hb1.frozen (p := ⟨w.heap.size + 1 + 1, o, none⟩) (by first | omega | (simp <;> omega))
    rw [HK.out]
    go_wp2
    (try go_light)
    refine bodyPost_ret (v := .tuple #[.agg #[.slice none 0 0], .bool false]) (by simp [results, Try.results38, go_sem, *]) rfl ?_
    refine ⟨_, by rw [HF.out.1], ?_, ?_⟩
    · rw [HF.out.2]; exact own_nil _ _ _ _
    · repeat (first | exact Below.refl _ _ | assumption | (refine bstep ?_ (below_drewN _ _)) | exact bstep (by assumption) (by assumption) | (refine bstep ?_ (below_alloc _ _)) | (refine bstep ?_ (by assumption)) | (refine Below.setCell ?_ (by simp <;> omega) _) | refine Below.drew ?_)
  · have HK := Lib.hid hok
    clear hok
    cases hsp : spanB lo hi
    · have HF := Lib.hid (gv_no (ps := ps) (v := v) (show minB ps lo hi = false by unfold minB; rw [hsp, Bool.and_false]))
      have HS := Lib.hid hsp
      clear hsp
      have hpl : ps.length = n := by have := hr.1; rw [flat_len] at this; omega
      have hm : n ≤ 9223372036854775807 := by omega
      have HN := Lib.hid hn
      have HR := Lib.hid hr
      have HL := Lib.hid hl
      have HP := Lib.hid hpl
      clear hn hr hl hpl
      go_enter Try.func38, Try.ntmps38
      go_wp2_with fail
      refine (profOk_any A n c ps _ HN.out (HR.out.below HL.out (by repeat (first | exact Below.refl _ _ | assumption | (refine bstep ?_ (below_drewN _ _)) | exact bstep (by assumption) (by assumption) | (refine bstep ?_ (below_alloc _ _)) | (refine bstep ?_ (by assumption)) | (refine Below.setCell ?_ (by simp <;> omega) _) | refine Below.drew ?_))) (lt_below HL.out (by repeat (first | exact Below.refl _ _ | assumption | (refine bstep ?_ (below_drewN _ _)) | exact bstep (by assumption) (by assumption) | (refine bstep ?_ (below_alloc _ _)) | (refine bstep ?_ (by assumption)) | (refine Below.setCell ?_ (by simp <;> omega) _) | refine Below.drew ?_)))).mono ?_
      rintro e w1 ⟨rfl, hb1⟩
      have hs1 := hb1.size
      (try simp at hs1)
      have hy10 : w.heap.size < w1.heap.size := by omega
      have hk10 := fun o => hb1.cell (p := ⟨w.heap.size, o, none⟩) (by first | omega | (simp <;> omega))
      have hg10 := fun o => hb1.frozen (p := ⟨w.heap.size, o, none⟩) (by first | omega | (simp <;> omega))
      have hy11 : w.heap.size + 1 < w1.heap.size := by omega
      have hk11 := fun o => hb1.cell (p := ⟨w.heap.size + 1, o, none⟩) (by first | omega | (simp <;> omega))
      have hg11 := fun o => hb1.frozen (p := ⟨w.heap.size + 1, o, none⟩) (by first | omega | (simp <;> omega))
      have hy12 : w.heap.size + 1 + 1 < w1.heap.size := by omega
      have hk12 := fun o => hb1.cell (p := ⟨w.heap.size + 1 + 1, o, none⟩) (by first | omega | (simp <;> omega))
      have hg12 := fun o => hb1.frozen (p := ⟨w.heap.size + 1 + 1, o, none⟩) (by first | omega | (simp <;> omega))
      rw [HK.out]
      go_wp2_with fail
      refine (isSpan_any lo hi _).mono ?_
      rintro e w3 ⟨rfl, rfl⟩
      rw [HS.out]
      go_wp2
      (try go_light)
      refine bodyPost_ret (v := .tuple #[.agg #[.slice none 0 0], .bool false]) (by simp [results, Try.results38, go_sem, *]) rfl ?_
      refine ⟨_, by rw [HF.out.1], ?_, ?_⟩
      · rw [HF.out.2]; exact own_nil _ _ _ _
      · repeat (first | exact Below.refl _ _ | assumption | (refine bstep ?_ (below_drewN _ _)) | exact bstep (by assumption) (by assumption) | (refine bstep ?_ (below_alloc _ _)) | (refine bstep ?_ (by assumption)) | (refine Below.setCell ?_ (by simp <;> omega) _) | refine Below.drew ?_)
    · cases hv : v.ok
      · have HF := Lib.hid (gv_vbad (ps := ps) hv hsp)
        have HS := Lib.hid hsp
        have HV : Hid (vecOkB v.A v.B v.C = false) := Lib.hid hv
        clear hsp hv
        have hpl : ps.length = n := by have := hr.1; rw [flat_len] at this; omega
        have hm : n ≤ 9223372036854775807 := by omega
        have HN := Lib.hid hn
        have HR := Lib.hid hr
        have HL := Lib.hid hl
        have HP := Lib.hid hpl
        clear hn hr hl hpl
        go_enter Try.func38, Try.ntmps38
        go_wp2_with fail
        refine (profOk_any A n c ps _ HN.out (HR.out.below HL.out (by repeat (first | exact Below.refl _ _ | assumption | (refine bstep ?_ (below_drewN _ _)) | exact bstep (by assumption) (by assumption) | (refine bstep ?_ (below_alloc _ _)) | (refine bstep ?_ (by assumption)) | (refine Below.setCell ?_ (by simp <;> omega) _) | refine Below.drew ?_))) (lt_below HL.out (by repeat (first | exact Below.refl _ _ | assumption | (refine bstep ?_ (below_drewN _ _)) | exact bstep (by assumption) (by assumption) | (refine bstep ?_ (below_alloc _ _)) | (refine bstep ?_ (by assumption)) | (refine Below.setCell ?_ (by simp <;> omega) _) | refine Below.drew ?_)))).mono ?_
        rintro e w1 ⟨rfl, hb1⟩
        have hs1 := hb1.size
        (try simp at hs1)
        have hy10 : w.heap.size < w1.heap.size := by omega
        have hk10 := fun o => hb1.cell (p := ⟨w.heap.size, o, none⟩) (by first | omega | (simp <;> omega))
        have hg10 := fun o => hb1.frozen (p := ⟨w.heap.size, o, none⟩) (by first | omega | (simp <;> omega))
        have hy11 : w.heap.size + 1 < w1.heap.size := by omega
        have hk11 := fun o => hb1.cell (p := ⟨w.heap.size + 1, o, none⟩) (by first | omega | (simp <;> omega))
        have hg11 := fun o => hb1.frozen (p := ⟨w.heap.size + 1, o, none⟩) (by first | omega | (simp <;> omega))
        have hy12 : w.heap.size + 1 + 1 < w1.heap.size := by omega
        have hk12 := fun o => hb1.cell (p := ⟨w.heap.size + 1 + 1, o, none⟩) (by first | omega | (simp <;> omega))
        have hg12 := fun o => hb1.frozen (p := ⟨w.heap.size + 1 + 1, o, none⟩) (by first | omega | (simp <;> omega))
        rw [HK.out]
        go_wp2_with fail
        refine (isSpan_any lo hi _).mono ?_
        rintro e w3 ⟨rfl, rfl⟩
        rw [HS.out]
        go_wp2_with fail
        refine (vecOk_raw v.A v.B v.C _).mono ?_
        rintro e w2 ⟨rfl, hb2⟩
        have hs2 := hb2.size
        (try simp at hs2)
        have hy20 : w.heap.size < w2.heap.size := by omega
        have hk20 := fun o => hb2.cell (p := ⟨w.heap.size, o, none⟩) (by first | omega | (simp <;> omega))
        have hg20 := fun o => hb2.frozen (p := ⟨w.heap.size, o, none⟩) (by first | omega | (simp <;> omega))
        have hy21 : w.heap.size + 1 < w2.heap.size := by omega
        have hk21 := fun o => hb2.cell (p := ⟨w.heap.size + 1, o, none⟩) (by first | omega | (simp <;> omega))
        have hg21 := fun o => hb2.frozen (p := ⟨w.heap.size + 1, o, none⟩) (by first | omega | (simp <;> omega))
        have hy22 : w.heap.size + 1 + 1 < w2.heap.size := by omega
        have hk22 := fun o => hb2.cell (p := ⟨w.heap.size + 1 + 1, o, none⟩) (by first | omega | (simp <;> omega))
        have hg22 := fun o => hb2.frozen (p := ⟨w.heap.size + 1 + 1, o, none⟩) (by first | omega | (simp <;> omega))
        rw [HV.out]
        go_wp2
        (try go_light)
        refine bodyPost_ret (v := .tuple #[.agg #[.slice none 0 0], .bool false]) (by simp [results, Try.results38, go_sem, *]) rfl ?_
        refine ⟨_, by rw [HF.out.1], ?_, ?_⟩
        · rw [HF.out.2]; exact own_nil _ _ _ _
        · repeat (first | exact Below.refl _ _ | assumption | (refine bstep ?_ (below_drewN _ _)) | exact bstep (by assumption) (by assumption) | (refine bstep ?_ (below_alloc _ _)) | (refine bstep ?_ (by assumption)) | (refine Below.setCell ?_ (by simp <;> omega) _) | refine Below.drew ?_)
      · have HE := Lib.hid (gv_eq (v := v) (show minB ps lo hi = true by unfold minB; rw [HK.out, hsp]; rfl))
        have HS := Lib.hid hsp
        have HV : Hid (vecOkB v.A v.B v.C = true) := Lib.hid hv
        clear hsp hv
        have hpl : ps.length = n := by have := hr.1; rw [flat_len] at this; omega
        have hm : n ≤ 9223372036854775807 := by omega
        have HN := Lib.hid hn
        have HR := Lib.hid hr
        have HL := Lib.hid hl
        have HP := Lib.hid hpl
        clear hn hr hl hpl
        have HEG : Hid (∀ args w, (callFunc 96 args).run Try.prog w = .ok (.enter 96 args) w) := Lib.hid (enters_of Try.func96 (by kernel_rfl) rfl)
        go_enter Try.func38, Try.ntmps38
        go_wp2_with fail
        refine (profOk_any A n c ps _ HN.out (HR.out.below HL.out (by repeat (first | exact Below.refl _ _ | assumption | (refine bstep ?_ (below_drewN _ _)) | exact bstep (by assumption) (by assumption) | (refine bstep ?_ (below_alloc _ _)) | (refine bstep ?_ (by assumption)) | (refine Below.setCell ?_ (by simp <;> omega) _) | refine Below.drew ?_))) (lt_below HL.out (by repeat (first | exact Below.refl _ _ | assumption | (refine bstep ?_ (below_drewN _ _)) | exact bstep (by assumption) (by assumption) | (refine bstep ?_ (below_alloc _ _)) | (refine bstep ?_ (by assumption)) | (refine Below.setCell ?_ (by simp <;> omega) _) | refine Below.drew ?_)))).mono ?_
        rintro e w1 ⟨rfl, hb1⟩
        have hs1 := hb1.size
        (try simp at hs1)
        have hy10 : w.heap.size < w1.heap.size := by omega
        have hk10 := fun o => hb1.cell (p := ⟨w.heap.size, o, none⟩) (by first | omega | (simp <;> omega))
        have hg10 := fun o => hb1.frozen (p := ⟨w.heap.size, o, none⟩) (by first | omega | (simp <;> omega))
        have hy11 : w.heap.size + 1 < w1.heap.size := by omega
        have hk11 := fun o => hb1.cell (p := ⟨w.heap.size + 1, o, none⟩) (by first | omega | (simp <;> omega))
        have hg11 := fun o => hb1.frozen (p := ⟨w.heap.size + 1, o, none⟩) (by first | omega | (simp <;> omega))
        have hy12 : w.heap.size + 1 + 1 < w1.heap.size := by omega
        have hk12 := fun o => hb1.cell (p := ⟨w.heap.size + 1 + 1, o, none⟩) (by first | omega | (simp <;> omega))
        have hg12 := fun o => hb1.frozen (p := ⟨w.heap.size + 1 + 1, o, none⟩) (by first | omega | (simp <;> omega))
        rw [HK.out]
        go_wp2_with fail
        refine (isSpan_any lo hi _).mono ?_
        rintro e w3 ⟨rfl, rfl⟩
        rw [HS.out]
        go_wp2_with fail
        refine (vecOk_raw v.A v.B v.C _).mono ?_
        rintro e w2 ⟨rfl, hb2⟩
        have hs2 := hb2.size
        (try simp at hs2)
        have hy20 : w.heap.size < w2.heap.size := by omega
        have hk20 := fun o => hb2.cell (p := ⟨w.heap.size, o, none⟩) (by first | omega | (simp <;> omega))
        have hg20 := fun o => hb2.frozen (p := ⟨w.heap.size, o, none⟩) (by first | omega | (simp <;> omega))
        have hy21 : w.heap.size + 1 < w2.heap.size := by omega
        have hk21 := fun o => hb2.cell (p := ⟨w.heap.size + 1, o, none⟩) (by first | omega | (simp <;> omega))
        have hg21 := fun o => hb2.frozen (p := ⟨w.heap.size + 1, o, none⟩) (by first | omega | (simp <;> omega))
        have hy22 : w.heap.size + 1 + 1 < w2.heap.size := by omega
        have hk22 := fun o => hb2.cell (p := ⟨w.heap.size + 1 + 1, o, none⟩) (by first | omega | (simp <;> omega))
        have hg22 := fun o => hb2.frozen (p := ⟨w.heap.size + 1 + 1, o, none⟩) (by first | omega | (simp <;> omega))
        rw [HV.out]
        have hw2 : w.heap.size + 1 < w2.heap.size := by omega
        have x0 : w2.cell? ⟨w.heap.size + 1, 0, none⟩ = some (.int .i64 v.A) := by simp [go_sem, *]
        have x1 : w2.cell? ⟨w.heap.size + 1, 1, none⟩ = some (.int .i64 v.B) := by simp [go_sem, *]
        have x2 : w2.cell? ⟨w.heap.size + 1, 2, none⟩ = some (.int .i64 v.C) := by simp [go_sem, *]
        go_wp2_with fail
        refine (changed_any A n c ps lo hi (fun y => addV y v) (fun y => addB y v) 96 #[.pointer (some ⟨w.heap.size + 1, 0, none⟩)] _ HN.out (HR.out.below HL.out (by repeat (first | exact Below.refl _ _ | assumption | (refine bstep ?_ (below_drewN _ _)) | exact bstep (by assumption) (by assumption) | (refine bstep ?_ (below_alloc _ _)) | (refine bstep ?_ (by assumption)) | (refine Below.setCell ?_ (by simp <;> omega) _) | refine Below.drew ?_))) (lt_below HL.out (by repeat (first | exact Below.refl _ _ | assumption | (refine bstep ?_ (below_drewN _ _)) | exact bstep (by assumption) (by assumption) | (refine bstep ?_ (below_alloc _ _)) | (refine bstep ?_ (by assumption)) | (refine Below.setCell ?_ (by simp <;> omega) _) | refine Below.drew ?_))) HK.out HEG.out (fun y W hW => give1_any y v (w.heap.size + 1) W (Nat.lt_of_lt_of_le hw2 hW.size) ((hW.cell (p := ⟨w.heap.size + 1, 0, none⟩) hw2).trans x0) ((hW.cell (p := ⟨w.heap.size + 1, 1, none⟩) hw2).trans x1) ((hW.cell (p := ⟨w.heap.size + 1, 2, none⟩) hw2).trans x2))).mono ?_
        rintro e w4 ⟨u, rfl, own4, hb4⟩
        have hs4 := hb4.size
        (try simp at hs4)
        have hy40 : w.heap.size < w4.heap.size := by omega
        have hk40 := fun o => hb4.cell (p := ⟨w.heap.size, o, none⟩) (by first | omega | (simp <;> omega))
        have hg40 := fun o => hb4.frozen (p := ⟨w.heap.size, o, none⟩) (by first | omega | (simp <;> omega))
        have hy41 : w.heap.size + 1 < w4.heap.size := by omega
        have hk41 := fun o => hb4.cell (p := ⟨w.heap.size + 1, o, none⟩) (by first | omega | (simp <;> omega))
        have hg41 := fun o => hb4.frozen (p := ⟨w.heap.size + 1, o, none⟩) (by first | omega | (simp <;> omega))
        have hy42 : w.heap.size + 1 + 1 < w4.heap.size := by omega
        have hk42 := fun o => hb4.cell (p := ⟨w.heap.size + 1 + 1, o, none⟩) (by first | omega | (simp <;> omega))
        have hg42 := fun o => hb4.frozen (p := ⟨w.heap.size + 1 + 1, o, none⟩) (by first | omega | (simp <;> omega))
        rw [HE.out.1, HE.out.2] at *
        obtain ⟨U, cu, rfl, ru⟩ := own_rd own4
        clear ru
        have OW := Lib.hid own4
        clear own4
        have NE : Hid (∀ k, (Value.slice U (gvV ps lo hi v).length cu).ownBlock = some k → k ≠ w.heap.size + 1 + 1) := Lib.hid (fun k hk => by have := own_ge OW.out k hk; (try simp at this); omega)
        go_wp2
        (try go_light)
        refine bodyPost_ret (v := .tuple #[.agg #[.slice U (gvV ps lo hi v).length cu], .bool (giveB ps lo hi v)]) (by simp [results, Try.results38, go_sem, *]) rfl ?_
        refine ⟨_, rfl, ?_, ?_⟩
        · have h9 := own_set (a := ⟨w.heap.size + 1 + 1, 0, none⟩) OW.out NE.out (.slice U (gvV ps lo hi v).length cu)
          exact own_mono h9 (by have := hs1; have := hs2; simp <;> omega)
        · repeat (first | exact Below.refl _ _ | assumption | (refine bstep ?_ (below_drewN _ _)) | exact bstep (by assumption) (by assumption) | (refine bstep ?_ (below_alloc _ _)) | (refine bstep ?_ (by assumption)) | (refine Below.setCell ?_ (by simp <;> omega) _) | refine Below.drew ?_)
end Go.Proofs.Ytpfcegjomdppmaa
