/-
  Taking from a profile and giving back (reference).
-/
import Derived.Test.YtpfcegjomdppmaaPv
import Derived.Test.YtpfcegjomdppmaaA12
namespace Go.Proofs.Ytpfcegjomdppmaa
set_option linter.unusedSimpArgs false
set_option linter.unusedVariables false
set_option linter.unnecessarySimpa false
open Go.RowKit
def tkV (ps : List Q) (lo hi : Int) (v : V) : List Q := if takeB ps lo hi v then takeV ps lo hi v else []
def gvV (ps : List Q) (lo hi : Int) (v : V) : List Q := if giveB ps lo hi v then giveV ps lo hi v else []
theorem tk_eq {ps : List Q} {lo hi : Int} {v : V} (h : minB ps lo hi = true) : cgB ps lo hi (fun y => subV y v) (fun y => subB y v) = takeB ps lo hi v ∧ cgV ps lo hi (fun y => subV y v) (fun y => subB y v) = tkV ps lo hi v := by
  have e : cgB ps lo hi (fun y => subV y v) (fun y => subB y v) = takeB ps lo hi v := by
    unfold minB at h
    unfold cgB takeB
    rw [h]; rfl
  exact ⟨e, by unfold cgV tkV; rw [e]; rfl⟩
theorem gv_eq {ps : List Q} {lo hi : Int} {v : V} (h : minB ps lo hi = true) : cgB ps lo hi (fun y => addV y v) (fun y => addB y v) = giveB ps lo hi v ∧ cgV ps lo hi (fun y => addV y v) (fun y => addB y v) = gvV ps lo hi v := by
  have e : cgB ps lo hi (fun y => addV y v) (fun y => addB y v) = giveB ps lo hi v := by
    unfold minB at h
    unfold cgB giveB
    rw [h]; rfl
  exact ⟨e, by unfold cgV gvV; rw [e]; rfl⟩
theorem tk_no {ps : List Q} {lo hi : Int} {v : V} (h : minB ps lo hi = false) : takeB ps lo hi v = false ∧ tkV ps lo hi v = [] := by
  have e : takeB ps lo hi v = false := by unfold minB at h; unfold takeB; rw [h]; rfl
  exact ⟨e, by unfold tkV; rw [e]; rfl⟩
theorem gv_no {ps : List Q} {lo hi : Int} {v : V} (h : minB ps lo hi = false) : giveB ps lo hi v = false ∧ gvV ps lo hi v = [] := by
  have e : giveB ps lo hi v = false := by unfold minB at h; unfold giveB; rw [h]; rfl
  exact ⟨e, by unfold gvV; rw [e]; rfl⟩
theorem box_own {w w' : World} {lo : Nat} {u : Value} {n : Nat} {xs : List Value} {b : Nat} {vs : Array Value} {t : TypeId} {p : Addr} {x : Value} (h : w.ownsRow lo 138 4 u n xs) (hh : w.heap[b]? = some (.cells vs t (0, 0))) (ht : 138 ≠ t) (hp : p.block = b) : (w.setCell p x).ownsRow lo 138 4 u n xs := own_set h (fun k hk => by rw [hp]; exact own_ne h hh ht k hk) _

set_option maxHeartbeats 4000000 in
theorem stake_any (A : Option Addr) (n c : Nat) (ps : List Q) (lo hi : Int) (v : V) (w : World) (hn : n ≤ 1048576) (hr : Rd w A n 4 (flat ps)) (hl : ∀ g, A = some ⟨g, 0, none⟩ → g < w.heap.size) :
    Calls Try.prog 42 #[.agg #[.slice A n c], .int .i64 lo, .int .i64 hi, .agg #[.int .i64 v.A, .int .i64 v.B, .int .i64 v.C]] w fun e w' => ∃ u, e = .returned (.tuple #[.agg #[u], .bool (takeB ps lo hi v)]) ∧ w'.ownsRow w.heap.size 138 4 u (tkV ps lo hi v).length (flat (tkV ps lo hi v)) ∧ Below w.heap.size w w' := by
  have hpl : ps.length = n := by have := hr.1; rw [flat_len] at this; omega
  have hm : n ≤ 9223372036854775807 := by omega
  have HN := Lib.hid hn
  have HR := Lib.hid hr
  have HL := Lib.hid hl
  have HP := Lib.hid hpl
  clear hn hr hl hpl
  go_enter Try.func42, Try.ntmps42
  go_wp2_with fail
  refine (sprofMin_any A n c ps lo hi _ HN.out (HR.out.below HL.out (by repeat (first | exact Below.refl _ _ | assumption | (refine bstep ?_ (below_drewN _ _)) | exact bstep (by assumption) (by assumption) | (refine bstep ?_ (below_alloc _ _)) | (refine bstep ?_ (by assumption)) | (refine Below.setCell ?_ (by simp <;> omega) _) | refine Below.drew ?_))) (lt_below HL.out (by repeat (first | exact Below.refl _ _ | assumption | (refine bstep ?_ (below_drewN _ _)) | exact bstep (by assumption) (by assumption) | (refine bstep ?_ (below_alloc _ _)) | (refine bstep ?_ (by assumption)) | (refine Below.setCell ?_ (by simp <;> omega) _) | refine Below.drew ?_)))).mono ?_
  rintro e w1 ⟨rfl, hb1⟩
  have hs1 := hb1.size
  (try simp at hs1)
  have hy10 : w.heap.size < w1.heap.size := by omega
  have hk10 := fun o => hb1.cell (p := ⟨w.heap.size, o, none⟩) (by first | omega | (simp <;> omega))
  have hg10 := fun o => hb1.frozen (p := ⟨w.heap.size, o, none⟩) (by first | omega | (simp <;> omega))
  have hy11 : w.heap.size + 1 < w1.heap.size := by omega
  have hk11 := fun o => hb1.cell (p := ⟨w.heap.size + 1, o, none⟩) (by first | omega | (simp <;> omega))
  have hg11 := fun o => hb1.frozen (p := ⟨w.heap.size + 1, o, none⟩) (by first | omega | (simp <;> omega))
  have hy12 : w.heap.size + 1 + 1 < w1.heap.size := by omega
  have hk12 := fun o => hb1.cell (p := ⟨w.heap.size + 1 + 1, o, none⟩) (by first | omega | (simp <;> omega))
  have hg12 := fun o => hb1.frozen (p := ⟨w.heap.size + 1 + 1, o, none⟩) (by first | omega | (simp <;> omega))
  cases hm : minB ps lo hi
  · have HF := Lib.hid (tk_no (v := v) hm)
    clear hm
    go_wp2
    (try go_light)
    refine bodyPost_ret (v := .tuple #[.agg #[.slice none 0 0], .bool false]) (by simp [results, Try.results42, go_sem, *]) rfl ?_
    refine ⟨_, by rw [HF.out.1], ?_, ?_⟩
    · rw [HF.out.2]; exact own_nil _ _ _ _
    · repeat (first | exact Below.refl _ _ | assumption | (refine bstep ?_ (below_drewN _ _)) | exact bstep (by assumption) (by assumption) | (refine bstep ?_ (below_alloc _ _)) | (refine bstep ?_ (by assumption)) | (refine Below.setCell ?_ (by simp <;> omega) _) | refine Below.drew ?_)
  · have HE := Lib.hid (tk_eq (v := v) hm)
    have hmm := hm
    simp only [minB, Bool.and_eq_true] at hmm
    have HO := Lib.hid hmm.1
    have HSP := Lib.hid hmm.2
    clear hm hmm
    go_wp2_with fail
    refine (schange_sub A n c ps lo hi v _ HN.out (HR.out.below HL.out (by repeat (first | exact Below.refl _ _ | assumption | (refine bstep ?_ (below_drewN _ _)) | exact bstep (by assumption) (by assumption) | (refine bstep ?_ (below_alloc _ _)) | (refine bstep ?_ (by assumption)) | (refine Below.setCell ?_ (by simp <;> omega) _) | refine Below.drew ?_))) (lt_below HL.out (by repeat (first | exact Below.refl _ _ | assumption | (refine bstep ?_ (below_drewN _ _)) | exact bstep (by assumption) (by assumption) | (refine bstep ?_ (below_alloc _ _)) | (refine bstep ?_ (by assumption)) | (refine Below.setCell ?_ (by simp <;> omega) _) | refine Below.drew ?_))) HO.out HSP.out).mono ?_
    rintro e w2 ⟨u, rfl, own2, hb2⟩
    have hs2 := hb2.size
    (try simp at hs2)
    have hy20 : w.heap.size < w2.heap.size := by omega
    have hk20 := fun o => hb2.cell (p := ⟨w.heap.size, o, none⟩) (by first | omega | (simp <;> omega))
    have hg20 := fun o => hb2.frozen (p := ⟨w.heap.size, o, none⟩) (by first | omega | (simp <;> omega))
    have hy21 : w.heap.size + 1 < w2.heap.size := by omega
    have hk21 := fun o => hb2.cell (p := ⟨w.heap.size + 1, o, none⟩) (by first | omega | (simp <;> omega))
    have hg21 := fun o => hb2.frozen (p := ⟨w.heap.size + 1, o, none⟩) (by first | omega | (simp <;> omega))
    have hy22 : w.heap.size + 1 + 1 < w2.heap.size := by omega
    have hk22 := fun o => hb2.cell (p := ⟨w.heap.size + 1 + 1, o, none⟩) (by first | omega | (simp <;> omega))
    have hg22 := fun o => hb2.frozen (p := ⟨w.heap.size + 1 + 1, o, none⟩) (by first | omega | (simp <;> omega))
    rw [HE.out.1, HE.out.2] at *
    obtain ⟨U, cu, rfl, ru⟩ := own_rd own2
    clear ru
    have OW := Lib.hid own2
    clear own2
    have NE : Hid (∀ k, (Value.slice U (tkV ps lo hi v).length cu).ownBlock = some k → k ≠ w.heap.size + 1 + 1) := Lib.hid (fun k hk => by have := own_ge OW.out k hk; (try simp at this); omega)
    go_wp2
    (try go_light)
    refine bodyPost_ret (v := .tuple #[.agg #[.slice U (tkV ps lo hi v).length cu], .bool (takeB ps lo hi v)]) (by simp [results, Try.results42, go_sem, *]) rfl ?_
    refine ⟨_, rfl, ?_, ?_⟩
    · have h9 := own_set (a := ⟨w.heap.size + 1 + 1, 0, none⟩) OW.out NE.out (.slice U (tkV ps lo hi v).length cu)

      exact own_mono h9 (by have := hs1; simp <;> omega)
    · repeat (first | exact Below.refl _ _ | assumption | (refine bstep ?_ (below_drewN _ _)) | exact bstep (by assumption) (by assumption) | (refine bstep ?_ (below_alloc _ _)) | (refine bstep ?_ (by assumption)) | (refine Below.setCell ?_ (by simp <;> omega) _) | refine Below.drew ?_)

set_option maxHeartbeats 4000000 in
theorem sgive_any (A : Option Addr) (n c : Nat) (ps : List Q) (lo hi : Int) (v : V) (w : World) (hn : n ≤ 1048576) (hr : Rd w A n 4 (flat ps)) (hl : ∀ g, A = some ⟨g, 0, none⟩ → g < w.heap.size) :
    Calls Try.prog 36 #[.agg #[.slice A n c], .int .i64 lo, .int .i64 hi, .agg #[.int .i64 v.A, .int .i64 v.B, .int .i64 v.C]] w fun e w' => ∃ u, e = .returned (.tuple #[.agg #[u], .bool (giveB ps lo hi v)]) ∧ w'.ownsRow w.heap.size 138 4 u (gvV ps lo hi v).length (flat (gvV ps lo hi v)) ∧ Below w.heap.size w w' := by
  have hpl : ps.length = n := by have := hr.1; rw [flat_len] at this; omega
  have hm : n ≤ 9223372036854775807 := by omega
  have HN := Lib.hid hn
  have HR := Lib.hid hr
  have HL := Lib.hid hl
  have HP := Lib.hid hpl
  clear hn hr hl hpl
  go_enter Try.func36, Try.ntmps36
  go_wp2_with fail
  refine (sprofMin_any A n c ps lo hi _ HN.out (HR.out.below HL.out (by repeat (first | exact Below.refl _ _ | assumption | (refine bstep ?_ (below_drewN _ _)) | exact bstep (by assumption) (by assumption) | (refine bstep ?_ (below_alloc _ _)) | (refine bstep ?_ (by assumption)) | (refine Below.setCell ?_ (by simp <;> omega) _) | refine Below.drew ?_))) (lt_below HL.out (by repeat (first | exact Below.refl _ _ | assumption | (refine bstep ?_ (below_drewN _ _)) | exact bstep (by assumption) (by assumption) | (refine bstep ?_ (below_alloc _ _)) | (refine bstep ?_ (by assumption)) | (refine Below.setCell ?_ (by simp <;> omega) _) | refine Below.drew ?_)))).mono ?_
  rintro e w1 ⟨rfl, hb1⟩
  have hs1 := hb1.size
  (try simp at hs1)
  have hy10 : w.heap.size < w1.heap.size := by omega
  have hk10 := fun o => hb1.cell (p := ⟨w.heap.size, o, none⟩) (by first | omega | (simp <;> omega))
  have hg10 := fun o => hb1.frozen (p := ⟨w.heap.size, o, none⟩) (by first | omega | (simp <;> omega))
  have hy11 : w.heap.size + 1 < w1.heap.size := by omega
  have hk11 := fun o => hb1.cell (p := ⟨w.heap.size + 1, o, none⟩) (by first | omega | (simp <;> omega))
  have hg11 := fun o => hb1.frozen (p := ⟨w.heap.size + 1, o, none⟩) (by first | omega | (simp <;> omega))
  have hy12 : w.heap.size + 1 + 1 < w1.heap.size := by omega
  have hk12 := fun o => hb1.cell (p := ⟨w.heap.size + 1 + 1, o, none⟩) (by first | omega | (simp <;> omega))
  have hg12 := fun o => hb1.frozen (p := ⟨w.heap.size + 1 + 1, o, none⟩) (by first | omega | (simp <;> omega))
  cases hm : minB ps lo hi
  · have HF := Lib.hid (gv_no (v := v) hm)
    clear hm
    go_wp2
    (try go_light)
    refine bodyPost_ret (v := .tuple #[.agg #[.slice none 0 0], .bool false]) (by simp [results, Try.results36, go_sem, *]) rfl ?_
    refine ⟨_, by rw [HF.out.1], ?_, ?_⟩
    · rw [HF.out.2]; exact own_nil _ _ _ _
    · repeat (first | exact Below.refl _ _ | assumption | (refine bstep ?_ (below_drewN _ _)) | exact bstep (by assumption) (by assumption) | (refine bstep ?_ (below_alloc _ _)) | (refine bstep ?_ (by assumption)) | (refine Below.setCell ?_ (by simp <;> omega) _) | refine Below.drew ?_)
  · have HE := Lib.hid (gv_eq (v := v) hm)
    have hmm := hm
    simp only [minB, Bool.and_eq_true] at hmm
    have HO := Lib.hid hmm.1
    have HSP := Lib.hid hmm.2
    clear hm hmm
    go_wp2_with fail
    refine (schange_add A n c ps lo hi v _ HN.out (HR.out.below HL.out (by repeat (first | exact Below.refl _ _ | assumption | (refine bstep ?_ (below_drewN _ _)) | exact bstep (by assumption) (by assumption) | (refine bstep ?_ (below_alloc _ _)) | (refine bstep ?_ (by assumption)) | (refine Below.setCell ?_ (by simp <;> omega) _) | refine Below.drew ?_))) (lt_below HL.out (by repeat (first | exact Below.refl _ _ | assumption | (refine bstep ?_ (below_drewN _ _)) | exact bstep (by assumption) (by assumption) | (refine bstep ?_ (below_alloc _ _)) | (refine bstep ?_ (by assumption)) | (refine Below.setCell ?_ (by simp <;> omega) _) | refine Below.drew ?_))) HO.out HSP.out).mono ?_
    rintro e w2 ⟨u, rfl, own2, hb2⟩
    have hs2 := hb2.size
    (try simp at hs2)
    have hy20 : w.heap.size < w2.heap.size := by omega
    have hk20 := fun o => hb2.cell (p := ⟨w.heap.size, o, none⟩) (by first | omega | (simp <;> omega))
    have hg20 := fun o => hb2.frozen (p := ⟨w.heap.size, o, none⟩) (by first | omega | (simp <;> omega))
    have hy21 : w.heap.size + 1 < w2.heap.size := by omega
    have hk21 := fun o => hb2.cell (p := ⟨w.heap.size + 1, o, none⟩) (by first | omega | (simp <;> omega))
    have hg21 := fun o => hb2.frozen (p := ⟨w.heap.size + 1, o, none⟩) (by first | omega | (simp <;> omega))
    have hy22 : w.heap.size + 1 + 1 < w2.heap.size := by omega
    have hk22 := fun o => hb2.cell (p := ⟨w.heap.size + 1 + 1, o, none⟩) (by first | omega | (simp <;> omega))
    have hg22 := fun o => hb2.frozen (p := ⟨w.heap.size + 1 + 1, o, none⟩) (by first | omega | (simp <;> omega))
    rw [HE.out.1, HE.out.2] at *
    obtain ⟨U, cu, rfl, ru⟩ := own_rd own2
    clear ru
    have OW := Lib.hid own2
    clear own2
    have NE : Hid (∀ k, (Value.slice U (gvV ps lo hi v).length cu).ownBlock = some k → k ≠ w.heap.size + 1 + 1) := Lib.hid (fun k hk => by have := own_ge OW.out k hk; (try simp at this); omega)
    go_wp2
    (try go_light)
    refine bodyPost_ret (v := .tuple #[.agg #[.slice U (gvV ps lo hi v).length cu], .bool (giveB ps lo hi v)]) (by simp [results, Try.results36, go_sem, *]) rfl ?_
    refine ⟨_, rfl, ?_, ?_⟩
    · have h9 := own_set (a := ⟨w.heap.size + 1 + 1, 0, none⟩) OW.out NE.out (.slice U (gvV ps lo hi v).length cu)

      exact own_mono h9 (by have := hs1; simp <;> omega)
    · repeat (first | exact Below.refl _ _ | assumption | (refine bstep ?_ (below_drewN _ _)) | exact bstep (by assumption) (by assumption) | (refine bstep ?_ (below_alloc _ _)) | (refine bstep ?_ (by assumption)) | (refine Below.setCell ?_ (by simp <;> omega) _) | refine Below.drew ?_)
end Go.Proofs.Ytpfcegjomdppmaa
