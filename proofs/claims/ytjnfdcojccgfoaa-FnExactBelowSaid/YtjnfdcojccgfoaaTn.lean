/-
  Contracts of Above and Below.
-/
import Derived.Test.YtjnfdcojccgfoaaTm
namespace Go.Proofs.Ytjnfdcojccgfoaa
set_option linter.unusedSimpArgs false
set_option linter.unusedVariables false
set_option linter.unnecessarySimpa false
open Go.RowKit
def aboveV (ps : List Int) (ns : List Q) (s : Int) : List Int := if hasB ps ns s then upI ps s.toNat else []
def belowN (ps : List Int) (ns : List Q) (s : Nat) (j : Nat) : List Nat := (List.range j).filter fun (i : Nat) => decide (s ∈ up ps (lfN ns (i : Int)))
def belowV (ps : List Int) (ns : List Q) (s : Int) : List Int := if hasB ps ns s then preI (belowN ps ns s.toNat ns.length) else []
theorem belowN_yes {ps : List Int} {ns : List Q} {s j : Nat} (h : s ∈ up ps (lfN ns (j : Int))) : belowN ps ns s (j + 1) = belowN ps ns s j ++ [j] := by
  unfold belowN; rw [List.range_succ, List.filter_append]; simp [h]
theorem belowN_no {ps : List Int} {ns : List Q} {s j : Nat} (h : s ∉ up ps (lfN ns (j : Int))) : belowN ps ns s (j + 1) = belowN ps ns s j := by
  unfold belowN; rw [List.range_succ, List.filter_append]; simp [h]
theorem belowN_len (ps : List Int) (ns : List Q) (s j : Nat) : (belowN ps ns s j).length ≤ j := by
  have := List.length_filter_le (fun (i : Nat) => decide (s ∈ up ps (lfN ns (i : Int)))) (List.range j)
  simpa [belowN] using this
theorem hasZ_up {ps : List Int} {s l : Nat} : hasZ (upI ps l) (s : Int) = true ↔ s ∈ up ps l := by rw [hasZ_iff]; exact upI_mem

set_option maxHeartbeats 2000000 in
theorem Above_any (A B : Option Addr) (n c m d : Nat) (ps : List Int) (ns : List Q) (s : Int) (w : World) (hn : n ≤ 1048576) (hm : m ≤ 1048576) (hr : Rd w A n 1 (ints ps)) (hq : Rd w B m 4 (flat ns)) (hl : ∀ g, A = some ⟨g, 0, none⟩ → g < w.heap.size) (hl2 : ∀ g, B = some ⟨g, 0, none⟩ → g < w.heap.size) :
    Calls Try.prog 80 #[.agg #[.slice A n c, .slice B m d], .int .i64 s] w fun e w' => ∃ v, e = .returned v ∧ w'.ownsRow w.heap.size 3 1 v (aboveV ps ns s).length (ints (aboveV ps ns s)) ∧ Below w.heap.size w w' := by
  have hpl := hr.ilen
  have hql : ns.length = m := by have := hq.1; rw [flat_len] at this; omega
  have hn9 : n ≤ 9223372036854775807 := by omega
  have hm9 : m ≤ 9223372036854775807 := by omega
  have HN := Lib.hid hn
  have HM := Lib.hid hm
  have HR := Lib.hid hr
  have HQ := Lib.hid hq
  have HL := Lib.hid hl
  have HL2 := Lib.hid hl2
  have HP := Lib.hid hpl
  have HQL := Lib.hid hql
  clear hn hm hr hq hl hl2 hpl hql
  cases hh : hasB ps ns s
  · have HF : Hid (aboveV ps ns s = []) := Lib.hid (by unfold aboveV; rw [hh]; rfl)
    go_enter Try.func80, Try.ntmps80
    go_wp2_with fail
    refine (hasSwitch_any A B n c m d ps ns s _ HN.out HM.out (HR.out.below HL.out (by repeat (first | exact Below.refl _ _ | assumption | (refine bstep ?_ (below_drewN _ _)) | exact bstep (by assumption) (by assumption) | (refine bstep ?_ (below_alloc _ _)) | (refine bstep ?_ (by assumption)) | (refine Below.setCell ?_ (by simp <;> omega) _) | refine Below.drew ?_))) (HQ.out.below HL2.out (by repeat (first | exact Below.refl _ _ | assumption | (refine bstep ?_ (below_drewN _ _)) | exact bstep (by assumption) (by assumption) | (refine bstep ?_ (below_alloc _ _)) | (refine bstep ?_ (by assumption)) | (refine Below.setCell ?_ (by simp <;> omega) _) | refine Below.drew ?_))) (lt_below HL.out (by repeat (first | exact Below.refl _ _ | assumption | (refine bstep ?_ (below_drewN _ _)) | exact bstep (by assumption) (by assumption) | (refine bstep ?_ (below_alloc _ _)) | (refine bstep ?_ (by assumption)) | (refine Below.setCell ?_ (by simp <;> omega) _) | refine Below.drew ?_))) (lt_below HL2.out (by repeat (first | exact Below.refl _ _ | assumption | (refine bstep ?_ (below_drewN _ _)) | exact bstep (by assumption) (by assumption) | (refine bstep ?_ (below_alloc _ _)) | (refine bstep ?_ (by assumption)) | (refine Below.setCell ?_ (by simp <;> omega) _) | refine Below.drew ?_)))).mono ?_
    rintro e w1 ⟨rfl, hb1⟩
    rw [hh]
    have hs1 := hb1.size
    (try simp at hs1)
    have hy10 : w.heap.size < w1.heap.size := by omega
    have hk10 := fun o => hb1.cell (p := ⟨w.heap.size, o, none⟩) (by first | omega | (simp <;> omega))
    go_wp2
    go_ret
    exact ⟨_, rfl, by rw [HF.out]; exact own_nil _ _ _ _, (by repeat (first | exact Below.refl _ _ | assumption | (refine bstep ?_ (below_drewN _ _)) | exact bstep (by assumption) (by assumption) | (refine bstep ?_ (below_alloc _ _)) | (refine bstep ?_ (by assumption)) | (refine Below.setCell ?_ (by simp <;> omega) _) | refine Below.drew ?_))⟩
  · obtain ⟨htp, h0, h9⟩ := hasB_parts hh
    obtain ⟨sn, rfl⟩ : ∃ sn : Nat, s = sn := ⟨s.toNat, by omega⟩
    obtain ⟨_, _, _, _, hok, _, _⟩ := topo_parts htp
    rw [HP.out] at h9
    have HF : Hid (aboveV ps ns (sn : Int) = upI ps sn) := Lib.hid (by unfold aboveV; rw [hh]; rfl)
    have HO := Lib.hid hok
    clear hok htp
    go_enter Try.func80, Try.ntmps80
    go_wp2_with fail
    refine (hasSwitch_any A B n c m d ps ns (sn : Int) _ HN.out HM.out (HR.out.below HL.out (by repeat (first | exact Below.refl _ _ | assumption | (refine bstep ?_ (below_drewN _ _)) | exact bstep (by assumption) (by assumption) | (refine bstep ?_ (below_alloc _ _)) | (refine bstep ?_ (by assumption)) | (refine Below.setCell ?_ (by simp <;> omega) _) | refine Below.drew ?_))) (HQ.out.below HL2.out (by repeat (first | exact Below.refl _ _ | assumption | (refine bstep ?_ (below_drewN _ _)) | exact bstep (by assumption) (by assumption) | (refine bstep ?_ (below_alloc _ _)) | (refine bstep ?_ (by assumption)) | (refine Below.setCell ?_ (by simp <;> omega) _) | refine Below.drew ?_))) (lt_below HL.out (by repeat (first | exact Below.refl _ _ | assumption | (refine bstep ?_ (below_drewN _ _)) | exact bstep (by assumption) (by assumption) | (refine bstep ?_ (below_alloc _ _)) | (refine bstep ?_ (by assumption)) | (refine Below.setCell ?_ (by simp <;> omega) _) | refine Below.drew ?_))) (lt_below HL2.out (by repeat (first | exact Below.refl _ _ | assumption | (refine bstep ?_ (below_drewN _ _)) | exact bstep (by assumption) (by assumption) | (refine bstep ?_ (below_alloc _ _)) | (refine bstep ?_ (by assumption)) | (refine Below.setCell ?_ (by simp <;> omega) _) | refine Below.drew ?_)))).mono ?_
    rintro e w1 ⟨rfl, hb1⟩
    rw [hh]
    have hs1 := hb1.size
    (try simp at hs1)
    have hy10 : w.heap.size < w1.heap.size := by omega
    have hk10 := fun o => hb1.cell (p := ⟨w.heap.size, o, none⟩) (by first | omega | (simp <;> omega))
    go_wp2_with fail
    refine (above_any A B n c m d ps sn _ HN.out (HR.out.below HL.out (by repeat (first | exact Below.refl _ _ | assumption | (refine bstep ?_ (below_drewN _ _)) | exact bstep (by assumption) (by assumption) | (refine bstep ?_ (below_alloc _ _)) | (refine bstep ?_ (by assumption)) | (refine Below.setCell ?_ (by simp <;> omega) _) | refine Below.drew ?_))) (lt_below HL.out (by repeat (first | exact Below.refl _ _ | assumption | (refine bstep ?_ (below_drewN _ _)) | exact bstep (by assumption) (by assumption) | (refine bstep ?_ (below_alloc _ _)) | (refine bstep ?_ (by assumption)) | (refine Below.setCell ?_ (by simp <;> omega) _) | refine Below.drew ?_))) HO.out (by omega)).mono ?_
    rintro e w2 ⟨v, rfl, hown, hb2⟩
    have HW := Lib.hid hown
    obtain ⟨X, cx, rfl, _⟩ := own_rd hown
    clear hown
    go_wp2
    go_ret
    exact ⟨_, rfl, by rw [HF.out]; exact own_mono HW.out (by omega), (by repeat (first | exact Below.refl _ _ | assumption | (refine bstep ?_ (below_drewN _ _)) | exact bstep (by assumption) (by assumption) | (refine bstep ?_ (below_alloc _ _)) | (refine bstep ?_ (by assumption)) | (refine Below.setCell ?_ (by simp <;> omega) _) | refine Below.drew ?_))⟩

set_option maxHeartbeats 2000000 in
theorem sAbove_any (A B : Option Addr) (n c m d : Nat) (ps : List Int) (ns : List Q) (s : Int) (w : World) (hn : n ≤ 1048576) (hm : m ≤ 1048576) (hr : Rd w A n 1 (ints ps)) (hq : Rd w B m 4 (flat ns)) (hl : ∀ g, A = some ⟨g, 0, none⟩ → g < w.heap.size) (hl2 : ∀ g, B = some ⟨g, 0, none⟩ → g < w.heap.size) :
    Calls Try.prog 79 #[.agg #[.slice A n c, .slice B m d], .int .i64 s] w fun e w' => ∃ v, e = .returned v ∧ w'.ownsRow w.heap.size 3 1 v (aboveV ps ns s).length (ints (aboveV ps ns s)) ∧ Below w.heap.size w w' := by
  have hpl := hr.ilen
  have hql : ns.length = m := by have := hq.1; rw [flat_len] at this; omega
  have hn9 : n ≤ 9223372036854775807 := by omega
  have hm9 : m ≤ 9223372036854775807 := by omega
  have HN := Lib.hid hn
  have HM := Lib.hid hm
  have HR := Lib.hid hr
  have HQ := Lib.hid hq
  have HL := Lib.hid hl
  have HL2 := Lib.hid hl2
  have HP := Lib.hid hpl
  have HQL := Lib.hid hql
  clear hn hm hr hq hl hl2 hpl hql
  cases hh : hasB ps ns s
  · have HF : Hid (aboveV ps ns s = []) := Lib.hid (by unfold aboveV; rw [hh]; rfl)
    go_enter Try.func79, Try.ntmps79
    go_wp2_with fail
    refine (sSwitch_any A B n c m d ps ns s _ HN.out HM.out (HR.out.below HL.out (by repeat (first | exact Below.refl _ _ | assumption | (refine bstep ?_ (below_drewN _ _)) | exact bstep (by assumption) (by assumption) | (refine bstep ?_ (below_alloc _ _)) | (refine bstep ?_ (by assumption)) | (refine Below.setCell ?_ (by simp <;> omega) _) | refine Below.drew ?_))) (HQ.out.below HL2.out (by repeat (first | exact Below.refl _ _ | assumption | (refine bstep ?_ (below_drewN _ _)) | exact bstep (by assumption) (by assumption) | (refine bstep ?_ (below_alloc _ _)) | (refine bstep ?_ (by assumption)) | (refine Below.setCell ?_ (by simp <;> omega) _) | refine Below.drew ?_))) (lt_below HL.out (by repeat (first | exact Below.refl _ _ | assumption | (refine bstep ?_ (below_drewN _ _)) | exact bstep (by assumption) (by assumption) | (refine bstep ?_ (below_alloc _ _)) | (refine bstep ?_ (by assumption)) | (refine Below.setCell ?_ (by simp <;> omega) _) | refine Below.drew ?_))) (lt_below HL2.out (by repeat (first | exact Below.refl _ _ | assumption | (refine bstep ?_ (below_drewN _ _)) | exact bstep (by assumption) (by assumption) | (refine bstep ?_ (below_alloc _ _)) | (refine bstep ?_ (by assumption)) | (refine Below.setCell ?_ (by simp <;> omega) _) | refine Below.drew ?_)))).mono ?_
    rintro e w1 ⟨rfl, hb1⟩
    rw [hh]
    have hs1 := hb1.size
    (try simp at hs1)
    have hy10 : w.heap.size < w1.heap.size := by omega
    have hk10 := fun o => hb1.cell (p := ⟨w.heap.size, o, none⟩) (by first | omega | (simp <;> omega))
    go_wp2
    go_ret
    exact ⟨_, rfl, by rw [HF.out]; exact own_nil _ _ _ _, (by repeat (first | exact Below.refl _ _ | assumption | (refine bstep ?_ (below_drewN _ _)) | exact bstep (by assumption) (by assumption) | (refine bstep ?_ (below_alloc _ _)) | (refine bstep ?_ (by assumption)) | (refine Below.setCell ?_ (by simp <;> omega) _) | refine Below.drew ?_))⟩
  · obtain ⟨htp, h0, h9⟩ := hasB_parts hh
    obtain ⟨sn, rfl⟩ : ∃ sn : Nat, s = sn := ⟨s.toNat, by omega⟩
    obtain ⟨_, _, _, _, hok, _, _⟩ := topo_parts htp
    rw [HP.out] at h9
    have HF : Hid (aboveV ps ns (sn : Int) = upI ps sn) := Lib.hid (by unfold aboveV; rw [hh]; rfl)
    have HO := Lib.hid hok
    clear hok htp
    go_enter Try.func79, Try.ntmps79
    go_wp2_with fail
    refine (sSwitch_any A B n c m d ps ns (sn : Int) _ HN.out HM.out (HR.out.below HL.out (by repeat (first | exact Below.refl _ _ | assumption | (refine bstep ?_ (below_drewN _ _)) | exact bstep (by assumption) (by assumption) | (refine bstep ?_ (below_alloc _ _)) | (refine bstep ?_ (by assumption)) | (refine Below.setCell ?_ (by simp <;> omega) _) | refine Below.drew ?_))) (HQ.out.below HL2.out (by repeat (first | exact Below.refl _ _ | assumption | (refine bstep ?_ (below_drewN _ _)) | exact bstep (by assumption) (by assumption) | (refine bstep ?_ (below_alloc _ _)) | (refine bstep ?_ (by assumption)) | (refine Below.setCell ?_ (by simp <;> omega) _) | refine Below.drew ?_))) (lt_below HL.out (by repeat (first | exact Below.refl _ _ | assumption | (refine bstep ?_ (below_drewN _ _)) | exact bstep (by assumption) (by assumption) | (refine bstep ?_ (below_alloc _ _)) | (refine bstep ?_ (by assumption)) | (refine Below.setCell ?_ (by simp <;> omega) _) | refine Below.drew ?_))) (lt_below HL2.out (by repeat (first | exact Below.refl _ _ | assumption | (refine bstep ?_ (below_drewN _ _)) | exact bstep (by assumption) (by assumption) | (refine bstep ?_ (below_alloc _ _)) | (refine bstep ?_ (by assumption)) | (refine Below.setCell ?_ (by simp <;> omega) _) | refine Below.drew ?_)))).mono ?_
    rintro e w1 ⟨rfl, hb1⟩
    rw [hh]
    have hs1 := hb1.size
    (try simp at hs1)
    have hy10 : w.heap.size < w1.heap.size := by omega
    have hk10 := fun o => hb1.cell (p := ⟨w.heap.size, o, none⟩) (by first | omega | (simp <;> omega))
    go_wp2_with fail
    refine (sUp_any A B n c m d ps sn _ HN.out (HR.out.below HL.out (by repeat (first | exact Below.refl _ _ | assumption | (refine bstep ?_ (below_drewN _ _)) | exact bstep (by assumption) (by assumption) | (refine bstep ?_ (below_alloc _ _)) | (refine bstep ?_ (by assumption)) | (refine Below.setCell ?_ (by simp <;> omega) _) | refine Below.drew ?_))) (lt_below HL.out (by repeat (first | exact Below.refl _ _ | assumption | (refine bstep ?_ (below_drewN _ _)) | exact bstep (by assumption) (by assumption) | (refine bstep ?_ (below_alloc _ _)) | (refine bstep ?_ (by assumption)) | (refine Below.setCell ?_ (by simp <;> omega) _) | refine Below.drew ?_))) HO.out (by omega)).mono ?_
    rintro e w2 ⟨v, rfl, hown, hb2⟩
    have HW := Lib.hid hown
    obtain ⟨X, cx, rfl, _⟩ := own_rd hown
    clear hown
    go_wp2
    go_ret
    exact ⟨_, rfl, by rw [HF.out]; exact own_mono HW.out (by omega), (by repeat (first | exact Below.refl _ _ | assumption | (refine bstep ?_ (below_drewN _ _)) | exact bstep (by assumption) (by assumption) | (refine bstep ?_ (below_alloc _ _)) | (refine bstep ?_ (by assumption)) | (refine Below.setCell ?_ (by simp <;> omega) _) | refine Below.drew ?_))⟩

set_option maxHeartbeats 4000000 in
theorem Below_any (A B : Option Addr) (n c m d : Nat) (ps : List Int) (ns : List Q) (s : Int) (w : World) (hn : n ≤ 1048576) (hm : m ≤ 1048576) (hr : Rd w A n 1 (ints ps)) (hq : Rd w B m 4 (flat ns)) (hl : ∀ g, A = some ⟨g, 0, none⟩ → g < w.heap.size) (hl2 : ∀ g, B = some ⟨g, 0, none⟩ → g < w.heap.size) :
    Calls Try.prog 85 #[.agg #[.slice A n c, .slice B m d], .int .i64 s] w fun e w' => ∃ v, e = .returned v ∧ w'.ownsRow w.heap.size 3 1 v (belowV ps ns s).length (ints (belowV ps ns s)) ∧ Below w.heap.size w w' := by
  have hpl := hr.ilen
  have hql : ns.length = m := by have := hq.1; rw [flat_len] at this; omega
  have hn9 : n ≤ 9223372036854775807 := by omega
  have hm9 : m ≤ 9223372036854775807 := by omega
  have HN := Lib.hid hn
  have HM := Lib.hid hm
  have HR := Lib.hid hr
  have HQ := Lib.hid hq
  have HL := Lib.hid hl
  have HL2 := Lib.hid hl2
  have HP := Lib.hid hpl
  have HQL := Lib.hid hql
  clear hn hm hr hq hl hl2 hpl hql
  cases hh : hasB ps ns s
  · have HF : Hid (belowV ps ns s = []) := Lib.hid (by unfold belowV; rw [hh]; rfl)
    go_enter Try.func85, Try.ntmps85
    go_wp2_with fail
    refine (hasSwitch_any A B n c m d ps ns s _ HN.out HM.out (HR.out.below HL.out (by repeat (first | exact Below.refl _ _ | assumption | (refine bstep ?_ (below_drewN _ _)) | exact bstep (by assumption) (by assumption) | (refine bstep ?_ (below_alloc _ _)) | (refine bstep ?_ (by assumption)) | (refine Below.setCell ?_ (by simp <;> omega) _) | refine Below.drew ?_))) (HQ.out.below HL2.out (by repeat (first | exact Below.refl _ _ | assumption | (refine bstep ?_ (below_drewN _ _)) | exact bstep (by assumption) (by assumption) | (refine bstep ?_ (below_alloc _ _)) | (refine bstep ?_ (by assumption)) | (refine Below.setCell ?_ (by simp <;> omega) _) | refine Below.drew ?_))) (lt_below HL.out (by repeat (first | exact Below.refl _ _ | assumption | (refine bstep ?_ (below_drewN _ _)) | exact bstep (by assumption) (by assumption) | (refine bstep ?_ (below_alloc _ _)) | (refine bstep ?_ (by assumption)) | (refine Below.setCell ?_ (by simp <;> omega) _) | refine Below.drew ?_))) (lt_below HL2.out (by repeat (first | exact Below.refl _ _ | assumption | (refine bstep ?_ (below_drewN _ _)) | exact bstep (by assumption) (by assumption) | (refine bstep ?_ (below_alloc _ _)) | (refine bstep ?_ (by assumption)) | (refine Below.setCell ?_ (by simp <;> omega) _) | refine Below.drew ?_)))).mono ?_
    rintro e w1 ⟨rfl, hb1⟩
    rw [hh]
    have hs1 := hb1.size
    (try simp at hs1)
    have hy10 : w.heap.size < w1.heap.size := by omega
    have hk10 := fun o => hb1.cell (p := ⟨w.heap.size, o, none⟩) (by first | omega | (simp <;> omega))
    go_wp2
    go_ret
    exact ⟨_, rfl, by rw [HF.out]; exact own_nil _ _ _ _, (by repeat (first | exact Below.refl _ _ | assumption | (refine bstep ?_ (below_drewN _ _)) | exact bstep (by assumption) (by assumption) | (refine bstep ?_ (below_alloc _ _)) | (refine bstep ?_ (by assumption)) | (refine Below.setCell ?_ (by simp <;> omega) _) | refine Below.drew ?_))⟩
  · obtain ⟨htp, h0, h9⟩ := hasB_parts hh
    obtain ⟨sn, rfl⟩ : ∃ sn : Nat, s = sn := ⟨s.toNat, by omega⟩
    obtain ⟨_, _, _, _, hok, _, _⟩ := topo_parts htp
    rw [HP.out] at h9
    have HF : Hid (belowV ps ns (sn : Int) = preI (belowN ps ns sn m)) := Lib.hid (by unfold belowV; rw [hh, HQL.out]; rfl)
    have HO := Lib.hid hok
    have HT := Lib.hid htp
    clear hok htp
    go_enter Try.func85, Try.ntmps85
    go_wp2_with fail
    refine (hasSwitch_any A B n c m d ps ns (sn : Int) _ HN.out HM.out (HR.out.below HL.out (by repeat (first | exact Below.refl _ _ | assumption | (refine bstep ?_ (below_drewN _ _)) | exact bstep (by assumption) (by assumption) | (refine bstep ?_ (below_alloc _ _)) | (refine bstep ?_ (by assumption)) | (refine Below.setCell ?_ (by simp <;> omega) _) | refine Below.drew ?_))) (HQ.out.below HL2.out (by repeat (first | exact Below.refl _ _ | assumption | (refine bstep ?_ (below_drewN _ _)) | exact bstep (by assumption) (by assumption) | (refine bstep ?_ (below_alloc _ _)) | (refine bstep ?_ (by assumption)) | (refine Below.setCell ?_ (by simp <;> omega) _) | refine Below.drew ?_))) (lt_below HL.out (by repeat (first | exact Below.refl _ _ | assumption | (refine bstep ?_ (below_drewN _ _)) | exact bstep (by assumption) (by assumption) | (refine bstep ?_ (below_alloc _ _)) | (refine bstep ?_ (by assumption)) | (refine Below.setCell ?_ (by simp <;> omega) _) | refine Below.drew ?_))) (lt_below HL2.out (by repeat (first | exact Below.refl _ _ | assumption | (refine bstep ?_ (below_drewN _ _)) | exact bstep (by assumption) (by assumption) | (refine bstep ?_ (below_alloc _ _)) | (refine bstep ?_ (by assumption)) | (refine Below.setCell ?_ (by simp <;> omega) _) | refine Below.drew ?_)))).mono ?_
    rintro e w1 ⟨rfl, hb1⟩
    rw [hh]
    have hs1 := hb1.size
    (try simp at hs1)
    have hy10 : w.heap.size < w1.heap.size := by omega
    have hk10 := fun o => hb1.cell (p := ⟨w.heap.size, o, none⟩) (by first | omega | (simp <;> omega))
    go_wp2
    go_loopw [5, 16] (fun v i wr => ∃ (j : Nat) (X : Option Addr) (cx : Nat), j ≤ m ∧ i = .int .i64 j ∧ v = .slice X (belowN ps ns sn j).length cx ∧ wr.ownsRow (w.heap.size + 1) 3 1 (.slice X (belowN ps ns sn j).length cx) (belowN ps ns sn j).length (ints (preI (belowN ps ns sn j))) ∧ Below w.heap.size w wr ∧ w.heap.size + 1 ≤ wr.heap.size ∧ wr.cell? ⟨w.heap.size, 0, none⟩ = some (.slice A n c) ∧ wr.cell? ⟨w.heap.size, 1, none⟩ = some (.slice B m d)) (fun _ i _ => m - (intOf i).toNat)
    case atStart =>
      refine ⟨0, _, 0, Nat.zero_le _, rfl, rfl, own_lit (cs := []) (heap_at _ rfl) rfl (by show 0 ≤ maxLen; decide) (by omega), (by repeat (first | exact Below.refl _ _ | assumption | (refine bstep ?_ (below_drewN _ _)) | exact bstep (by assumption) (by assumption) | (refine bstep ?_ (below_alloc _ _)) | (refine bstep ?_ (by assumption)) | (refine Below.setCell ?_ (by simp <;> omega) _) | refine Below.drew ?_)), (by first | omega | (simp <;> omega)), ?_, ?_⟩
      · simp [go_sem, *, World.cell?_alloc_some]
      · simp [go_sem, *, World.cell?_alloc_some]
    case round =>
      obtain ⟨j, X, cx, hj, rfl, rfl, hown, hbw, hsz, bx0, bx1⟩ := hrel
      have hy0 : w.heap.size < wr.heap.size := by omega
      have hlen : (belowN ps ns sn j).length ≤ m := by have := belowN_len ps ns sn j; omega
      have HLE := Lib.hid hlen
      clear hlen
      by_cases hlt : j < m
      · have hlt' : (j : Int) < m := by omega
        obtain ⟨g', q, rfl, hqx, c0, c1, c2, c3⟩ := HQ.out.q hlt
        obtain ⟨hlp, _, q', hq1, hq2, _⟩ := lfN_ok HT.out (x := (j : Int)) (by omega) (by rw [HQL.out]; omega)
        simp only [Int.toNat_natCast] at hq1
        rw [hqx] at hq1
        obtain rfl := Option.some.inj hq1
        rw [hq2] at c0
        have hg' := HL2.out g' rfl
        have C0 := (hbw.cell (p := ⟨g', j * 4, none⟩) hg').trans c0
        have C1 := (hbw.cell (p := ⟨g', j * 4 + 1, none⟩) hg').trans c1
        have C2 := (hbw.cell (p := ⟨g', j * 4 + 2, none⟩) hg').trans c2
        have C3 := (hbw.cell (p := ⟨g', j * 4 + 3, none⟩) hg').trans c3
        rw [HP.out] at hlp
        generalize hl9 : lfN ns (j : Int) = lf at C0 c0 hlp hq2
        have HL9 := Lib.hid hl9
        have HB := Lib.hid hbw
        have HW := Lib.hid hown
        clear hqx hq1 hq2 c0 c1 c2 c3 hbw hl9 hown
        go_wp2_with fail
        refine (above_any A (some ⟨g', 0, none⟩) n c m d ps lf _ HN.out (HR.out.below HL.out (by have := HB.out; repeat (first | exact Below.refl _ _ | assumption | (refine bstep ?_ (below_drewN _ _)) | exact bstep (by assumption) (by assumption) | (refine bstep ?_ (below_alloc _ _)) | (refine bstep ?_ (by assumption)) | (refine Below.setCell ?_ (by simp <;> omega) _) | refine Below.drew ?_))) (lt_below HL.out (by have := HB.out; repeat (first | exact Below.refl _ _ | assumption | (refine bstep ?_ (below_drewN _ _)) | exact bstep (by assumption) (by assumption) | (refine bstep ?_ (below_alloc _ _)) | (refine bstep ?_ (by assumption)) | (refine Below.setCell ?_ (by simp <;> omega) _) | refine Below.drew ?_))) HO.out (by omega)).mono ?_
        rintro e w2 ⟨v2, rfl, own2, hb2⟩
        obtain ⟨Y, cy, rfl, rd2⟩ := own_rd own2
        have HR2 := Lib.hid rd2
        have hs2 := hb2.size
        (try simp at hs2)
        have hk20 := fun o => hb2.cell (p := ⟨w.heap.size, o, none⟩) (by first | omega | (simp <;> omega))
        have hul : (upI ps lf).length ≤ 1048577 := by
          have h1 := up_len HO.out lf (by rw [HP.out]; omega)
          have h2 := dep_le HO.out lf (by rw [HP.out]; omega)
          have h3 := HN.out
          simp only [upI, List.length_map]; omega
        have HUL := Lib.hid hul
        clear own2 rd2 hul
        go_wp2_with fail
        refine (contains_any Y _ cy (upI ps lf) (sn : Int) _ HUL.out HR2.out).mono ?_
        rintro e w3 ⟨rfl, hw3⟩
        have hb3 := below_same hw3
        have hs3 := hb3.size
        have hB3 : Below wr.heap.size wr w3 := (by repeat (first | exact Below.refl _ _ | assumption | (refine bstep ?_ (below_drewN _ _)) | exact bstep (by assumption) (by assumption) | (refine bstep ?_ (below_alloc _ _)) | (refine bstep ?_ (by assumption)) | (refine Below.setCell ?_ (by simp <;> omega) _) | refine Below.drew ?_))
        have hown3 := own_bel HW.out hB3
        have hsz3 : w.heap.size + 1 ≤ w3.heap.size := by omega
        have y0 := (hB3.cell (p := ⟨w.heap.size, 0, none⟩) (show w.heap.size < wr.heap.size by omega)).trans bx0
        have y1 := (hB3.cell (p := ⟨w.heap.size, 1, none⟩) (show w.heap.size < wr.heap.size by omega)).trans bx1
        clear hw3 hb3 hk20
        cases hm : hasZ (upI ps lf) (sn : Int)
        · have hnm : sn ∉ up ps lf := fun h => by rw [hasZ_up.2 h] at hm; cases hm
          have HE : Hid (belowN ps ns sn (j + 1) = belowN ps ns sn j) := Lib.hid (belowN_no (by rw [HL9.out]; exact hnm))
          clear hnm hm
          go_wp2
          go_roundw
          case rel =>
            refine ⟨j + 1, X, cx, by omega, by go_num, ?_, ?_, bstep HB.out hB3, by omega, y0, y1⟩
            · rw [HE.out]
            · rw [HE.out]; exact hown3
          case measure => simp [intOf]; omega
        · have hnm : sn ∈ up ps lf := hasZ_up.1 hm
          have HE : Hid (belowN ps ns sn (j + 1) = belowN ps ns sn j ++ [j]) := Lib.hid (belowN_yes (by rw [HL9.out]; exact hnm))
          clear hnm hm
          obtain ⟨i0, hi, hz0, hz1, hz2⟩ := info_parts infoI
          go_wp2_with (at_builtin; refine wpList_append_own _ rfl _ _ 66 rfl (w.heap.size + 1) 3 i0 (.int .i64 0) 1 8 Try.underlying66 hi hz0 hz1 hz2 rfl (by decide) _ _ _ rfl (hown3.alloc _) ⟨w3.heap.size, 0, none⟩ 1 1 [.int .i64 (j : Int)] rfl rfl ?c1 ?c2 ?c3 ?c4 ?c5 ?_)
          try case c1 =>
            intro j y hy
            match j, hy with
            | 0, hy => (simp at hy; subst hy; simp [Addr.add])
          try case c2 => simp [Value.oneCell']
          case c3 => unfold maxLen; have := HM.out; have := HLE.out; omega
          case c4 => have := HM.out; have := HLE.out; omega
          try case c5 => first | omega | (simp <;> omega)
          intro v' w4 hown4 hg4 _
          obtain ⟨X', cx', rfl, _⟩ := own_rd hown4
          have hgb := hg4.block w.heap.size (by simp <;> omega) (fun e => by have := own_ge hown3 _ e.symm; omega)
          have hs4 := hg4.size
          (try simp at hs4)
          have z0 := (World.cell?_of_block (a := ⟨w.heap.size, 0, none⟩) hgb).trans (((below_alloc w3 _).cell (p := ⟨w.heap.size, 0, none⟩) (show w.heap.size < w3.heap.size by omega)).trans y0)
          have z1 := (World.cell?_of_block (a := ⟨w.heap.size, 1, none⟩) hgb).trans (((below_alloc w3 _).cell (p := ⟨w.heap.size, 1, none⟩) (show w.heap.size < w3.heap.size by omega)).trans y1)
          have hB4 : Below w.heap.size w w4 := Below.grown ((bstep HB.out hB3).alloc (by have := HB.out.size; have := hB3.size; omega) _) hg4 (by simp; have := HB.out.size; have := hB3.size; omega) (fun k hk => by have := own_ge hown3 k hk; omega)
          have HO4 := Lib.hid hown4
          clear hown4 hgb hg4 hz0 hz1 hz2 hi hown3
          go_wp2
          go_roundw
          case rel =>
            refine ⟨j + 1, X', cx', by omega, by go_num, ?_, ?_, hB4, by omega, z0, z1⟩
            · rw [HE.out, List.length_append]; rfl
            · rw [HE.out, preI_snoc, List.length_append]; exact HO4.out
          case measure => simp [intOf]; omega
      · have hj9 : j = m := by omega
        subst hj9
        have HB := Lib.hid hbw
        have HW := Lib.hid hown
        clear hbw hown
        go_wp2
        go_ret
        exact ⟨_, rfl, by rw [HF.out]; exact own_mono (by rw [preI_len]; exact HW.out) (by omega), HB.out⟩

set_option maxHeartbeats 4000000 in
theorem sBelow_any (A B : Option Addr) (n c m d : Nat) (ps : List Int) (ns : List Q) (s : Int) (w : World) (hn : n ≤ 1048576) (hm : m ≤ 1048576) (hr : Rd w A n 1 (ints ps)) (hq : Rd w B m 4 (flat ns)) (hl : ∀ g, A = some ⟨g, 0, none⟩ → g < w.heap.size) (hl2 : ∀ g, B = some ⟨g, 0, none⟩ → g < w.heap.size) :
    Calls Try.prog 84 #[.agg #[.slice A n c, .slice B m d], .int .i64 s] w fun e w' => ∃ v, e = .returned v ∧ w'.ownsRow w.heap.size 3 1 v (belowV ps ns s).length (ints (belowV ps ns s)) ∧ Below w.heap.size w w' := by
  have hpl := hr.ilen
  have hql : ns.length = m := by have := hq.1; rw [flat_len] at this; omega
  have hn9 : n ≤ 9223372036854775807 := by omega
  have hm9 : m ≤ 9223372036854775807 := by omega
  have HN := Lib.hid hn
  have HM := Lib.hid hm
  have HR := Lib.hid hr
  have HQ := Lib.hid hq
  have HL := Lib.hid hl
  have HL2 := Lib.hid hl2
  have HP := Lib.hid hpl
  have HQL := Lib.hid hql
  clear hn hm hr hq hl hl2 hpl hql
  cases hh : hasB ps ns s
  · have HF : Hid (belowV ps ns s = []) := Lib.hid (by unfold belowV; rw [hh]; rfl)
    go_enter Try.func84, Try.ntmps84
    go_wp2_with fail
    refine (sSwitch_any A B n c m d ps ns s _ HN.out HM.out (HR.out.below HL.out (by repeat (first | exact Below.refl _ _ | assumption | (refine bstep ?_ (below_drewN _ _)) | exact bstep (by assumption) (by assumption) | (refine bstep ?_ (below_alloc _ _)) | (refine bstep ?_ (by assumption)) | (refine Below.setCell ?_ (by simp <;> omega) _) | refine Below.drew ?_))) (HQ.out.below HL2.out (by repeat (first | exact Below.refl _ _ | assumption | (refine bstep ?_ (below_drewN _ _)) | exact bstep (by assumption) (by assumption) | (refine bstep ?_ (below_alloc _ _)) | (refine bstep ?_ (by assumption)) | (refine Below.setCell ?_ (by simp <;> omega) _) | refine Below.drew ?_))) (lt_below HL.out (by repeat (first | exact Below.refl _ _ | assumption | (refine bstep ?_ (below_drewN _ _)) | exact bstep (by assumption) (by assumption) | (refine bstep ?_ (below_alloc _ _)) | (refine bstep ?_ (by assumption)) | (refine Below.setCell ?_ (by simp <;> omega) _) | refine Below.drew ?_))) (lt_below HL2.out (by repeat (first | exact Below.refl _ _ | assumption | (refine bstep ?_ (below_drewN _ _)) | exact bstep (by assumption) (by assumption) | (refine bstep ?_ (below_alloc _ _)) | (refine bstep ?_ (by assumption)) | (refine Below.setCell ?_ (by simp <;> omega) _) | refine Below.drew ?_)))).mono ?_
    rintro e w1 ⟨rfl, hb1⟩
    rw [hh]
    have hs1 := hb1.size
    (try simp at hs1)
    have hy10 : w.heap.size < w1.heap.size := by omega
    have hk10 := fun o => hb1.cell (p := ⟨w.heap.size, o, none⟩) (by first | omega | (simp <;> omega))
    go_wp2
    go_ret
    refine ⟨_, rfl, by rw [HF.out]; exact own_lit (cs := []) (bx_below (heap_at _ (by simp)) hb1) rfl (by decide) (by omega), (by repeat (first | exact Below.refl _ _ | assumption | (refine bstep ?_ (below_drewN _ _)) | exact bstep (by assumption) (by assumption) | (refine bstep ?_ (below_alloc _ _)) | (refine bstep ?_ (by assumption)) | (refine Below.setCell ?_ (by simp <;> omega) _) | refine Below.drew ?_))⟩
  · obtain ⟨htp, h0, h9⟩ := hasB_parts hh
    obtain ⟨sn, rfl⟩ : ∃ sn : Nat, s = sn := ⟨s.toNat, by omega⟩
    obtain ⟨_, _, _, _, hok, _, _⟩ := topo_parts htp
    rw [HP.out] at h9
    have HF : Hid (belowV ps ns (sn : Int) = preI (belowN ps ns sn m)) := Lib.hid (by unfold belowV; rw [hh, HQL.out]; rfl)
    have HO := Lib.hid hok
    have HT := Lib.hid htp
    clear hok htp
    go_enter Try.func84, Try.ntmps84
    go_wp2_with fail
    refine (sSwitch_any A B n c m d ps ns (sn : Int) _ HN.out HM.out (HR.out.below HL.out (by repeat (first | exact Below.refl _ _ | assumption | (refine bstep ?_ (below_drewN _ _)) | exact bstep (by assumption) (by assumption) | (refine bstep ?_ (below_alloc _ _)) | (refine bstep ?_ (by assumption)) | (refine Below.setCell ?_ (by simp <;> omega) _) | refine Below.drew ?_))) (HQ.out.below HL2.out (by repeat (first | exact Below.refl _ _ | assumption | (refine bstep ?_ (below_drewN _ _)) | exact bstep (by assumption) (by assumption) | (refine bstep ?_ (below_alloc _ _)) | (refine bstep ?_ (by assumption)) | (refine Below.setCell ?_ (by simp <;> omega) _) | refine Below.drew ?_))) (lt_below HL.out (by repeat (first | exact Below.refl _ _ | assumption | (refine bstep ?_ (below_drewN _ _)) | exact bstep (by assumption) (by assumption) | (refine bstep ?_ (below_alloc _ _)) | (refine bstep ?_ (by assumption)) | (refine Below.setCell ?_ (by simp <;> omega) _) | refine Below.drew ?_))) (lt_below HL2.out (by repeat (first | exact Below.refl _ _ | assumption | (refine bstep ?_ (below_drewN _ _)) | exact bstep (by assumption) (by assumption) | (refine bstep ?_ (below_alloc _ _)) | (refine bstep ?_ (by assumption)) | (refine Below.setCell ?_ (by simp <;> omega) _) | refine Below.drew ?_)))).mono ?_
    rintro e w1 ⟨rfl, hb1⟩
    rw [hh]
    have hs1 := hb1.size
    (try simp at hs1)
    have hy10 : w.heap.size < w1.heap.size := by omega
    have hk10 := fun o => hb1.cell (p := ⟨w.heap.size, o, none⟩) (by first | omega | (simp <;> omega))
    go_wp2
    go_loopw [5, 17] (fun v i wr => ∃ (j : Nat) (X : Option Addr) (cx : Nat), j ≤ m ∧ i = .int .i64 j ∧ v = .slice X (belowN ps ns sn j).length cx ∧ wr.ownsRow (w.heap.size + 1) 3 1 (.slice X (belowN ps ns sn j).length cx) (belowN ps ns sn j).length (ints (preI (belowN ps ns sn j))) ∧ Below w.heap.size w wr ∧ w.heap.size + 1 ≤ wr.heap.size ∧ wr.cell? ⟨w.heap.size, 0, none⟩ = some (.slice A n c) ∧ wr.cell? ⟨w.heap.size, 1, none⟩ = some (.slice B m d)) (fun _ i _ => m - (intOf i).toNat)
    case atStart =>
      refine ⟨0, _, 0, Nat.zero_le _, rfl, rfl, own_lit (cs := []) (bx_below (heap_at _ (by simp)) hb1) rfl (by show 0 ≤ maxLen; decide) (by omega), (by repeat (first | exact Below.refl _ _ | assumption | (refine bstep ?_ (below_drewN _ _)) | exact bstep (by assumption) (by assumption) | (refine bstep ?_ (below_alloc _ _)) | (refine bstep ?_ (by assumption)) | (refine Below.setCell ?_ (by simp <;> omega) _) | refine Below.drew ?_)), (by first | omega | (simp <;> omega)), ?_, ?_⟩
      · simp [go_sem, *, World.cell?_alloc_some]
      · simp [go_sem, *, World.cell?_alloc_some]
    case round =>
      obtain ⟨j, X, cx, hj, rfl, rfl, hown, hbw, hsz, bx0, bx1⟩ := hrel
      have hy0 : w.heap.size < wr.heap.size := by omega
      have hlen : (belowN ps ns sn j).length ≤ m := by have := belowN_len ps ns sn j; omega
      have HLE := Lib.hid hlen
      clear hlen
      by_cases hlt : j < m
      · have hlt' : (j : Int) < m := by omega
        obtain ⟨g', q, rfl, hqx, c0, c1, c2, c3⟩ := HQ.out.q hlt
        obtain ⟨hlp, _, q', hq1, hq2, _⟩ := lfN_ok HT.out (x := (j : Int)) (by omega) (by rw [HQL.out]; omega)
        simp only [Int.toNat_natCast] at hq1
        rw [hqx] at hq1
        obtain rfl := Option.some.inj hq1
        rw [hq2] at c0
        have hg' := HL2.out g' rfl
        have C0 := (hbw.cell (p := ⟨g', j * 4, none⟩) hg').trans c0
        have C1 := (hbw.cell (p := ⟨g', j * 4 + 1, none⟩) hg').trans c1
        have C2 := (hbw.cell (p := ⟨g', j * 4 + 2, none⟩) hg').trans c2
        have C3 := (hbw.cell (p := ⟨g', j * 4 + 3, none⟩) hg').trans c3
        rw [HP.out] at hlp
        generalize hl9 : lfN ns (j : Int) = lf at C0 c0 hlp hq2
        have HL9 := Lib.hid hl9
        have HB := Lib.hid hbw
        have HW := Lib.hid hown
        clear hqx hq1 hq2 c0 c1 c2 c3 hbw hl9 hown
        go_wp2_with fail
        refine (sUp_any A (some ⟨g', 0, none⟩) n c m d ps lf _ HN.out (HR.out.below HL.out (by have := HB.out; repeat (first | exact Below.refl _ _ | assumption | (refine bstep ?_ (below_drewN _ _)) | exact bstep (by assumption) (by assumption) | (refine bstep ?_ (below_alloc _ _)) | (refine bstep ?_ (by assumption)) | (refine Below.setCell ?_ (by simp <;> omega) _) | refine Below.drew ?_))) (lt_below HL.out (by have := HB.out; repeat (first | exact Below.refl _ _ | assumption | (refine bstep ?_ (below_drewN _ _)) | exact bstep (by assumption) (by assumption) | (refine bstep ?_ (below_alloc _ _)) | (refine bstep ?_ (by assumption)) | (refine Below.setCell ?_ (by simp <;> omega) _) | refine Below.drew ?_))) HO.out (by omega)).mono ?_
        rintro e w2 ⟨v2, rfl, own2, hb2⟩
        obtain ⟨Y, cy, rfl, rd2⟩ := own_rd own2
        have HR2 := Lib.hid rd2
        have hs2 := hb2.size
        (try simp at hs2)
        have hk20 := fun o => hb2.cell (p := ⟨w.heap.size, o, none⟩) (by first | omega | (simp <;> omega))
        have hul : (upI ps lf).length ≤ 1048577 := by
          have h1 := up_len HO.out lf (by rw [HP.out]; omega)
          have h2 := dep_le HO.out lf (by rw [HP.out]; omega)
          have h3 := HN.out
          simp only [upI, List.length_map]; omega
        have HUL := Lib.hid hul
        clear own2 rd2 hul
        go_wp2_with fail
        refine (shas_any Y _ cy (upI ps lf) (sn : Int) _ HUL.out HR2.out).mono ?_
        rintro e w3 ⟨rfl, hw3⟩
        have hb3 := below_same hw3
        have hs3 := hb3.size
        have hB3 : Below wr.heap.size wr w3 := (by repeat (first | exact Below.refl _ _ | assumption | (refine bstep ?_ (below_drewN _ _)) | exact bstep (by assumption) (by assumption) | (refine bstep ?_ (below_alloc _ _)) | (refine bstep ?_ (by assumption)) | (refine Below.setCell ?_ (by simp <;> omega) _) | refine Below.drew ?_))
        have hown3 := own_bel HW.out hB3
        have hsz3 : w.heap.size + 1 ≤ w3.heap.size := by omega
        have y0 := (hB3.cell (p := ⟨w.heap.size, 0, none⟩) (show w.heap.size < wr.heap.size by omega)).trans bx0
        have y1 := (hB3.cell (p := ⟨w.heap.size, 1, none⟩) (show w.heap.size < wr.heap.size by omega)).trans bx1
        clear hw3 hb3 hk20
        cases hm : hasZ (upI ps lf) (sn : Int)
        · have hnm : sn ∉ up ps lf := fun h => by rw [hasZ_up.2 h] at hm; cases hm
          have HE : Hid (belowN ps ns sn (j + 1) = belowN ps ns sn j) := Lib.hid (belowN_no (by rw [HL9.out]; exact hnm))
          clear hnm hm
          go_wp2
          go_roundw
          case rel =>
            refine ⟨j + 1, X, cx, by omega, by go_num, ?_, ?_, bstep HB.out hB3, by omega, y0, y1⟩
            · rw [HE.out]
            · rw [HE.out]; exact hown3
          case measure => simp [intOf]; omega
        · have hnm : sn ∈ up ps lf := hasZ_up.1 hm
          have HE : Hid (belowN ps ns sn (j + 1) = belowN ps ns sn j ++ [j]) := Lib.hid (belowN_yes (by rw [HL9.out]; exact hnm))
          clear hnm hm
          obtain ⟨i0, hi, hz0, hz1, hz2⟩ := info_parts infoI
          go_wp2_with (at_builtin; refine wpList_append_own _ rfl _ _ 66 rfl (w.heap.size + 1) 3 i0 (.int .i64 0) 1 8 Try.underlying66 hi hz0 hz1 hz2 rfl (by decide) _ _ _ rfl (hown3.alloc _) ⟨w3.heap.size, 0, none⟩ 1 1 [.int .i64 (j : Int)] rfl rfl ?c1 ?c2 ?c3 ?c4 ?c5 ?_)
          try case c1 =>
            intro j y hy
            match j, hy with
            | 0, hy => (simp at hy; subst hy; simp [Addr.add])
          try case c2 => simp [Value.oneCell']
          case c3 => unfold maxLen; have := HM.out; have := HLE.out; omega
          case c4 => have := HM.out; have := HLE.out; omega
          try case c5 => first | omega | (simp <;> omega)
          intro v' w4 hown4 hg4 _
          obtain ⟨X', cx', rfl, _⟩ := own_rd hown4
          have hgb := hg4.block w.heap.size (by simp <;> omega) (fun e => by have := own_ge hown3 _ e.symm; omega)
          have hs4 := hg4.size
          (try simp at hs4)
          have z0 := (World.cell?_of_block (a := ⟨w.heap.size, 0, none⟩) hgb).trans (((below_alloc w3 _).cell (p := ⟨w.heap.size, 0, none⟩) (show w.heap.size < w3.heap.size by omega)).trans y0)
          have z1 := (World.cell?_of_block (a := ⟨w.heap.size, 1, none⟩) hgb).trans (((below_alloc w3 _).cell (p := ⟨w.heap.size, 1, none⟩) (show w.heap.size < w3.heap.size by omega)).trans y1)
          have hB4 : Below w.heap.size w w4 := Below.grown ((bstep HB.out hB3).alloc (by have := HB.out.size; have := hB3.size; omega) _) hg4 (by simp; have := HB.out.size; have := hB3.size; omega) (fun k hk => by have := own_ge hown3 k hk; omega)
          have HO4 := Lib.hid hown4
          clear hown4 hgb hg4 hz0 hz1 hz2 hi hown3
          go_wp2
          go_roundw
          case rel =>
            refine ⟨j + 1, X', cx', by omega, by go_num, ?_, ?_, hB4, by omega, z0, z1⟩
            · rw [HE.out, List.length_append]; rfl
            · rw [HE.out, preI_snoc, List.length_append]; exact HO4.out
          case measure => simp [intOf]; omega
      · have hj9 : j = m := by omega
        subst hj9
        have HB := Lib.hid hbw
        have HW := Lib.hid hown
        clear hbw hown
        go_wp2
        go_ret
        exact ⟨_, rfl, by rw [HF.out]; exact own_mono (by rw [preI_len]; exact HW.out) (by omega), HB.out⟩
end Go.Proofs.Ytjnfdcojccgfoaa
