/-
  FnVec: vectors are recovered from their text; subtracting what was added restores the vector.
-/
import Derived.Test.YtjnfdcojccgfoaaDe
import Derived.Test.YtjnfdcojccgfoaaVm
import Derived.Test.YtjnfdcojccgfoaaVc
import Derived.Test.YtjnfdcojccgfoaaNc
import Derived.Test.YtjnfdcojccgfoaaNw
namespace Go.Proofs.Ytjnfdcojccgfoaa
set_option linter.unusedSimpArgs false
set_option linter.unusedVariables false
set_option linter.unnecessarySimpa false
open Go.RowKit
theorem vtxt_no {a b c : Int} (h : vecOkB a b c = false) : vtxtB a b c = ⟨#[]⟩ := by
  unfold vtxtB; rw [h]; rfl
theorem tv_empty : tvIs ⟨#[]⟩ = false ∧ tvecV ⟨#[]⟩ = V.zero := by
  have h : tvIs ⟨#[]⟩ = false := tv_other (by decide)
  exact ⟨h, by unfold tvecV; rw [h]; rfl⟩
theorem tv_text {a b c : Int} (h : vecOkB a b c = true) : tvIs (vtxtB a b c) = true ∧ tvecV (vtxtB a b c) = ⟨a, b, c⟩ := by
  obtain ⟨⟨a0, a1⟩, ⟨b0, b1⟩, ⟨c0, c1⟩⟩ := vecOk_le h
  have hl := vtxt_list h
  have hs : splitL 47 (vtxtB a b c).data.toList = [ntxt a.toNat, ntxt b.toNat, ntxt c.toNat] := by
    rw [hl, splitL_cat _ _ _ (no47 _), splitL_cat _ _ _ (no47 _), splitL_none _ _ (no47 _)]
  have hp := parts_of_list hs
  have ea : (⟨(ntxt a.toNat).toArray⟩ : ByteArray) = txtB a := by rw [txtB_in a0 (by omega)]; rfl
  have eb : (⟨(ntxt b.toNat).toArray⟩ : ByteArray) = txtB b := by rw [txtB_in b0 (by omega)]; rfl
  have ec : (⟨(ntxt c.toNat).toArray⟩ : ByteArray) = txtB c := by rw [txtB_in c0 (by omega)]; rfl
  simp only [List.map_cons, List.map_nil, ea, eb, ec] at hp
  obtain ⟨k1, v1⟩ := tnum_txt a0 (show a ≤ 1000000000 by omega)
  obtain ⟨k2, v2⟩ := tnum_txt b0 (show b ≤ 1000000000 by omega)
  obtain ⟨k3, v3⟩ := tnum_txt c0 (show c ≤ 1000000000 by omega)
  have hi : tvIs (vtxtB a b c) = true := by
    rw [tv_three hp, k1, k2, k3, v1, v2, v3, h]; rfl
  refine ⟨hi, ?_⟩
  unfold tvecV
  rw [if_pos hi]
  simp [tvA, tvB, tvC, tvAt, hp, v1, v2, v3]
theorem vtxt_yes {a b c : Int} (h : vecOkB a b c = true) : vtxtB a b c ≠ ⟨#[]⟩ := by
  intro e
  have := (tv_text h).1
  rw [e, tv_empty.1] at this
  cases this
theorem empty_yes {S : ByteArray} (h : S = ⟨#[]⟩) : S.toList.isEmpty = true := by rw [h, Go.ByteArray.toList_eq]; rfl
theorem empty_no {S : ByteArray} (h : S ≠ ⟨#[]⟩) : S.toList.isEmpty = false := by
  rw [Go.ByteArray.toList_eq]
  obtain ⟨⟨l⟩⟩ := S
  cases l with
  | nil => exact absurd rfl h
  | cons a b => rfl
theorem validV_if (a b v : V) : validV a b v = if validB a b v then v else V.zero := rfl
theorem add_no {a b : V} (h : addB a b = false) : addV a b = V.zero := by
  unfold addV; rw [validV_if]; unfold addB at h; rw [h]; rfl
theorem add_yes {a b : V} (h : addB a b = true) : addV a b = ⟨a.A + b.A, a.B + b.B, a.C + b.C⟩ ∧ subB (addV a b) b = true ∧ subV (addV a b) b = a ∧ fitsB a.A a.B a.C (addV a b).A (addV a b).B (addV a b).C = true ∧ vminV a (addV a b) = a := by
  have h' := h
  unfold addB validB at h'
  simp only [Bool.and_eq_true] at h'
  obtain ⟨⟨ha, hb⟩, hs⟩ := h'
  obtain ⟨⟨a0, a1⟩, ⟨b0, b1⟩, ⟨c0, c1⟩⟩ := vecOk_le ha
  obtain ⟨⟨d0, d1⟩, ⟨e0, e1⟩, ⟨f0, f1⟩⟩ := vecOk_le hb
  have eS : sumV a b = ⟨a.A + b.A, a.B + b.B, a.C + b.C⟩ := by
    unfold sumV wrap64
    congr 1 <;> omega
  have eA : addV a b = ⟨a.A + b.A, a.B + b.B, a.C + b.C⟩ := by
    unfold addV; rw [validV_if]; unfold addB at h; rw [h, ← eS]; rfl
  rw [eS] at hs
  have eD : difV (addV a b) b = a := by
    rw [eA]; unfold difV wrap64
    obtain ⟨x, y, z⟩ := a
    simp only at *
    congr 1 <;> omega
  have hsub : subB (addV a b) b = true := by
    unfold subB validB; rw [eD, eA, hb, ha]; simpa using hs
  have hfit : fitsB a.A a.B a.C (addV a b).A (addV a b).B (addV a b).C = true := by
    have ha' : vecOkB a.A a.B a.C = true := ha
    have hs' : vecOkB (a.A + b.A) (a.B + b.B) (a.C + b.C) = true := hs
    rw [eA]; simp only [fitsB, ha', hs']
    simp; omega
  refine ⟨eA, hsub, ?_, hfit, ?_⟩
  · unfold subV; rw [validV_if]; unfold subB at hsub; rw [hsub, eD]; rfl
  · have em : minV a (addV a b) = a := by
      rw [eA]; unfold minV
      obtain ⟨x, y, z⟩ := a
      simp only at *
      congr 1 <;> omega
    have hv : validB a (addV a b) (minV a (addV a b)) = true := by
      unfold validB; rw [em, eA, ha]; simpa using hs
    unfold vminV; rw [validV_if, hv, em]; rfl

set_option maxHeartbeats 8000000 in
theorem law_vec_go (A : Option Addr) (n c : Nat) (w : World) (hn : n ≤ 1048576) (h : ByIn w A n) :
    Calls Try.prog 9 #[.slice A n c] w fun e w' => e = .returned (.bool true) ∧ Below w.heap.size w w' := by
  have HB := Lib.hid h
  have HN := Lib.hid hn
  have hn' : ¬ (1048576 : Int) < n := by omega
  clear h hn
  go_enter Try.func9, Try.ntmps9
  go_wp2_with fail
  refine (drawVecAdd_any A n c _ HN.out HB.out).mono ?_
  rintro e w1 ⟨x, y, z, p, q, r, rfl, -, -, hb1⟩
  have hs1 := hb1.size
  (try simp at hs1)
  have hcase : (vecOkB x y z = false ∧ addB ⟨x, y, z⟩ ⟨p, q, r⟩ = false) ∨ (vecOkB x y z = true ∧ addB ⟨x, y, z⟩ ⟨p, q, r⟩ = false) ∨ (vecOkB x y z = true ∧ addB ⟨x, y, z⟩ ⟨p, q, r⟩ = true) := by
    have h1 : vecOkB x y z = false → addB ⟨x, y, z⟩ ⟨p, q, r⟩ = false := fun h => by
      show (vecOkB x y z && _ && _) = false
      rw [h]; rfl
    cases h : vecOkB x y z
    · exact Or.inl ⟨rfl, h1 h⟩
    · cases h2 : addB ⟨x, y, z⟩ ⟨p, q, r⟩
      · exact Or.inr (Or.inl ⟨rfl, rfl⟩)
      · exact Or.inr (Or.inr ⟨rfl, rfl⟩)
  go_wp2_with fail
  refine (vecText_any x y z _).mono ?_
  rintro e w2 ⟨rfl, hb2⟩
  have hs2 := hb2.size
  (try simp at hs2)
  have hy20 : w1.heap.size < w2.heap.size := by omega
  have hk20 := fun o => hb2.cell (p := ⟨w1.heap.size, o, none⟩) (by first | omega | (simp <;> omega))
  have hg20 := fun o => hb2.frozen (p := ⟨w1.heap.size, o, none⟩) (by first | omega | (simp <;> omega))
  have hy21 : w1.heap.size + 1 < w2.heap.size := by omega
  have hk21 := fun o => hb2.cell (p := ⟨w1.heap.size + 1, o, none⟩) (by first | omega | (simp <;> omega))
  have hg21 := fun o => hb2.frozen (p := ⟨w1.heap.size + 1, o, none⟩) (by first | omega | (simp <;> omega))
  rcases hcase with ⟨ha, hadd⟩ | ⟨ha, hadd⟩ | ⟨ha, hadd⟩
  · have HADD := Lib.hid hadd
    have HZ := Lib.hid (add_no hadd)
    clear hadd
    have hS := vtxt_no ha
    have hti := tv_empty.1
    have htv := tv_empty.2
    rw [← hS] at hti htv
    have hs1 : (vtxtB x y z).toList.isEmpty = true := empty_yes hS
    have hsz := vtxtSize x y z
    clear hS
    generalize vtxtB x y z = S at *
    have HTI := Lib.hid hti
    have HTV := Lib.hid htv
    have HA := Lib.hid ha
    clear hti htv ha
    go_wp2_with fail
    refine (svecOk_raw x y z _).mono ?_
    rintro e w3 ⟨rfl, hb3⟩
    have hs3 := hb3.size
    (try simp at hs3)
    have hy30 : w1.heap.size < w3.heap.size := by omega
    have hk30 := fun o => hb3.cell (p := ⟨w1.heap.size, o, none⟩) (by first | omega | (simp <;> omega))
    have hg30 := fun o => hb3.frozen (p := ⟨w1.heap.size, o, none⟩) (by first | omega | (simp <;> omega))
    have hy31 : w1.heap.size + 1 < w3.heap.size := by omega
    have hk31 := fun o => hb3.cell (p := ⟨w1.heap.size + 1, o, none⟩) (by first | omega | (simp <;> omega))
    have hg31 := fun o => hb3.frozen (p := ⟨w1.heap.size + 1, o, none⟩) (by first | omega | (simp <;> omega))
    rw [HA.out]
    go_wp2_with fail
    refine (textVec_any S _ (by omega)).mono ?_
    rintro e w4 ⟨rfl, hb4⟩
    have hs4 := hb4.size
    (try simp at hs4)
    have hy40 : w1.heap.size < w4.heap.size := by omega
    have hk40 := fun o => hb4.cell (p := ⟨w1.heap.size, o, none⟩) (by first | omega | (simp <;> omega))
    have hg40 := fun o => hb4.frozen (p := ⟨w1.heap.size, o, none⟩) (by first | omega | (simp <;> omega))
    have hy41 : w1.heap.size + 1 < w4.heap.size := by omega
    have hk41 := fun o => hb4.cell (p := ⟨w1.heap.size + 1, o, none⟩) (by first | omega | (simp <;> omega))
    have hg41 := fun o => hb4.frozen (p := ⟨w1.heap.size + 1, o, none⟩) (by first | omega | (simp <;> omega))
    rw [HTI.out, HTV.out]
    dsimp only [V.zero]
    go_wp2_with fail
    refine (add_raw ⟨x, y, z⟩ ⟨p, q, r⟩ _).mono ?_
    rintro e w5 ⟨rfl, hb5⟩
    have hs5 := hb5.size
    (try simp at hs5)
    have hy50 : w1.heap.size < w5.heap.size := by omega
    have hk50 := fun o => hb5.cell (p := ⟨w1.heap.size, o, none⟩) (by first | omega | (simp <;> omega))
    have hg50 := fun o => hb5.frozen (p := ⟨w1.heap.size, o, none⟩) (by first | omega | (simp <;> omega))
    have hy51 : w1.heap.size + 1 < w5.heap.size := by omega
    have hk51 := fun o => hb5.cell (p := ⟨w1.heap.size + 1, o, none⟩) (by first | omega | (simp <;> omega))
    have hg51 := fun o => hb5.frozen (p := ⟨w1.heap.size + 1, o, none⟩) (by first | omega | (simp <;> omega))
    have hy52 : w4.heap.size < w5.heap.size := by omega
    have hk52 := fun o => hb5.cell (p := ⟨w4.heap.size, o, none⟩) (by first | omega | (simp <;> omega))
    have hg52 := fun o => hb5.frozen (p := ⟨w4.heap.size, o, none⟩) (by first | omega | (simp <;> omega))
    rw [HADD.out, HZ.out]
    dsimp only [V.zero]
    go_wp2_with fail
    refine (sadd_raw ⟨x, y, z⟩ ⟨p, q, r⟩ _).mono ?_
    rintro e w6 ⟨rfl, hb6⟩
    have hs6 := hb6.size
    (try simp at hs6)
    have hy60 : w1.heap.size < w6.heap.size := by omega
    have hk60 := fun o => hb6.cell (p := ⟨w1.heap.size, o, none⟩) (by first | omega | (simp <;> omega))
    have hg60 := fun o => hb6.frozen (p := ⟨w1.heap.size, o, none⟩) (by first | omega | (simp <;> omega))
    have hy61 : w1.heap.size + 1 < w6.heap.size := by omega
    have hk61 := fun o => hb6.cell (p := ⟨w1.heap.size + 1, o, none⟩) (by first | omega | (simp <;> omega))
    have hg61 := fun o => hb6.frozen (p := ⟨w1.heap.size + 1, o, none⟩) (by first | omega | (simp <;> omega))
    have hy62 : w5.heap.size < w6.heap.size := by omega
    have hk62 := fun o => hb6.cell (p := ⟨w5.heap.size, o, none⟩) (by first | omega | (simp <;> omega))
    have hg62 := fun o => hb6.frozen (p := ⟨w5.heap.size, o, none⟩) (by first | omega | (simp <;> omega))
    rw [HADD.out, HZ.out]
    dsimp only [V.zero]
    go_wp2
    go_ret
    exact ⟨rfl, (by repeat (first | exact Below.refl _ _ | assumption | (refine bstep ?_ (below_drewN _ _)) | exact bstep (by assumption) (by assumption) | (refine bstep ?_ (below_alloc _ _)) | (refine bstep ?_ (by assumption)) | (refine Below.setCell ?_ (by simp <;> omega) _) | refine Below.drew ?_))⟩
  · have HADD := Lib.hid hadd
    have HZ := Lib.hid (add_no hadd)
    clear hadd
    have hti := (tv_text ha).1
    have htv := (tv_text ha).2
    have hs1 : (vtxtB x y z).toList.isEmpty = false := empty_no (vtxt_yes ha)
    have hsz := vtxtSize x y z
    generalize vtxtB x y z = S at *
    have HTI := Lib.hid hti
    have HTV := Lib.hid htv
    have HA := Lib.hid ha
    clear hti htv ha
    go_wp2_with fail
    refine (svecOk_raw x y z _).mono ?_
    rintro e w3 ⟨rfl, hb3⟩
    have hs3 := hb3.size
    (try simp at hs3)
    have hy30 : w1.heap.size < w3.heap.size := by omega
    have hk30 := fun o => hb3.cell (p := ⟨w1.heap.size, o, none⟩) (by first | omega | (simp <;> omega))
    have hg30 := fun o => hb3.frozen (p := ⟨w1.heap.size, o, none⟩) (by first | omega | (simp <;> omega))
    have hy31 : w1.heap.size + 1 < w3.heap.size := by omega
    have hk31 := fun o => hb3.cell (p := ⟨w1.heap.size + 1, o, none⟩) (by first | omega | (simp <;> omega))
    have hg31 := fun o => hb3.frozen (p := ⟨w1.heap.size + 1, o, none⟩) (by first | omega | (simp <;> omega))
    rw [HA.out]
    go_wp2_with fail
    refine (textVec_any S _ (by omega)).mono ?_
    rintro e w4 ⟨rfl, hb4⟩
    have hs4 := hb4.size
    (try simp at hs4)
    have hy40 : w1.heap.size < w4.heap.size := by omega
    have hk40 := fun o => hb4.cell (p := ⟨w1.heap.size, o, none⟩) (by first | omega | (simp <;> omega))
    have hg40 := fun o => hb4.frozen (p := ⟨w1.heap.size, o, none⟩) (by first | omega | (simp <;> omega))
    have hy41 : w1.heap.size + 1 < w4.heap.size := by omega
    have hk41 := fun o => hb4.cell (p := ⟨w1.heap.size + 1, o, none⟩) (by first | omega | (simp <;> omega))
    have hg41 := fun o => hb4.frozen (p := ⟨w1.heap.size + 1, o, none⟩) (by first | omega | (simp <;> omega))
    rw [HTI.out, HTV.out]
    dsimp only [V.zero]
    go_wp2_with fail
    refine (add_raw ⟨x, y, z⟩ ⟨p, q, r⟩ _).mono ?_
    rintro e w5 ⟨rfl, hb5⟩
    have hs5 := hb5.size
    (try simp at hs5)
    have hy50 : w1.heap.size < w5.heap.size := by omega
    have hk50 := fun o => hb5.cell (p := ⟨w1.heap.size, o, none⟩) (by first | omega | (simp <;> omega))
    have hg50 := fun o => hb5.frozen (p := ⟨w1.heap.size, o, none⟩) (by first | omega | (simp <;> omega))
    have hy51 : w1.heap.size + 1 < w5.heap.size := by omega
    have hk51 := fun o => hb5.cell (p := ⟨w1.heap.size + 1, o, none⟩) (by first | omega | (simp <;> omega))
    have hg51 := fun o => hb5.frozen (p := ⟨w1.heap.size + 1, o, none⟩) (by first | omega | (simp <;> omega))
    have hy52 : w4.heap.size < w5.heap.size := by omega
    have hk52 := fun o => hb5.cell (p := ⟨w4.heap.size, o, none⟩) (by first | omega | (simp <;> omega))
    have hg52 := fun o => hb5.frozen (p := ⟨w4.heap.size, o, none⟩) (by first | omega | (simp <;> omega))
    rw [HADD.out, HZ.out]
    dsimp only [V.zero]
    go_wp2_with fail
    refine (sadd_raw ⟨x, y, z⟩ ⟨p, q, r⟩ _).mono ?_
    rintro e w6 ⟨rfl, hb6⟩
    have hs6 := hb6.size
    (try simp at hs6)
    have hy60 : w1.heap.size < w6.heap.size := by omega
    have hk60 := fun o => hb6.cell (p := ⟨w1.heap.size, o, none⟩) (by first | omega | (simp <;> omega))
    have hg60 := fun o => hb6.frozen (p := ⟨w1.heap.size, o, none⟩) (by first | omega | (simp <;> omega))
    have hy61 : w1.heap.size + 1 < w6.heap.size := by omega
    have hk61 := fun o => hb6.cell (p := ⟨w1.heap.size + 1, o, none⟩) (by first | omega | (simp <;> omega))
    have hg61 := fun o => hb6.frozen (p := ⟨w1.heap.size + 1, o, none⟩) (by first | omega | (simp <;> omega))
    have hy62 : w5.heap.size < w6.heap.size := by omega
    have hk62 := fun o => hb6.cell (p := ⟨w5.heap.size, o, none⟩) (by first | omega | (simp <;> omega))
    have hg62 := fun o => hb6.frozen (p := ⟨w5.heap.size, o, none⟩) (by first | omega | (simp <;> omega))
    rw [HADD.out, HZ.out]
    dsimp only [V.zero]
    go_wp2
    go_ret
    exact ⟨rfl, (by repeat (first | exact Below.refl _ _ | assumption | (refine bstep ?_ (below_drewN _ _)) | exact bstep (by assumption) (by assumption) | (refine bstep ?_ (below_alloc _ _)) | (refine bstep ?_ (by assumption)) | (refine Below.setCell ?_ (by simp <;> omega) _) | refine Below.drew ?_))⟩
  · have HADD := Lib.hid hadd
    obtain ⟨-, k1, k2, k3, k4⟩ := add_yes hadd
    have K1 := Lib.hid k1
    have K2 := Lib.hid k2
    have K3 := Lib.hid k3
    have K4 := Lib.hid k4
    clear hadd k1 k2 k3 k4
    have hti := (tv_text ha).1
    have htv := (tv_text ha).2
    have hs1 : (vtxtB x y z).toList.isEmpty = false := empty_no (vtxt_yes ha)
    have hsz := vtxtSize x y z
    generalize vtxtB x y z = S at *
    have HTI := Lib.hid hti
    have HTV := Lib.hid htv
    have HA := Lib.hid ha
    clear hti htv ha
    go_wp2_with fail
    refine (svecOk_raw x y z _).mono ?_
    rintro e w3 ⟨rfl, hb3⟩
    have hs3 := hb3.size
    (try simp at hs3)
    have hy30 : w1.heap.size < w3.heap.size := by omega
    have hk30 := fun o => hb3.cell (p := ⟨w1.heap.size, o, none⟩) (by first | omega | (simp <;> omega))
    have hg30 := fun o => hb3.frozen (p := ⟨w1.heap.size, o, none⟩) (by first | omega | (simp <;> omega))
    have hy31 : w1.heap.size + 1 < w3.heap.size := by omega
    have hk31 := fun o => hb3.cell (p := ⟨w1.heap.size + 1, o, none⟩) (by first | omega | (simp <;> omega))
    have hg31 := fun o => hb3.frozen (p := ⟨w1.heap.size + 1, o, none⟩) (by first | omega | (simp <;> omega))
    rw [HA.out]
    go_wp2_with fail
    refine (textVec_any S _ (by omega)).mono ?_
    rintro e w4 ⟨rfl, hb4⟩
    have hs4 := hb4.size
    (try simp at hs4)
    have hy40 : w1.heap.size < w4.heap.size := by omega
    have hk40 := fun o => hb4.cell (p := ⟨w1.heap.size, o, none⟩) (by first | omega | (simp <;> omega))
    have hg40 := fun o => hb4.frozen (p := ⟨w1.heap.size, o, none⟩) (by first | omega | (simp <;> omega))
    have hy41 : w1.heap.size + 1 < w4.heap.size := by omega
    have hk41 := fun o => hb4.cell (p := ⟨w1.heap.size + 1, o, none⟩) (by first | omega | (simp <;> omega))
    have hg41 := fun o => hb4.frozen (p := ⟨w1.heap.size + 1, o, none⟩) (by first | omega | (simp <;> omega))
    rw [HTI.out, HTV.out]
    dsimp only [V.zero]
    go_wp2_with fail
    refine (add_raw ⟨x, y, z⟩ ⟨p, q, r⟩ _).mono ?_
    rintro e w5 ⟨rfl, hb5⟩
    have hs5 := hb5.size
    (try simp at hs5)
    have hy50 : w1.heap.size < w5.heap.size := by omega
    have hk50 := fun o => hb5.cell (p := ⟨w1.heap.size, o, none⟩) (by first | omega | (simp <;> omega))
    have hg50 := fun o => hb5.frozen (p := ⟨w1.heap.size, o, none⟩) (by first | omega | (simp <;> omega))
    have hy51 : w1.heap.size + 1 < w5.heap.size := by omega
    have hk51 := fun o => hb5.cell (p := ⟨w1.heap.size + 1, o, none⟩) (by first | omega | (simp <;> omega))
    have hg51 := fun o => hb5.frozen (p := ⟨w1.heap.size + 1, o, none⟩) (by first | omega | (simp <;> omega))
    have hy52 : w4.heap.size < w5.heap.size := by omega
    have hk52 := fun o => hb5.cell (p := ⟨w4.heap.size, o, none⟩) (by first | omega | (simp <;> omega))
    have hg52 := fun o => hb5.frozen (p := ⟨w4.heap.size, o, none⟩) (by first | omega | (simp <;> omega))
    rw [HADD.out]
    go_wp2_with fail
    refine (sadd_raw ⟨x, y, z⟩ ⟨p, q, r⟩ _).mono ?_
    rintro e w6 ⟨rfl, hb6⟩
    have hs6 := hb6.size
    (try simp at hs6)
    have hy60 : w1.heap.size < w6.heap.size := by omega
    have hk60 := fun o => hb6.cell (p := ⟨w1.heap.size, o, none⟩) (by first | omega | (simp <;> omega))
    have hg60 := fun o => hb6.frozen (p := ⟨w1.heap.size, o, none⟩) (by first | omega | (simp <;> omega))
    have hy61 : w1.heap.size + 1 < w6.heap.size := by omega
    have hk61 := fun o => hb6.cell (p := ⟨w1.heap.size + 1, o, none⟩) (by first | omega | (simp <;> omega))
    have hg61 := fun o => hb6.frozen (p := ⟨w1.heap.size + 1, o, none⟩) (by first | omega | (simp <;> omega))
    have hy62 : w5.heap.size < w6.heap.size := by omega
    have hk62 := fun o => hb6.cell (p := ⟨w5.heap.size, o, none⟩) (by first | omega | (simp <;> omega))
    have hg62 := fun o => hb6.frozen (p := ⟨w5.heap.size, o, none⟩) (by first | omega | (simp <;> omega))
    rw [HADD.out]
    generalize addV ⟨x, y, z⟩ ⟨p, q, r⟩ = S2 at *
    obtain ⟨sa, sb, sc⟩ := S2
    dsimp only at *
    go_wp2_with fail
    refine (sub_raw ⟨sa, sb, sc⟩ ⟨p, q, r⟩ _).mono ?_
    rintro e w7 ⟨rfl, hb7⟩
    have hs7 := hb7.size
    (try simp at hs7)
    have hy70 : w1.heap.size < w7.heap.size := by omega
    have hk70 := fun o => hb7.cell (p := ⟨w1.heap.size, o, none⟩) (by first | omega | (simp <;> omega))
    have hg70 := fun o => hb7.frozen (p := ⟨w1.heap.size, o, none⟩) (by first | omega | (simp <;> omega))
    have hy71 : w1.heap.size + 1 < w7.heap.size := by omega
    have hk71 := fun o => hb7.cell (p := ⟨w1.heap.size + 1, o, none⟩) (by first | omega | (simp <;> omega))
    have hg71 := fun o => hb7.frozen (p := ⟨w1.heap.size + 1, o, none⟩) (by first | omega | (simp <;> omega))
    have hy72 : w5.heap.size < w7.heap.size := by omega
    have hk72 := fun o => hb7.cell (p := ⟨w5.heap.size, o, none⟩) (by first | omega | (simp <;> omega))
    have hg72 := fun o => hb7.frozen (p := ⟨w5.heap.size, o, none⟩) (by first | omega | (simp <;> omega))
    rw [K1.out, K2.out]
    dsimp only
    go_wp2_with fail
    go_region_held3 (fun w' => w'.cell? ⟨w1.heap.size, 0, none⟩ = some (.int .i64 x) ∧ w'.cell? ⟨w1.heap.size, 1, none⟩ = some (.int .i64 y) ∧ w'.cell? ⟨w1.heap.size, 2, none⟩ = some (.int .i64 z) ∧ w'.cell? ⟨w5.heap.size, 0, none⟩ = some (.int .i64 sa) ∧ w'.cell? ⟨w5.heap.size, 1, none⟩ = some (.int .i64 sb) ∧ w'.cell? ⟨w5.heap.size, 2, none⟩ = some (.int .i64 sc) ∧ w'.cell? ⟨w7.heap.size, 0, none⟩ = some (.int .i64 x) ∧ w'.cell? ⟨w7.heap.size, 1, none⟩ = some (.int .i64 y) ∧ w'.cell? ⟨w7.heap.size, 2, none⟩ = some (.int .i64 z)) (simp [go_sem, *, World.cell?_alloc_some, World.cell?_setCell_far, Nat.lt_add_right, Nat.ne_of_gt]) (first | (go_at_call 56; refine (vecFits_raw x y z sa sb sc _).mono ?_; rintro e w8 ⟨rfl, hb8⟩; have hs8 := hb8.size; (try simp at hs8); have hy80 : w1.heap.size < w8.heap.size := (by omega); have hk80 := fun o => hb8.cell (p := ⟨w1.heap.size, o, none⟩) (by first | omega | (simp <;> omega)); have hg80 := fun o => hb8.frozen (p := ⟨w1.heap.size, o, none⟩) (by first | omega | (simp <;> omega)); have hy81 : w1.heap.size + 1 < w8.heap.size := (by omega); have hk81 := fun o => hb8.cell (p := ⟨w1.heap.size + 1, o, none⟩) (by first | omega | (simp <;> omega)); have hg81 := fun o => hb8.frozen (p := ⟨w1.heap.size + 1, o, none⟩) (by first | omega | (simp <;> omega)); have hy82 : w5.heap.size < w8.heap.size := (by omega); have hk82 := fun o => hb8.cell (p := ⟨w5.heap.size, o, none⟩) (by first | omega | (simp <;> omega)); have hg82 := fun o => hb8.frozen (p := ⟨w5.heap.size, o, none⟩) (by first | omega | (simp <;> omega)); have hy83 : w7.heap.size < w8.heap.size := (by omega); have hk83 := fun o => hb8.cell (p := ⟨w7.heap.size, o, none⟩) (by first | omega | (simp <;> omega)); have hg83 := fun o => hb8.frozen (p := ⟨w7.heap.size, o, none⟩) (by first | omega | (simp <;> omega)); rw [show fitsB x y z sa sb sc = true from K3.out]) | (go_at_call 57; refine (min_raw ⟨x, y, z⟩ ⟨sa, sb, sc⟩ _).mono ?_; rintro e w9 ⟨rfl, hb9⟩; have hs9 := hb9.size; (try simp at hs9); have hy90 : w1.heap.size < w9.heap.size := (by omega); have hk90 := fun o => hb9.cell (p := ⟨w1.heap.size, o, none⟩) (by first | omega | (simp <;> omega)); have hg90 := fun o => hb9.frozen (p := ⟨w1.heap.size, o, none⟩) (by first | omega | (simp <;> omega)); have hy91 : w1.heap.size + 1 < w9.heap.size := (by omega); have hk91 := fun o => hb9.cell (p := ⟨w1.heap.size + 1, o, none⟩) (by first | omega | (simp <;> omega)); have hg91 := fun o => hb9.frozen (p := ⟨w1.heap.size + 1, o, none⟩) (by first | omega | (simp <;> omega)); have hy92 : w5.heap.size < w9.heap.size := (by omega); have hk92 := fun o => hb9.cell (p := ⟨w5.heap.size, o, none⟩) (by first | omega | (simp <;> omega)); have hg92 := fun o => hb9.frozen (p := ⟨w5.heap.size, o, none⟩) (by first | omega | (simp <;> omega)); have hy93 : w7.heap.size < w9.heap.size := (by omega); have hk93 := fun o => hb9.cell (p := ⟨w7.heap.size, o, none⟩) (by first | omega | (simp <;> omega)); have hg93 := fun o => hb9.frozen (p := ⟨w7.heap.size, o, none⟩) (by first | omega | (simp <;> omega)); rw [K4.out]))
    all_goals go_wp2
    all_goals go_ret
    all_goals exact ⟨rfl, (by repeat (first | exact Below.refl _ _ | assumption | (refine bstep ?_ (below_drewN _ _)) | exact bstep (by assumption) (by assumption) | (refine bstep ?_ (below_alloc _ _)) | (refine bstep ?_ (by assumption)) | (refine Below.setCell ?_ (by simp <;> omega) _) | refine Below.drew ?_))⟩

theorem law_vec (A : Option Addr) (n c : Nat) (w : World) (hn : n ≤ maxLen) (h : ByIn w A n) :
    Calls Try.prog 9 #[.slice A n c] w fun e w' => e = .returned (.bool true) ∧ Below w.heap.size w w' := by
  by_cases hs : n ≤ 1048576
  · exact law_vec_go A n c w hs h
  · have hs' : (1048576 : Int) < n := by omega
    unfold maxLen at hn
    go_enter Try.func9, Try.ntmps9
    go_wp2
    go_ret
    exact ⟨rfl, Below.refl _ _⟩
end Go.Proofs.Ytjnfdcojccgfoaa
