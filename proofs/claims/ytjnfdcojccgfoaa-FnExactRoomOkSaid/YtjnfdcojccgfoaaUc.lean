import Derived.Test.YtjnfdcojccgfoaaUb
import Derived.Test.YtjnfdcojccgfoaaPf
namespace Go.Proofs.Ytjnfdcojccgfoaa
set_option linter.unusedSimpArgs false
set_option linter.unusedVariables false
set_option linter.unnecessarySimpa false
open Go.RowKit
theorem eqBoolS_raw (A A' : Option Addr) (n c c' : Nat) (bs : List Bool) (w : World) (hn : n ≤ 1048577) (ha : Rd w A n 1 (bools bs)) (hb : Rd w A' n 1 (bools bs)) :
    Calls Try.prog 159 #[.slice A n c, .slice A' n c'] w fun e w' => e = .returned (.bool true) ∧ Below w.heap.size w w' :=
  (eqBoolS_any A A' n c c' bs w hn ha hb).mono fun e w' ⟨h1, k, h2⟩ => ⟨h1, by rw [h2]; exact below_drewN _ _⟩
structure SameLen (a b : RA) : Prop where
  n : a.n = b.n
  m : a.m = b.m
  nu : a.nu = b.nu
  np : a.np = b.np
  nl : a.nl = b.nl
theorem RoomRd.lens {w : World} {a : RA} {r : Rm} (h : RoomRd w a r) : r.par.length = a.n ∧ r.nodes.length = a.m ∧ r.up.length = a.nu ∧ r.profs.length = a.np ∧ r.lics.length = a.nl := by
  have h1 := h.par.1; have h2 := h.nodes.1; have h3 := h.up.1; have h4 := h.profs.1; have h5 := h.lics.1
  rw [flat_len] at h2 h5
  simp only [ints, bools, List.length_map] at h1 h3
  exact ⟨by omega, by omega, by omega, h4, by omega⟩
theorem RoomRd.same {w w' : World} {a b : RA} {r : Rm} (h : RoomRd w a r) (h' : RoomRd w' b r) : SameLen a b := by
  obtain ⟨e1, e2, e3, e4, e5⟩ := h.lens
  obtain ⟨f1, f2, f3, f4, f5⟩ := h'.lens
  exact ⟨by omega, by omega, by omega, by omega, by omega⟩

set_option maxHeartbeats 4000000 in
theorem eqRoom_any (a a' : RA) (r : Rm) (w : World) (h : RoomRd w a r) (h' : RoomRd w a' r) :
    Calls Try.prog 98 #[a.v, a'.v] w fun e w' => e = .returned (.bool true) ∧ Below w.heap.size w w' := by
  have hs := h.same h'
  obtain ⟨A, B, U, R, L, n, m, nu, np, nl, c, d, cu, cp, cl⟩ := a
  dsimp only [RA.v]
  obtain ⟨A', B', U', R', L', n', m', nu', np', nl', c', d', cu', cp', cl'⟩ := a'
  obtain ⟨e1, e2, e3, e4, e5⟩ := hs
  dsimp only at e1 e2 e3 e4 e5
  subst e1 e2 e3 e4 e5
  dsimp only [RA.v]
  have H := Lib.hid h
  have H' := Lib.hid h'
  clear h h'
  go_enter Try.func98, Try.ntmps98
  go_wp2_with fail
  refine (eqTopo_any A A' B B' n c c' m d d' r.par r.nodes _ (Nat.le_succ_of_le H.out.n) (Nat.le_succ_of_le H.out.m) (H.out.below (by repeat (first | exact Below.refl _ _ | assumption | (refine bstep ?_ (below_drewN _ _)) | exact bstep (by assumption) (by assumption) | (refine bstep ?_ (below_alloc _ _)) | (refine bstep ?_ (by assumption)) | (refine Below.setCell ?_ (by simp <;> omega) _) | refine Below.drew ?_))).par (H'.out.below (by repeat (first | exact Below.refl _ _ | assumption | (refine bstep ?_ (below_drewN _ _)) | exact bstep (by assumption) (by assumption) | (refine bstep ?_ (below_alloc _ _)) | (refine bstep ?_ (by assumption)) | (refine Below.setCell ?_ (by simp <;> omega) _) | refine Below.drew ?_))).par (H.out.below (by repeat (first | exact Below.refl _ _ | assumption | (refine bstep ?_ (below_drewN _ _)) | exact bstep (by assumption) (by assumption) | (refine bstep ?_ (below_alloc _ _)) | (refine bstep ?_ (by assumption)) | (refine Below.setCell ?_ (by simp <;> omega) _) | refine Below.drew ?_))).nodes (H'.out.below (by repeat (first | exact Below.refl _ _ | assumption | (refine bstep ?_ (below_drewN _ _)) | exact bstep (by assumption) (by assumption) | (refine bstep ?_ (below_alloc _ _)) | (refine bstep ?_ (by assumption)) | (refine Below.setCell ?_ (by simp <;> omega) _) | refine Below.drew ?_))).nodes (H.out.below (by repeat (first | exact Below.refl _ _ | assumption | (refine bstep ?_ (below_drewN _ _)) | exact bstep (by assumption) (by assumption) | (refine bstep ?_ (below_alloc _ _)) | (refine bstep ?_ (by assumption)) | (refine Below.setCell ?_ (by simp <;> omega) _) | refine Below.drew ?_))).ltA (H'.out.below (by repeat (first | exact Below.refl _ _ | assumption | (refine bstep ?_ (below_drewN _ _)) | exact bstep (by assumption) (by assumption) | (refine bstep ?_ (below_alloc _ _)) | (refine bstep ?_ (by assumption)) | (refine Below.setCell ?_ (by simp <;> omega) _) | refine Below.drew ?_))).ltA (H.out.below (by repeat (first | exact Below.refl _ _ | assumption | (refine bstep ?_ (below_drewN _ _)) | exact bstep (by assumption) (by assumption) | (refine bstep ?_ (below_alloc _ _)) | (refine bstep ?_ (by assumption)) | (refine Below.setCell ?_ (by simp <;> omega) _) | refine Below.drew ?_))).ltB (H'.out.below (by repeat (first | exact Below.refl _ _ | assumption | (refine bstep ?_ (below_drewN _ _)) | exact bstep (by assumption) (by assumption) | (refine bstep ?_ (below_alloc _ _)) | (refine bstep ?_ (by assumption)) | (refine Below.setCell ?_ (by simp <;> omega) _) | refine Below.drew ?_))).ltB).mono ?_
  rintro e w1 ⟨rfl, hb1⟩
  have hs1 := hb1.size
  (try simp at hs1)
  have hy10 : w.heap.size < w1.heap.size := by omega
  have hk10 := fun o => hb1.cell (p := ⟨w.heap.size, o, none⟩) (by first | omega | (simp <;> omega))
  have hg10 := fun o => hb1.frozen (p := ⟨w.heap.size, o, none⟩) (by first | omega | (simp <;> omega))
  have hy11 : w.heap.size + 1 < w1.heap.size := by omega
  have hk11 := fun o => hb1.cell (p := ⟨w.heap.size + 1, o, none⟩) (by first | omega | (simp <;> omega))
  have hg11 := fun o => hb1.frozen (p := ⟨w.heap.size + 1, o, none⟩) (by first | omega | (simp <;> omega))
  go_wp2_with fail
  refine (eqBoolS_raw U U' nu cu cu' r.up _ (Nat.le_succ_of_le H.out.nu) (H.out.below (by repeat (first | exact Below.refl _ _ | assumption | (refine bstep ?_ (below_drewN _ _)) | exact bstep (by assumption) (by assumption) | (refine bstep ?_ (below_alloc _ _)) | (refine bstep ?_ (by assumption)) | (refine Below.setCell ?_ (by simp <;> omega) _) | refine Below.drew ?_))).up (H'.out.below (by repeat (first | exact Below.refl _ _ | assumption | (refine bstep ?_ (below_drewN _ _)) | exact bstep (by assumption) (by assumption) | (refine bstep ?_ (below_alloc _ _)) | (refine bstep ?_ (by assumption)) | (refine Below.setCell ?_ (by simp <;> omega) _) | refine Below.drew ?_))).up).mono ?_
  rintro e w2 ⟨rfl, hb2⟩
  have hs2 := hb2.size
  (try simp at hs2)
  have hy20 : w.heap.size < w2.heap.size := by omega
  have hk20 := fun o => hb2.cell (p := ⟨w.heap.size, o, none⟩) (by first | omega | (simp <;> omega))
  have hg20 := fun o => hb2.frozen (p := ⟨w.heap.size, o, none⟩) (by first | omega | (simp <;> omega))
  have hy21 : w.heap.size + 1 < w2.heap.size := by omega
  have hk21 := fun o => hb2.cell (p := ⟨w.heap.size + 1, o, none⟩) (by first | omega | (simp <;> omega))
  have hg21 := fun o => hb2.frozen (p := ⟨w.heap.size + 1, o, none⟩) (by first | omega | (simp <;> omega))
  go_wp2_with fail
  refine (eqProfS_any R R' np cp cp' r.profs _ (Nat.le_succ_of_le H.out.np) (H.out.below (by repeat (first | exact Below.refl _ _ | assumption | (refine bstep ?_ (below_drewN _ _)) | exact bstep (by assumption) (by assumption) | (refine bstep ?_ (below_alloc _ _)) | (refine bstep ?_ (by assumption)) | (refine Below.setCell ?_ (by simp <;> omega) _) | refine Below.drew ?_))).profs (H'.out.below (by repeat (first | exact Below.refl _ _ | assumption | (refine bstep ?_ (below_drewN _ _)) | exact bstep (by assumption) (by assumption) | (refine bstep ?_ (below_alloc _ _)) | (refine bstep ?_ (by assumption)) | (refine Below.setCell ?_ (by simp <;> omega) _) | refine Below.drew ?_))).profs).mono ?_
  rintro e w3 ⟨rfl, hb3⟩
  have hs3 := hb3.size
  (try simp at hs3)
  have hy30 : w.heap.size < w3.heap.size := by omega
  have hk30 := fun o => hb3.cell (p := ⟨w.heap.size, o, none⟩) (by first | omega | (simp <;> omega))
  have hg30 := fun o => hb3.frozen (p := ⟨w.heap.size, o, none⟩) (by first | omega | (simp <;> omega))
  have hy31 : w.heap.size + 1 < w3.heap.size := by omega
  have hk31 := fun o => hb3.cell (p := ⟨w.heap.size + 1, o, none⟩) (by first | omega | (simp <;> omega))
  have hg31 := fun o => hb3.frozen (p := ⟨w.heap.size + 1, o, none⟩) (by first | omega | (simp <;> omega))
  go_wp2_with fail
  refine (eqProf_any L L' nl cl cl' r.lics _ (Nat.le_succ_of_le H.out.nl) (H.out.below (by repeat (first | exact Below.refl _ _ | assumption | (refine bstep ?_ (below_drewN _ _)) | exact bstep (by assumption) (by assumption) | (refine bstep ?_ (below_alloc _ _)) | (refine bstep ?_ (by assumption)) | (refine Below.setCell ?_ (by simp <;> omega) _) | refine Below.drew ?_))).lics (H'.out.below (by repeat (first | exact Below.refl _ _ | assumption | (refine bstep ?_ (below_drewN _ _)) | exact bstep (by assumption) (by assumption) | (refine bstep ?_ (below_alloc _ _)) | (refine bstep ?_ (by assumption)) | (refine Below.setCell ?_ (by simp <;> omega) _) | refine Below.drew ?_))).lics (H.out.below (by repeat (first | exact Below.refl _ _ | assumption | (refine bstep ?_ (below_drewN _ _)) | exact bstep (by assumption) (by assumption) | (refine bstep ?_ (below_alloc _ _)) | (refine bstep ?_ (by assumption)) | (refine Below.setCell ?_ (by simp <;> omega) _) | refine Below.drew ?_))).ltL (H'.out.below (by repeat (first | exact Below.refl _ _ | assumption | (refine bstep ?_ (below_drewN _ _)) | exact bstep (by assumption) (by assumption) | (refine bstep ?_ (below_alloc _ _)) | (refine bstep ?_ (by assumption)) | (refine Below.setCell ?_ (by simp <;> omega) _) | refine Below.drew ?_))).ltL).mono ?_
  rintro e w4 ⟨rfl, hb4⟩
  have hs4 := hb4.size
  (try simp at hs4)
  have hy40 : w.heap.size < w4.heap.size := by omega
  have hk40 := fun o => hb4.cell (p := ⟨w.heap.size, o, none⟩) (by first | omega | (simp <;> omega))
  have hg40 := fun o => hb4.frozen (p := ⟨w.heap.size, o, none⟩) (by first | omega | (simp <;> omega))
  have hy41 : w.heap.size + 1 < w4.heap.size := by omega
  have hk41 := fun o => hb4.cell (p := ⟨w.heap.size + 1, o, none⟩) (by first | omega | (simp <;> omega))
  have hg41 := fun o => hb4.frozen (p := ⟨w.heap.size + 1, o, none⟩) (by first | omega | (simp <;> omega))
  go_wp2
  go_ret
  exact ⟨rfl, (by repeat (first | exact Below.refl _ _ | assumption | (refine bstep ?_ (below_drewN _ _)) | exact bstep (by assumption) (by assumption) | (refine bstep ?_ (below_alloc _ _)) | (refine bstep ?_ (by assumption)) | (refine Below.setCell ?_ (by simp <;> omega) _) | refine Below.drew ?_))⟩

theorem okB_eq (r : Rm) {m nu np : Nat} (h1 : r.nodes.length = m) (h2 : r.up.length = nu) (h3 : r.profs.length = np) : r.okB = (topoOkB r.par r.nodes && decide (nu = m) && decide (np = m) && r.profs.all profOkB && profOkB r.lics) := by
  unfold Rm.okB; rw [h1, h2, h3]
theorem all_upto {pss : List (List Q)} {n : Nat} (hl : pss.length = n) (h : ∀ j ps, j < n → pss[j]? = some ps → profOkB ps = true) : pss.all profOkB = true := by
  rw [List.all_eq_true]
  intro ps hps
  obtain ⟨j, hj, rfl⟩ := List.getElem_of_mem hps
  exact h j _ (by omega) (List.getElem?_eq_getElem hj)
theorem not_all {pss : List (List Q)} {k : Nat} {ps : List Q} (hk : pss[k]? = some ps) (h : profOkB ps = false) : pss.all profOkB = false := by
  rw [List.all_eq_false]; exact ⟨ps, List.mem_of_getElem? hk, by simp [h]⟩

set_option maxHeartbeats 4000000 in
theorem roomOk_any (a : RA) (r : Rm) (w : World) (h : RoomRd w a r) :
    Calls Try.prog 97 #[a.v] w fun e w' => e = .returned (.bool r.okB) ∧ Below w.heap.size w w' := by
  obtain ⟨l1, l2, l3, l4, l5⟩ := h.lens
  have ho := okB_eq r l2 l3 l4
  obtain ⟨A, B, U, R, L, n, m, nu, np, nl, c, d, cu, cp, cl⟩ := a
  dsimp only [RA.v]
  dsimp only at *
  have H := Lib.hid h
  have HO := Lib.hid ho
  have L4 := Lib.hid l4
  have hm9 : m ≤ 9223372036854775807 := Nat.le_trans H.out.m (by decide)
  clear h ho l1 l2 l3 l4 l5
  cases ht : topoOkB r.par r.nodes
  · have HF : Hid (r.okB = false) := Lib.hid (by rw [HO.out, ht]; simp)
    have HT := Lib.hid ht
    clear ht
    go_enter Try.func97, Try.ntmps97
    go_wp2_with fail
    refine (topoOk_any A B n c m d r.par r.nodes _ H.out.n H.out.m (H.out.below (by repeat (first | exact Below.refl _ _ | assumption | (refine bstep ?_ (below_drewN _ _)) | exact bstep (by assumption) (by assumption) | (refine bstep ?_ (below_alloc _ _)) | (refine bstep ?_ (by assumption)) | (refine Below.setCell ?_ (by simp <;> omega) _) | refine Below.drew ?_))).par (H.out.below (by repeat (first | exact Below.refl _ _ | assumption | (refine bstep ?_ (below_drewN _ _)) | exact bstep (by assumption) (by assumption) | (refine bstep ?_ (below_alloc _ _)) | (refine bstep ?_ (by assumption)) | (refine Below.setCell ?_ (by simp <;> omega) _) | refine Below.drew ?_))).nodes (H.out.below (by repeat (first | exact Below.refl _ _ | assumption | (refine bstep ?_ (below_drewN _ _)) | exact bstep (by assumption) (by assumption) | (refine bstep ?_ (below_alloc _ _)) | (refine bstep ?_ (by assumption)) | (refine Below.setCell ?_ (by simp <;> omega) _) | refine Below.drew ?_))).ltA (H.out.below (by repeat (first | exact Below.refl _ _ | assumption | (refine bstep ?_ (below_drewN _ _)) | exact bstep (by assumption) (by assumption) | (refine bstep ?_ (below_alloc _ _)) | (refine bstep ?_ (by assumption)) | (refine Below.setCell ?_ (by simp <;> omega) _) | refine Below.drew ?_))).ltB).mono ?_
    rintro e w1 ⟨rfl, hb1⟩
    have hs1 := hb1.size
    (try simp at hs1)
    have hy10 : w.heap.size < w1.heap.size := by omega
    have hk10 := fun o => hb1.cell (p := ⟨w.heap.size, o, none⟩) (by first | omega | (simp <;> omega))
    have hg10 := fun o => hb1.frozen (p := ⟨w.heap.size, o, none⟩) (by first | omega | (simp <;> omega))
    rw [HT.out]
    go_wp2
    go_ret
    exact ⟨ret_bool HF.out.symm, (by repeat (first | exact Below.refl _ _ | assumption | (refine bstep ?_ (below_drewN _ _)) | exact bstep (by assumption) (by assumption) | (refine bstep ?_ (below_alloc _ _)) | (refine bstep ?_ (by assumption)) | (refine Below.setCell ?_ (by simp <;> omega) _) | refine Below.drew ?_))⟩
  · have HT := Lib.hid ht
    clear ht
    by_cases hu : m = nu
    · subst hu
      by_cases hp : m = np
      · subst hp
        go_enter Try.func97, Try.ntmps97
        go_wp2_with fail
        refine (topoOk_any A B n c m d r.par r.nodes _ H.out.n H.out.m (H.out.below (by repeat (first | exact Below.refl _ _ | assumption | (refine bstep ?_ (below_drewN _ _)) | exact bstep (by assumption) (by assumption) | (refine bstep ?_ (below_alloc _ _)) | (refine bstep ?_ (by assumption)) | (refine Below.setCell ?_ (by simp <;> omega) _) | refine Below.drew ?_))).par (H.out.below (by repeat (first | exact Below.refl _ _ | assumption | (refine bstep ?_ (below_drewN _ _)) | exact bstep (by assumption) (by assumption) | (refine bstep ?_ (below_alloc _ _)) | (refine bstep ?_ (by assumption)) | (refine Below.setCell ?_ (by simp <;> omega) _) | refine Below.drew ?_))).nodes (H.out.below (by repeat (first | exact Below.refl _ _ | assumption | (refine bstep ?_ (below_drewN _ _)) | exact bstep (by assumption) (by assumption) | (refine bstep ?_ (below_alloc _ _)) | (refine bstep ?_ (by assumption)) | (refine Below.setCell ?_ (by simp <;> omega) _) | refine Below.drew ?_))).ltA (H.out.below (by repeat (first | exact Below.refl _ _ | assumption | (refine bstep ?_ (below_drewN _ _)) | exact bstep (by assumption) (by assumption) | (refine bstep ?_ (below_alloc _ _)) | (refine bstep ?_ (by assumption)) | (refine Below.setCell ?_ (by simp <;> omega) _) | refine Below.drew ?_))).ltB).mono ?_
        rintro e w1 ⟨rfl, hb1⟩
        have hs1 := hb1.size
        (try simp at hs1)
        have hy10 : w.heap.size < w1.heap.size := by omega
        have hk10 := fun o => hb1.cell (p := ⟨w.heap.size, o, none⟩) (by first | omega | (simp <;> omega))
        have hg10 := fun o => hb1.frozen (p := ⟨w.heap.size, o, none⟩) (by first | omega | (simp <;> omega))
        rw [HT.out]
        go_wp2
        go_loopw [32] (fun i wr => ∃ k : Nat, k ≤ m ∧ i = .int .i64 k ∧ Below w1.heap.size w1 wr ∧ Hid (∀ j ps, j < k → r.profs[j]? = some ps → profOkB ps = true)) (fun i _ => m - (intOf i).toNat)
        case atStart => exact ⟨0, Nat.zero_le _, rfl, (by repeat (first | exact Below.refl _ _ | assumption | (refine bstep ?_ (below_drewN _ _)) | exact bstep (by assumption) (by assumption) | (refine bstep ?_ (below_alloc _ _)) | (refine bstep ?_ (by assumption)) | (refine Below.setCell ?_ (by simp <;> omega) _) | refine Below.drew ?_)), Lib.hid (fun j ps hj => absurd hj (by omega))⟩
        case round =>
          obtain ⟨k, hk, rfl, hbw, hall⟩ := hrel
          have hx0 := fun o => hbw.cell (p := ⟨w.heap.size, o, none⟩) (by omega)
          have hxl : w.heap.size < wr.heap.size := Nat.lt_of_lt_of_le (by omega) hbw.size
          by_cases hlt : k < m
          · obtain ⟨g, B', e', ps, rfl, hg, hq, hc, hle, hrd, hlb⟩ := (H.out.below (w' := wr) (by repeat (first | exact Below.refl _ _ | assumption | (refine bstep ?_ (below_drewN _ _)) | exact bstep (by assumption) (by assumption) | (refine bstep ?_ (below_alloc _ _)) | (refine bstep ?_ (by assumption)) | (refine Below.setCell ?_ (by simp <;> omega) _) | refine Below.drew ?_))).profs.prof hlt
            have HQ := Lib.hid hq
            have HLE := Lib.hid hle
            have HRD := Lib.hid hrd
            have HLB := Lib.hid hlb
            have HW := Lib.hid hbw
            clear hq hle hrd hlb
            have hlt' : (k : Int) < m := by omega
            cases hpo : profOkB ps
            · have HF : Hid (r.okB = false) := Lib.hid (by rw [HO.out, not_all HQ.out hpo]; simp)
              have HPO := Lib.hid hpo
              clear hpo
              go_wp2_with fail
              refine (profOk_any B' ps.length e' ps _ HLE.out (HRD.out.below HLB.out (by repeat (first | exact Below.refl _ _ | assumption | (refine bstep ?_ (below_drewN _ _)) | exact bstep (by assumption) (by assumption) | (refine bstep ?_ (below_alloc _ _)) | (refine bstep ?_ (by assumption)) | (refine Below.setCell ?_ (by simp <;> omega) _) | refine Below.drew ?_))) (lt_below HLB.out (by repeat (first | exact Below.refl _ _ | assumption | (refine bstep ?_ (below_drewN _ _)) | exact bstep (by assumption) (by assumption) | (refine bstep ?_ (below_alloc _ _)) | (refine bstep ?_ (by assumption)) | (refine Below.setCell ?_ (by simp <;> omega) _) | refine Below.drew ?_)))).mono ?_
              rintro e w5 ⟨rfl, hb5⟩
              rw [HPO.out]
              go_wp2
              go_ret
              exact ⟨ret_bool HF.out.symm, (by repeat (first | exact Below.refl _ _ | assumption | (refine bstep ?_ (below_drewN _ _)) | exact bstep (by assumption) (by assumption) | (refine bstep ?_ (below_alloc _ _)) | (refine bstep ?_ (by assumption)) | (refine Below.setCell ?_ (by simp <;> omega) _) | refine Below.drew ?_))⟩
            · have HPO := Lib.hid hpo
              clear hpo
              go_wp2_with fail
              refine (profOk_any B' ps.length e' ps _ HLE.out (HRD.out.below HLB.out (by repeat (first | exact Below.refl _ _ | assumption | (refine bstep ?_ (below_drewN _ _)) | exact bstep (by assumption) (by assumption) | (refine bstep ?_ (below_alloc _ _)) | (refine bstep ?_ (by assumption)) | (refine Below.setCell ?_ (by simp <;> omega) _) | refine Below.drew ?_))) (lt_below HLB.out (by repeat (first | exact Below.refl _ _ | assumption | (refine bstep ?_ (below_drewN _ _)) | exact bstep (by assumption) (by assumption) | (refine bstep ?_ (below_alloc _ _)) | (refine bstep ?_ (by assumption)) | (refine Below.setCell ?_ (by simp <;> omega) _) | refine Below.drew ?_)))).mono ?_
              rintro e w5 ⟨rfl, hb5⟩
              rw [HPO.out]
              go_wp2
              go_roundw
              case rel =>
                refine ⟨k + 1, by omega, by go_num, (by repeat (first | exact Below.refl _ _ | assumption | (refine bstep ?_ (below_drewN _ _)) | exact bstep (by assumption) (by assumption) | (refine bstep ?_ (below_alloc _ _)) | (refine bstep ?_ (by assumption)) | (refine Below.setCell ?_ (by simp <;> omega) _) | refine Below.drew ?_)), Lib.hid (fun j ps' hj hps => ?_)⟩
                rcases Nat.lt_or_ge j k with h | h
                · exact hall.out j ps' h hps
                · have : j = k := by omega
                  rw [this, HQ.out] at hps
                  injection hps with hps
                  rw [← hps]; exact HPO.out
              case measure => simp [intOf]; omega
          · have hk9 : k = m := by omega
            subst hk9
            have HA := Lib.hid (all_upto L4.out hall.out)
            clear hall
            go_wp2_with fail
            refine (profOk_any L nl cl r.lics _ H.out.nl (H.out.below (by repeat (first | exact Below.refl _ _ | assumption | (refine bstep ?_ (below_drewN _ _)) | exact bstep (by assumption) (by assumption) | (refine bstep ?_ (below_alloc _ _)) | (refine bstep ?_ (by assumption)) | (refine Below.setCell ?_ (by simp <;> omega) _) | refine Below.drew ?_))).lics (H.out.below (by repeat (first | exact Below.refl _ _ | assumption | (refine bstep ?_ (below_drewN _ _)) | exact bstep (by assumption) (by assumption) | (refine bstep ?_ (below_alloc _ _)) | (refine bstep ?_ (by assumption)) | (refine Below.setCell ?_ (by simp <;> omega) _) | refine Below.drew ?_))).ltL).mono ?_
            rintro e w6 ⟨rfl, hb6⟩
            have hs6 := hb6.size
            (try simp at hs6)
            go_wp2
            go_ret
            exact ⟨ret_bool (by rw [HO.out, HT.out, HA.out]; simp), (by repeat (first | exact Below.refl _ _ | assumption | (refine bstep ?_ (below_drewN _ _)) | exact bstep (by assumption) (by assumption) | (refine bstep ?_ (below_alloc _ _)) | (refine bstep ?_ (by assumption)) | (refine Below.setCell ?_ (by simp <;> omega) _) | refine Below.drew ?_))⟩
      · have HF : Hid (r.okB = false) := Lib.hid (by rw [HO.out]; rw [decide_eq_false (show ¬ np = m from fun e => hp (Eq.symm e))]; simp)
        have hne : ¬ ((np : Int) = m) := by omega
        have hnb : (((np : Int)) != m) = true := by simp [hne]
        go_enter Try.func97, Try.ntmps97
        go_wp2_with fail
        refine (topoOk_any A B n c m d r.par r.nodes _ H.out.n H.out.m (H.out.below (by repeat (first | exact Below.refl _ _ | assumption | (refine bstep ?_ (below_drewN _ _)) | exact bstep (by assumption) (by assumption) | (refine bstep ?_ (below_alloc _ _)) | (refine bstep ?_ (by assumption)) | (refine Below.setCell ?_ (by simp <;> omega) _) | refine Below.drew ?_))).par (H.out.below (by repeat (first | exact Below.refl _ _ | assumption | (refine bstep ?_ (below_drewN _ _)) | exact bstep (by assumption) (by assumption) | (refine bstep ?_ (below_alloc _ _)) | (refine bstep ?_ (by assumption)) | (refine Below.setCell ?_ (by simp <;> omega) _) | refine Below.drew ?_))).nodes (H.out.below (by repeat (first | exact Below.refl _ _ | assumption | (refine bstep ?_ (below_drewN _ _)) | exact bstep (by assumption) (by assumption) | (refine bstep ?_ (below_alloc _ _)) | (refine bstep ?_ (by assumption)) | (refine Below.setCell ?_ (by simp <;> omega) _) | refine Below.drew ?_))).ltA (H.out.below (by repeat (first | exact Below.refl _ _ | assumption | (refine bstep ?_ (below_drewN _ _)) | exact bstep (by assumption) (by assumption) | (refine bstep ?_ (below_alloc _ _)) | (refine bstep ?_ (by assumption)) | (refine Below.setCell ?_ (by simp <;> omega) _) | refine Below.drew ?_))).ltB).mono ?_
        rintro e w1 ⟨rfl, hb1⟩
        have hs1 := hb1.size
        (try simp at hs1)
        have hy10 : w.heap.size < w1.heap.size := by omega
        have hk10 := fun o => hb1.cell (p := ⟨w.heap.size, o, none⟩) (by first | omega | (simp <;> omega))
        have hg10 := fun o => hb1.frozen (p := ⟨w.heap.size, o, none⟩) (by first | omega | (simp <;> omega))
        rw [HT.out]
        go_wp2
        go_ret
        exact ⟨ret_bool HF.out.symm, (by repeat (first | exact Below.refl _ _ | assumption | (refine bstep ?_ (below_drewN _ _)) | exact bstep (by assumption) (by assumption) | (refine bstep ?_ (below_alloc _ _)) | (refine bstep ?_ (by assumption)) | (refine Below.setCell ?_ (by simp <;> omega) _) | refine Below.drew ?_))⟩
    · have HF : Hid (r.okB = false) := Lib.hid (by rw [HO.out]; rw [decide_eq_false (show ¬ nu = m from fun e => hu (Eq.symm e))]; simp)
      have hne : ¬ ((nu : Int) = m) := by omega
      have hnb : (((nu : Int)) != m) = true := by simp [hne]
      go_enter Try.func97, Try.ntmps97
      go_wp2_with fail
      refine (topoOk_any A B n c m d r.par r.nodes _ H.out.n H.out.m (H.out.below (by repeat (first | exact Below.refl _ _ | assumption | (refine bstep ?_ (below_drewN _ _)) | exact bstep (by assumption) (by assumption) | (refine bstep ?_ (below_alloc _ _)) | (refine bstep ?_ (by assumption)) | (refine Below.setCell ?_ (by simp <;> omega) _) | refine Below.drew ?_))).par (H.out.below (by repeat (first | exact Below.refl _ _ | assumption | (refine bstep ?_ (below_drewN _ _)) | exact bstep (by assumption) (by assumption) | (refine bstep ?_ (below_alloc _ _)) | (refine bstep ?_ (by assumption)) | (refine Below.setCell ?_ (by simp <;> omega) _) | refine Below.drew ?_))).nodes (H.out.below (by repeat (first | exact Below.refl _ _ | assumption | (refine bstep ?_ (below_drewN _ _)) | exact bstep (by assumption) (by assumption) | (refine bstep ?_ (below_alloc _ _)) | (refine bstep ?_ (by assumption)) | (refine Below.setCell ?_ (by simp <;> omega) _) | refine Below.drew ?_))).ltA (H.out.below (by repeat (first | exact Below.refl _ _ | assumption | (refine bstep ?_ (below_drewN _ _)) | exact bstep (by assumption) (by assumption) | (refine bstep ?_ (below_alloc _ _)) | (refine bstep ?_ (by assumption)) | (refine Below.setCell ?_ (by simp <;> omega) _) | refine Below.drew ?_))).ltB).mono ?_
      rintro e w1 ⟨rfl, hb1⟩
      have hs1 := hb1.size
      (try simp at hs1)
      have hy10 : w.heap.size < w1.heap.size := by omega
      have hk10 := fun o => hb1.cell (p := ⟨w.heap.size, o, none⟩) (by first | omega | (simp <;> omega))
      have hg10 := fun o => hb1.frozen (p := ⟨w.heap.size, o, none⟩) (by first | omega | (simp <;> omega))
      rw [HT.out]
      go_wp2
      go_ret
      exact ⟨ret_bool HF.out.symm, (by repeat (first | exact Below.refl _ _ | assumption | (refine bstep ?_ (below_drewN _ _)) | exact bstep (by assumption) (by assumption) | (refine bstep ?_ (below_alloc _ _)) | (refine bstep ?_ (by assumption)) | (refine Below.setCell ?_ (by simp <;> omega) _) | refine Below.drew ?_))⟩

set_option maxHeartbeats 4000000 in
theorem sroomOk_any (a : RA) (r : Rm) (w : World) (h : RoomRd w a r) :
    Calls Try.prog 95 #[a.v] w fun e w' => e = .returned (.bool r.okB) ∧ Below w.heap.size w w' := by
  obtain ⟨l1, l2, l3, l4, l5⟩ := h.lens
  have ho := okB_eq r l2 l3 l4
  obtain ⟨A, B, U, R, L, n, m, nu, np, nl, c, d, cu, cp, cl⟩ := a
  dsimp only [RA.v]
  dsimp only at *
  have H := Lib.hid h
  have HO := Lib.hid ho
  have L4 := Lib.hid l4
  have hm9 : m ≤ 9223372036854775807 := Nat.le_trans H.out.m (by decide)
  clear h ho l1 l2 l3 l4 l5
  cases ht : topoOkB r.par r.nodes
  · have HF : Hid (r.okB = false) := Lib.hid (by rw [HO.out, ht]; simp)
    have HT := Lib.hid ht
    clear ht
    go_enter Try.func95, Try.ntmps95
    go_wp2_with fail
    refine (stopoOk_any A B n c m d r.par r.nodes _ H.out.n H.out.m (H.out.below (by repeat (first | exact Below.refl _ _ | assumption | (refine bstep ?_ (below_drewN _ _)) | exact bstep (by assumption) (by assumption) | (refine bstep ?_ (below_alloc _ _)) | (refine bstep ?_ (by assumption)) | (refine Below.setCell ?_ (by simp <;> omega) _) | refine Below.drew ?_))).par (H.out.below (by repeat (first | exact Below.refl _ _ | assumption | (refine bstep ?_ (below_drewN _ _)) | exact bstep (by assumption) (by assumption) | (refine bstep ?_ (below_alloc _ _)) | (refine bstep ?_ (by assumption)) | (refine Below.setCell ?_ (by simp <;> omega) _) | refine Below.drew ?_))).nodes (H.out.below (by repeat (first | exact Below.refl _ _ | assumption | (refine bstep ?_ (below_drewN _ _)) | exact bstep (by assumption) (by assumption) | (refine bstep ?_ (below_alloc _ _)) | (refine bstep ?_ (by assumption)) | (refine Below.setCell ?_ (by simp <;> omega) _) | refine Below.drew ?_))).ltA (H.out.below (by repeat (first | exact Below.refl _ _ | assumption | (refine bstep ?_ (below_drewN _ _)) | exact bstep (by assumption) (by assumption) | (refine bstep ?_ (below_alloc _ _)) | (refine bstep ?_ (by assumption)) | (refine Below.setCell ?_ (by simp <;> omega) _) | refine Below.drew ?_))).ltB).mono ?_
    rintro e w1 ⟨rfl, hb1⟩
    have hs1 := hb1.size
    (try simp at hs1)
    have hy10 : w.heap.size < w1.heap.size := by omega
    have hk10 := fun o => hb1.cell (p := ⟨w.heap.size, o, none⟩) (by first | omega | (simp <;> omega))
    have hg10 := fun o => hb1.frozen (p := ⟨w.heap.size, o, none⟩) (by first | omega | (simp <;> omega))
    rw [HT.out]
    go_wp2
    go_ret
    exact ⟨ret_bool HF.out.symm, (by repeat (first | exact Below.refl _ _ | assumption | (refine bstep ?_ (below_drewN _ _)) | exact bstep (by assumption) (by assumption) | (refine bstep ?_ (below_alloc _ _)) | (refine bstep ?_ (by assumption)) | (refine Below.setCell ?_ (by simp <;> omega) _) | refine Below.drew ?_))⟩
  · have HT := Lib.hid ht
    clear ht
    by_cases hu : m = nu
    · subst hu
      by_cases hp : m = np
      · subst hp
        cases hl : profOkB r.lics
        · have HF : Hid (r.okB = false) := Lib.hid (by rw [HO.out, hl]; simp)
          have HL := Lib.hid hl
          clear hl
          go_enter Try.func95, Try.ntmps95
          go_wp2_with fail
          refine (stopoOk_any A B n c m d r.par r.nodes _ H.out.n H.out.m (H.out.below (by repeat (first | exact Below.refl _ _ | assumption | (refine bstep ?_ (below_drewN _ _)) | exact bstep (by assumption) (by assumption) | (refine bstep ?_ (below_alloc _ _)) | (refine bstep ?_ (by assumption)) | (refine Below.setCell ?_ (by simp <;> omega) _) | refine Below.drew ?_))).par (H.out.below (by repeat (first | exact Below.refl _ _ | assumption | (refine bstep ?_ (below_drewN _ _)) | exact bstep (by assumption) (by assumption) | (refine bstep ?_ (below_alloc _ _)) | (refine bstep ?_ (by assumption)) | (refine Below.setCell ?_ (by simp <;> omega) _) | refine Below.drew ?_))).nodes (H.out.below (by repeat (first | exact Below.refl _ _ | assumption | (refine bstep ?_ (below_drewN _ _)) | exact bstep (by assumption) (by assumption) | (refine bstep ?_ (below_alloc _ _)) | (refine bstep ?_ (by assumption)) | (refine Below.setCell ?_ (by simp <;> omega) _) | refine Below.drew ?_))).ltA (H.out.below (by repeat (first | exact Below.refl _ _ | assumption | (refine bstep ?_ (below_drewN _ _)) | exact bstep (by assumption) (by assumption) | (refine bstep ?_ (below_alloc _ _)) | (refine bstep ?_ (by assumption)) | (refine Below.setCell ?_ (by simp <;> omega) _) | refine Below.drew ?_))).ltB).mono ?_
          rintro e w1 ⟨rfl, hb1⟩
          have hs1 := hb1.size
          (try simp at hs1)
          have hy10 : w.heap.size < w1.heap.size := by omega
          have hk10 := fun o => hb1.cell (p := ⟨w.heap.size, o, none⟩) (by first | omega | (simp <;> omega))
          have hg10 := fun o => hb1.frozen (p := ⟨w.heap.size, o, none⟩) (by first | omega | (simp <;> omega))
          rw [HT.out]
          go_wp2_with fail
          refine (sprofOk_any L nl cl r.lics _ H.out.nl (H.out.below (by repeat (first | exact Below.refl _ _ | assumption | (refine bstep ?_ (below_drewN _ _)) | exact bstep (by assumption) (by assumption) | (refine bstep ?_ (below_alloc _ _)) | (refine bstep ?_ (by assumption)) | (refine Below.setCell ?_ (by simp <;> omega) _) | refine Below.drew ?_))).lics (H.out.below (by repeat (first | exact Below.refl _ _ | assumption | (refine bstep ?_ (below_drewN _ _)) | exact bstep (by assumption) (by assumption) | (refine bstep ?_ (below_alloc _ _)) | (refine bstep ?_ (by assumption)) | (refine Below.setCell ?_ (by simp <;> omega) _) | refine Below.drew ?_))).ltL).mono ?_
          rintro e w6 ⟨rfl, hb6⟩
          have hs6 := hb6.size
          (try simp at hs6)
          have hy60 : w.heap.size < w6.heap.size := by omega
          have hk60 := fun o => hb6.cell (p := ⟨w.heap.size, o, none⟩) (by first | omega | (simp <;> omega))
          have hg60 := fun o => hb6.frozen (p := ⟨w.heap.size, o, none⟩) (by first | omega | (simp <;> omega))
          rw [HL.out]
          go_wp2
          go_ret
          exact ⟨ret_bool HF.out.symm, (by repeat (first | exact Below.refl _ _ | assumption | (refine bstep ?_ (below_drewN _ _)) | exact bstep (by assumption) (by assumption) | (refine bstep ?_ (below_alloc _ _)) | (refine bstep ?_ (by assumption)) | (refine Below.setCell ?_ (by simp <;> omega) _) | refine Below.drew ?_))⟩
        have HL := Lib.hid hl
        clear hl
        go_enter Try.func95, Try.ntmps95
        go_wp2_with fail
        refine (stopoOk_any A B n c m d r.par r.nodes _ H.out.n H.out.m (H.out.below (by repeat (first | exact Below.refl _ _ | assumption | (refine bstep ?_ (below_drewN _ _)) | exact bstep (by assumption) (by assumption) | (refine bstep ?_ (below_alloc _ _)) | (refine bstep ?_ (by assumption)) | (refine Below.setCell ?_ (by simp <;> omega) _) | refine Below.drew ?_))).par (H.out.below (by repeat (first | exact Below.refl _ _ | assumption | (refine bstep ?_ (below_drewN _ _)) | exact bstep (by assumption) (by assumption) | (refine bstep ?_ (below_alloc _ _)) | (refine bstep ?_ (by assumption)) | (refine Below.setCell ?_ (by simp <;> omega) _) | refine Below.drew ?_))).nodes (H.out.below (by repeat (first | exact Below.refl _ _ | assumption | (refine bstep ?_ (below_drewN _ _)) | exact bstep (by assumption) (by assumption) | (refine bstep ?_ (below_alloc _ _)) | (refine bstep ?_ (by assumption)) | (refine Below.setCell ?_ (by simp <;> omega) _) | refine Below.drew ?_))).ltA (H.out.below (by repeat (first | exact Below.refl _ _ | assumption | (refine bstep ?_ (below_drewN _ _)) | exact bstep (by assumption) (by assumption) | (refine bstep ?_ (below_alloc _ _)) | (refine bstep ?_ (by assumption)) | (refine Below.setCell ?_ (by simp <;> omega) _) | refine Below.drew ?_))).ltB).mono ?_
        rintro e w1 ⟨rfl, hb1⟩
        have hs1 := hb1.size
        (try simp at hs1)
        have hy10 : w.heap.size < w1.heap.size := by omega
        have hk10 := fun o => hb1.cell (p := ⟨w.heap.size, o, none⟩) (by first | omega | (simp <;> omega))
        have hg10 := fun o => hb1.frozen (p := ⟨w.heap.size, o, none⟩) (by first | omega | (simp <;> omega))
        rw [HT.out]
        go_wp2_with fail
        refine (sprofOk_any L nl cl r.lics _ H.out.nl (H.out.below (by repeat (first | exact Below.refl _ _ | assumption | (refine bstep ?_ (below_drewN _ _)) | exact bstep (by assumption) (by assumption) | (refine bstep ?_ (below_alloc _ _)) | (refine bstep ?_ (by assumption)) | (refine Below.setCell ?_ (by simp <;> omega) _) | refine Below.drew ?_))).lics (H.out.below (by repeat (first | exact Below.refl _ _ | assumption | (refine bstep ?_ (below_drewN _ _)) | exact bstep (by assumption) (by assumption) | (refine bstep ?_ (below_alloc _ _)) | (refine bstep ?_ (by assumption)) | (refine Below.setCell ?_ (by simp <;> omega) _) | refine Below.drew ?_))).ltL).mono ?_
        rintro e w6 ⟨rfl, hb6⟩
        have hs6 := hb6.size
        (try simp at hs6)
        have hy60 : w.heap.size < w6.heap.size := by omega
        have hk60 := fun o => hb6.cell (p := ⟨w.heap.size, o, none⟩) (by first | omega | (simp <;> omega))
        have hg60 := fun o => hb6.frozen (p := ⟨w.heap.size, o, none⟩) (by first | omega | (simp <;> omega))
        rw [HL.out]
        go_wp2
        go_loopw [38] (fun i wr => ∃ k : Nat, k ≤ m ∧ i = .int .i64 k ∧ Below w6.heap.size w6 wr ∧ Hid (∀ j ps, j < k → r.profs[j]? = some ps → profOkB ps = true)) (fun i _ => m - (intOf i).toNat)
        case atStart => exact ⟨0, Nat.zero_le _, rfl, (by repeat (first | exact Below.refl _ _ | assumption | (refine bstep ?_ (below_drewN _ _)) | exact bstep (by assumption) (by assumption) | (refine bstep ?_ (below_alloc _ _)) | (refine bstep ?_ (by assumption)) | (refine Below.setCell ?_ (by simp <;> omega) _) | refine Below.drew ?_)), Lib.hid (fun j ps hj => absurd hj (by omega))⟩
        case round =>
          obtain ⟨k, hk, rfl, hbw, hall⟩ := hrel
          have hx0 := fun o => hbw.cell (p := ⟨w.heap.size, o, none⟩) (by omega)
          have hxl : w.heap.size < wr.heap.size := Nat.lt_of_lt_of_le (by omega) hbw.size
          by_cases hlt : k < m
          · obtain ⟨g, B', e', ps, rfl, hg, hq, hc, hle, hrd, hlb⟩ := (H.out.below (w' := wr) (by repeat (first | exact Below.refl _ _ | assumption | (refine bstep ?_ (below_drewN _ _)) | exact bstep (by assumption) (by assumption) | (refine bstep ?_ (below_alloc _ _)) | (refine bstep ?_ (by assumption)) | (refine Below.setCell ?_ (by simp <;> omega) _) | refine Below.drew ?_))).profs.prof hlt
            have HQ := Lib.hid hq
            have HLE := Lib.hid hle
            have HRD := Lib.hid hrd
            have HLB := Lib.hid hlb
            have HW := Lib.hid hbw
            clear hq hle hrd hlb
            have hlt' : (k : Int) < m := by omega
            cases hpo : profOkB ps
            · have HF : Hid (r.okB = false) := Lib.hid (by rw [HO.out, not_all HQ.out hpo]; simp)
              have HPO := Lib.hid hpo
              clear hpo
              go_wp2_with fail
              refine (sprofOk_any B' ps.length e' ps _ HLE.out (HRD.out.below HLB.out (by repeat (first | exact Below.refl _ _ | assumption | (refine bstep ?_ (below_drewN _ _)) | exact bstep (by assumption) (by assumption) | (refine bstep ?_ (below_alloc _ _)) | (refine bstep ?_ (by assumption)) | (refine Below.setCell ?_ (by simp <;> omega) _) | refine Below.drew ?_))) (lt_below HLB.out (by repeat (first | exact Below.refl _ _ | assumption | (refine bstep ?_ (below_drewN _ _)) | exact bstep (by assumption) (by assumption) | (refine bstep ?_ (below_alloc _ _)) | (refine bstep ?_ (by assumption)) | (refine Below.setCell ?_ (by simp <;> omega) _) | refine Below.drew ?_)))).mono ?_
              rintro e w5 ⟨rfl, hb5⟩
              rw [HPO.out]
              go_wp2
              go_ret
              exact ⟨ret_bool HF.out.symm, (by repeat (first | exact Below.refl _ _ | assumption | (refine bstep ?_ (below_drewN _ _)) | exact bstep (by assumption) (by assumption) | (refine bstep ?_ (below_alloc _ _)) | (refine bstep ?_ (by assumption)) | (refine Below.setCell ?_ (by simp <;> omega) _) | refine Below.drew ?_))⟩
            · have HPO := Lib.hid hpo
              clear hpo
              go_wp2_with fail
              refine (sprofOk_any B' ps.length e' ps _ HLE.out (HRD.out.below HLB.out (by repeat (first | exact Below.refl _ _ | assumption | (refine bstep ?_ (below_drewN _ _)) | exact bstep (by assumption) (by assumption) | (refine bstep ?_ (below_alloc _ _)) | (refine bstep ?_ (by assumption)) | (refine Below.setCell ?_ (by simp <;> omega) _) | refine Below.drew ?_))) (lt_below HLB.out (by repeat (first | exact Below.refl _ _ | assumption | (refine bstep ?_ (below_drewN _ _)) | exact bstep (by assumption) (by assumption) | (refine bstep ?_ (below_alloc _ _)) | (refine bstep ?_ (by assumption)) | (refine Below.setCell ?_ (by simp <;> omega) _) | refine Below.drew ?_)))).mono ?_
              rintro e w5 ⟨rfl, hb5⟩
              rw [HPO.out]
              go_wp2
              go_roundw
              case rel =>
                refine ⟨k + 1, by omega, by go_num, (by repeat (first | exact Below.refl _ _ | assumption | (refine bstep ?_ (below_drewN _ _)) | exact bstep (by assumption) (by assumption) | (refine bstep ?_ (below_alloc _ _)) | (refine bstep ?_ (by assumption)) | (refine Below.setCell ?_ (by simp <;> omega) _) | refine Below.drew ?_)), Lib.hid (fun j ps' hj hps => ?_)⟩
                rcases Nat.lt_or_ge j k with h | h
                · exact hall.out j ps' h hps
                · have : j = k := by omega
                  rw [this, HQ.out] at hps
                  injection hps with hps
                  rw [← hps]; exact HPO.out
              case measure => simp [intOf]; omega
          · have hk9 : k = m := by omega
            subst hk9
            have HA := Lib.hid (all_upto L4.out hall.out)
            clear hall
            go_wp2
            go_ret
            exact ⟨ret_bool (by rw [HO.out, HT.out, HA.out, HL.out]; simp), (by repeat (first | exact Below.refl _ _ | assumption | (refine bstep ?_ (below_drewN _ _)) | exact bstep (by assumption) (by assumption) | (refine bstep ?_ (below_alloc _ _)) | (refine bstep ?_ (by assumption)) | (refine Below.setCell ?_ (by simp <;> omega) _) | refine Below.drew ?_))⟩
      · have HF : Hid (r.okB = false) := Lib.hid (by rw [HO.out]; rw [decide_eq_false (show ¬ np = m from fun e => hp (Eq.symm e))]; simp)
        have hne : ¬ ((np : Int) = m) := by omega
        have hnb : (((np : Int)) != m) = true := by simp [hne]
        go_enter Try.func95, Try.ntmps95
        go_wp2_with fail
        refine (stopoOk_any A B n c m d r.par r.nodes _ H.out.n H.out.m (H.out.below (by repeat (first | exact Below.refl _ _ | assumption | (refine bstep ?_ (below_drewN _ _)) | exact bstep (by assumption) (by assumption) | (refine bstep ?_ (below_alloc _ _)) | (refine bstep ?_ (by assumption)) | (refine Below.setCell ?_ (by simp <;> omega) _) | refine Below.drew ?_))).par (H.out.below (by repeat (first | exact Below.refl _ _ | assumption | (refine bstep ?_ (below_drewN _ _)) | exact bstep (by assumption) (by assumption) | (refine bstep ?_ (below_alloc _ _)) | (refine bstep ?_ (by assumption)) | (refine Below.setCell ?_ (by simp <;> omega) _) | refine Below.drew ?_))).nodes (H.out.below (by repeat (first | exact Below.refl _ _ | assumption | (refine bstep ?_ (below_drewN _ _)) | exact bstep (by assumption) (by assumption) | (refine bstep ?_ (below_alloc _ _)) | (refine bstep ?_ (by assumption)) | (refine Below.setCell ?_ (by simp <;> omega) _) | refine Below.drew ?_))).ltA (H.out.below (by repeat (first | exact Below.refl _ _ | assumption | (refine bstep ?_ (below_drewN _ _)) | exact bstep (by assumption) (by assumption) | (refine bstep ?_ (below_alloc _ _)) | (refine bstep ?_ (by assumption)) | (refine Below.setCell ?_ (by simp <;> omega) _) | refine Below.drew ?_))).ltB).mono ?_
        rintro e w1 ⟨rfl, hb1⟩
        have hs1 := hb1.size
        (try simp at hs1)
        have hy10 : w.heap.size < w1.heap.size := by omega
        have hk10 := fun o => hb1.cell (p := ⟨w.heap.size, o, none⟩) (by first | omega | (simp <;> omega))
        have hg10 := fun o => hb1.frozen (p := ⟨w.heap.size, o, none⟩) (by first | omega | (simp <;> omega))
        rw [HT.out]
        go_wp2
        go_ret
        exact ⟨ret_bool HF.out.symm, (by repeat (first | exact Below.refl _ _ | assumption | (refine bstep ?_ (below_drewN _ _)) | exact bstep (by assumption) (by assumption) | (refine bstep ?_ (below_alloc _ _)) | (refine bstep ?_ (by assumption)) | (refine Below.setCell ?_ (by simp <;> omega) _) | refine Below.drew ?_))⟩
    · have HF : Hid (r.okB = false) := Lib.hid (by rw [HO.out]; rw [decide_eq_false (show ¬ nu = m from fun e => hu (Eq.symm e))]; simp)
      have hne : ¬ ((nu : Int) = m) := by omega
      have hnb : (((nu : Int)) != m) = true := by simp [hne]
      go_enter Try.func95, Try.ntmps95
      go_wp2_with fail
      refine (stopoOk_any A B n c m d r.par r.nodes _ H.out.n H.out.m (H.out.below (by repeat (first | exact Below.refl _ _ | assumption | (refine bstep ?_ (below_drewN _ _)) | exact bstep (by assumption) (by assumption) | (refine bstep ?_ (below_alloc _ _)) | (refine bstep ?_ (by assumption)) | (refine Below.setCell ?_ (by simp <;> omega) _) | refine Below.drew ?_))).par (H.out.below (by repeat (first | exact Below.refl _ _ | assumption | (refine bstep ?_ (below_drewN _ _)) | exact bstep (by assumption) (by assumption) | (refine bstep ?_ (below_alloc _ _)) | (refine bstep ?_ (by assumption)) | (refine Below.setCell ?_ (by simp <;> omega) _) | refine Below.drew ?_))).nodes (H.out.below (by repeat (first | exact Below.refl _ _ | assumption | (refine bstep ?_ (below_drewN _ _)) | exact bstep (by assumption) (by assumption) | (refine bstep ?_ (below_alloc _ _)) | (refine bstep ?_ (by assumption)) | (refine Below.setCell ?_ (by simp <;> omega) _) | refine Below.drew ?_))).ltA (H.out.below (by repeat (first | exact Below.refl _ _ | assumption | (refine bstep ?_ (below_drewN _ _)) | exact bstep (by assumption) (by assumption) | (refine bstep ?_ (below_alloc _ _)) | (refine bstep ?_ (by assumption)) | (refine Below.setCell ?_ (by simp <;> omega) _) | refine Below.drew ?_))).ltB).mono ?_
      rintro e w1 ⟨rfl, hb1⟩
      have hs1 := hb1.size
      (try simp at hs1)
      have hy10 : w.heap.size < w1.heap.size := by omega
      have hk10 := fun o => hb1.cell (p := ⟨w.heap.size, o, none⟩) (by first | omega | (simp <;> omega))
      have hg10 := fun o => hb1.frozen (p := ⟨w.heap.size, o, none⟩) (by first | omega | (simp <;> omega))
      rw [HT.out]
      go_wp2
      go_ret
      exact ⟨ret_bool HF.out.symm, (by repeat (first | exact Below.refl _ _ | assumption | (refine bstep ?_ (below_drewN _ _)) | exact bstep (by assumption) (by assumption) | (refine bstep ?_ (below_alloc _ _)) | (refine bstep ?_ (by assumption)) | (refine Below.setCell ?_ (by simp <;> omega) _) | refine Below.drew ?_))⟩
end Go.Proofs.Ytjnfdcojccgfoaa
