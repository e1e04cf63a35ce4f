/-
  FnReserve: what is reserved and released leaves the room as it was.
-/
import Derived.Test.YtdppjjdhidkjoaaGreatGePc
import Derived.Test.YtdppjjdhidkjoaaGreatLr0Pc
import Derived.Test.YtdppjjdhidkjoaaGreatQfPc
namespace Go.Proofs.YtdppjjdhidkjoaaGreat
set_option linter.unusedSimpArgs false
set_option linter.unusedVariables false
set_option linter.unnecessarySimpa false
open Go.RowKit
theorem same_self9 {ps : List Q} (h : profOkB ps = true) : sameB ps ps = true := by unfold sameB; rw [h, eqL_self]; rfl
theorem res_parts {r s : Rm} {j : J} {t : Int} {nd : List Int} (h : resV r j t nd = some s) : r.okB = true ∧ s.okB = true ∧ 0 ≤ t ∧ t ≤ 1000000000 ∧ 1 ≤ j.wl ∧ j.wl ≤ 1000000 ∧ relV s j t (t + j.wl) nd = some r := by
  have h1 := res_ok h
  have h2 := rel_res h
  unfold resV at h
  split at h
  · rename_i ht
    obtain ⟨a1, a2, a3, _⟩ := moved_some h
    obtain ⟨w1, w2, _⟩ := job_wl a2
    simp only [timeB, inB, Bool.and_eq_true, decide_eq_true_eq] at ht
    exact ⟨a1, h1, ht.1, ht.2, w1, w2, h2⟩
  · cases h
theorem ok_prof {r : Rm} (h : r.okB = true) {k : Nat} {p : List Q} (hp : r.profs[k]? = some p) : profOkB p = true := (room_parts h).2.2.2.1 p (List.mem_of_getElem? hp)
theorem ok_lics {r : Rm} (h : r.okB = true) : profOkB r.lics = true := (room_parts h).2.2.2.2

set_option maxHeartbeats 16000000 in
set_option maxRecDepth 20000 in
theorem law_freserve_go (A0 : Option Addr) (n0 c0 : Nat) (w : World) (hn : n0 ≤ 1048576) (h : ByIn w A0 n0) :
    Calls Tryz.prog 5 #[.slice A0 n0 c0] w fun e w' => e = .returned (.bool true) ∧ Below w.heap.size w w' := by
  have HB := Lib.hid h
  have HN := Lib.hid hn
  have hn' : ¬ (1048576 : Int) < n0 := by omega
  clear h hn
  go_enter Tryz.func5, Tryz.ntmps5
  go_wp2_with fail
  refine (drawReserve_any A0 n0 c0 _ HN.out HB.out).mono ?_
  rintro e w1 ⟨a, j, at_, D, e9, nd, rfl, hnd, ⟨r, -, xs, oa⟩, od, hb1⟩
  obtain ⟨A, B, U, R, L, n, m, nu, np, nl, c, d, cu, cp, cl⟩ := a
  dsimp only [RA.v]
  have OR1 := Lib.hid oa
  have OD1 := Lib.hid od
  have RD1 := Lib.hid (own_rdd' od)
  have HL1 := Lib.hid (own_blk od)
  have hnd9 : nd.length ≤ 1048576 := by omega
  have hs1 := hb1.size
  (try simp at hs1)
  obtain ⟨RES, hRES⟩ : ∃ y, resV r j at_ nd = y := ⟨_, rfl⟩
  obtain ⟨EB, hEB⟩ : ∃ y, y = RES.isSome := ⟨_, rfl⟩
  have HRES := Lib.hid hRES
  have HEB := Lib.hid hEB
  clear oa od hRES hEB
  go_wp2_with fail
  refine (Reserve_any ⟨A, B, U, R, L, n, m, nu, np, nl, c, d, cu, cp, cl⟩ r xs _ j D nd.length e9 nd _ (OR1.out.bel (by repeat (first | exact Below.refl _ _ | assumption | (refine bstep ?_ (below_drewN _ _)) | exact bstep (by assumption) (by assumption) | (refine bstep ?_ (below_alloc _ _)) | (refine bstep ?_ (by assumption)) | (refine Below.setCell ?_ (by simp <;> omega) _) | refine Below.drew ?_ | (refine Below.trans ?_ (by assumption))))) hnd9 (own_cap9 OD1.out).1 (own_cap9 OD1.out).2 (RD1.out.below HL1.out (by repeat (first | exact Below.refl _ _ | assumption | (refine bstep ?_ (below_drewN _ _)) | exact bstep (by assumption) (by assumption) | (refine bstep ?_ (below_alloc _ _)) | (refine bstep ?_ (by assumption)) | (refine Below.setCell ?_ (by simp <;> omega) _) | refine Below.drew ?_ | (refine Below.trans ?_ (by assumption))))) (lt_below HL1.out (by repeat (first | exact Below.refl _ _ | assumption | (refine bstep ?_ (below_drewN _ _)) | exact bstep (by assumption) (by assumption) | (refine bstep ?_ (below_alloc _ _)) | (refine bstep ?_ (by assumption)) | (refine Below.setCell ?_ (by simp <;> omega) _) | refine Below.drew ?_ | (refine Below.trans ?_ (by assumption))))) at_).mono ?_
  rintro e w2 ⟨a2, rfl, ⟨xs2, ro2⟩, hb2⟩
  have hs2 := hb2.size
  (try simp at hs2)
  have hy2_0 : w1.heap.size < w2.heap.size := by omega
  have hk2_0 := fun o => hb2.cell (p := ⟨w1.heap.size, o, none⟩) (by first | omega | (simp <;> omega))
  have hg2_0 := fun o => hb2.frozen (p := ⟨w1.heap.size, o, none⟩) (by first | omega | (simp <;> omega))
  have hy2_1 : w1.heap.size + 1 < w2.heap.size := by omega
  have hk2_1 := fun o => hb2.cell (p := ⟨w1.heap.size + 1, o, none⟩) (by first | omega | (simp <;> omega))
  have hg2_1 := fun o => hb2.frozen (p := ⟨w1.heap.size + 1, o, none⟩) (by first | omega | (simp <;> omega))
  rw [HRES.out] at ro2
  rw [HRES.out]
  try rw [← HEB.out]
  obtain ⟨A2, B2, U2, R2, L2, n2, m2, nu2, np2, nl2, c2, d2, cu2, cp2, cl2⟩ := a2
  dsimp only [RA.v]
  have OR2 := Lib.hid ro2
  clear ro2
  go_wp2_with fail
  refine (sReserve_any ⟨A, B, U, R, L, n, m, nu, np, nl, c, d, cu, cp, cl⟩ r xs _ j D nd.length e9 nd _ (OR1.out.bel (by repeat (first | exact Below.refl _ _ | assumption | (refine bstep ?_ (below_drewN _ _)) | exact bstep (by assumption) (by assumption) | (refine bstep ?_ (below_alloc _ _)) | (refine bstep ?_ (by assumption)) | (refine Below.setCell ?_ (by simp <;> omega) _) | refine Below.drew ?_ | (refine Below.trans ?_ (by assumption))))) hnd9 (own_cap9 OD1.out).1 (own_cap9 OD1.out).2 (RD1.out.below HL1.out (by repeat (first | exact Below.refl _ _ | assumption | (refine bstep ?_ (below_drewN _ _)) | exact bstep (by assumption) (by assumption) | (refine bstep ?_ (below_alloc _ _)) | (refine bstep ?_ (by assumption)) | (refine Below.setCell ?_ (by simp <;> omega) _) | refine Below.drew ?_ | (refine Below.trans ?_ (by assumption))))) (lt_below HL1.out (by repeat (first | exact Below.refl _ _ | assumption | (refine bstep ?_ (below_drewN _ _)) | exact bstep (by assumption) (by assumption) | (refine bstep ?_ (below_alloc _ _)) | (refine bstep ?_ (by assumption)) | (refine Below.setCell ?_ (by simp <;> omega) _) | refine Below.drew ?_ | (refine Below.trans ?_ (by assumption))))) at_).mono ?_
  rintro e w3 ⟨a3, rfl, ⟨xs3, ro3⟩, hb3⟩
  have hs3 := hb3.size
  (try simp at hs3)
  have hy3_0 : w1.heap.size < w3.heap.size := by omega
  have hk3_0 := fun o => hb3.cell (p := ⟨w1.heap.size, o, none⟩) (by first | omega | (simp <;> omega))
  have hg3_0 := fun o => hb3.frozen (p := ⟨w1.heap.size, o, none⟩) (by first | omega | (simp <;> omega))
  have hy3_1 : w1.heap.size + 1 < w3.heap.size := by omega
  have hk3_1 := fun o => hb3.cell (p := ⟨w1.heap.size + 1, o, none⟩) (by first | omega | (simp <;> omega))
  have hg3_1 := fun o => hb3.frozen (p := ⟨w1.heap.size + 1, o, none⟩) (by first | omega | (simp <;> omega))
  have hy3_2 : w2.heap.size < w3.heap.size := by omega
  have hk3_2 := fun o => hb3.cell (p := ⟨w2.heap.size, o, none⟩) (by first | omega | (simp <;> omega))
  have hg3_2 := fun o => hb3.frozen (p := ⟨w2.heap.size, o, none⟩) (by first | omega | (simp <;> omega))
  rw [HRES.out] at ro3
  rw [HRES.out]
  try rw [← HEB.out]
  obtain ⟨A3, B3, U3, R3, L3, n3, m3, nu3, np3, nl3, c3, d3, cu3, cp3, cl3⟩ := a3
  dsimp only [RA.v]
  have OR3 := Lib.hid ro3
  clear ro3
  cases RES with
  | none =>
    have hE : EB = false := HEB.out
    subst hE
    have h0 : np2 = 0 := by have h1 := OR2.out.profs.len; dsimp only at h1; exact h1.symm
    subst h0
    go_wp2
    go_ret
    exact ⟨rfl, (by repeat (first | exact Below.refl _ _ | assumption | (refine bstep ?_ (below_drewN _ _)) | exact bstep (by assumption) (by assumption) | (refine bstep ?_ (below_alloc _ _)) | (refine bstep ?_ (by assumption)) | (refine Below.setCell ?_ (by simp <;> omega) _) | refine Below.drew ?_ | (refine Below.trans ?_ (by assumption))))⟩
  | some s9 =>
    have hE : EB = true := HEB.out
    subst hE
    obtain ⟨rok, sok, t0, t1, l0, l1, hrel⟩ := res_parts HRES.out
    have HREL := Lib.hid hrel
    have hwr : -9223372036854775808 ≤ at_ + j.wl ∧ at_ + j.wl ≤ 9223372036854775807 := by omega
    clear hrel
    go_wp2_with fail
    refine (Release_any ⟨A2, B2, U2, R2, L2, n2, m2, nu2, np2, nl2, c2, d2, cu2, cp2, cl2⟩ s9 xs2 _ j D nd.length e9 nd _ (OR2.out.bel (by repeat (first | exact Below.refl _ _ | assumption | (refine bstep ?_ (below_drewN _ _)) | exact bstep (by assumption) (by assumption) | (refine bstep ?_ (below_alloc _ _)) | (refine bstep ?_ (by assumption)) | (refine Below.setCell ?_ (by simp <;> omega) _) | refine Below.drew ?_ | (refine Below.trans ?_ (by assumption))))) hnd9 (own_cap9 OD1.out).1 (own_cap9 OD1.out).2 (RD1.out.below HL1.out (by repeat (first | exact Below.refl _ _ | assumption | (refine bstep ?_ (below_drewN _ _)) | exact bstep (by assumption) (by assumption) | (refine bstep ?_ (below_alloc _ _)) | (refine bstep ?_ (by assumption)) | (refine Below.setCell ?_ (by simp <;> omega) _) | refine Below.drew ?_ | (refine Below.trans ?_ (by assumption))))) (lt_below HL1.out (by repeat (first | exact Below.refl _ _ | assumption | (refine bstep ?_ (below_drewN _ _)) | exact bstep (by assumption) (by assumption) | (refine bstep ?_ (below_alloc _ _)) | (refine bstep ?_ (by assumption)) | (refine Below.setCell ?_ (by simp <;> omega) _) | refine Below.drew ?_ | (refine Below.trans ?_ (by assumption))))) at_ (at_ + j.wl)).mono ?_
    rintro e w4 ⟨a4, rfl, ⟨xs4, ro4⟩, hb4⟩
    have hs4 := hb4.size
    (try simp at hs4)
    have hy4_0 : w1.heap.size < w4.heap.size := by omega
    have hk4_0 := fun o => hb4.cell (p := ⟨w1.heap.size, o, none⟩) (by first | omega | (simp <;> omega))
    have hg4_0 := fun o => hb4.frozen (p := ⟨w1.heap.size, o, none⟩) (by first | omega | (simp <;> omega))
    have hy4_1 : w1.heap.size + 1 < w4.heap.size := by omega
    have hk4_1 := fun o => hb4.cell (p := ⟨w1.heap.size + 1, o, none⟩) (by first | omega | (simp <;> omega))
    have hg4_1 := fun o => hb4.frozen (p := ⟨w1.heap.size + 1, o, none⟩) (by first | omega | (simp <;> omega))
    have hy4_2 : w2.heap.size < w4.heap.size := by omega
    have hk4_2 := fun o => hb4.cell (p := ⟨w2.heap.size, o, none⟩) (by first | omega | (simp <;> omega))
    have hg4_2 := fun o => hb4.frozen (p := ⟨w2.heap.size, o, none⟩) (by first | omega | (simp <;> omega))
    rw [HREL.out] at ro4
    rw [HREL.out]
    obtain ⟨A4, B4, U4, R4, L4, n4, m4, nu4, np4, nl4, c4, d4, cu4, cp4, cl4⟩ := a4
    dsimp only [RA.v]
    have OR4 := Lib.hid ro4
    clear ro4
    have O1w4 := Lib.hid (OR1.out.bel (w' := w4) (by repeat (first | exact Below.refl _ _ | assumption | (refine bstep ?_ (below_drewN _ _)) | exact bstep (by assumption) (by assumption) | (refine bstep ?_ (below_alloc _ _)) | (refine bstep ?_ (by assumption)) | (refine Below.setCell ?_ (by simp <;> omega) _) | refine Below.drew ?_ | (refine Below.trans ?_ (by assumption)))))
    go_wp2_with fail
    refine (sameProf_any L4 L nl4 cl4 nl cl r.lics r.lics _ OR4.out.nl OR1.out.nl (OR4.out.bel (below_alloc _ _)).rd.lics (O1w4.out.bel (below_alloc _ _)).rd.lics (OR4.out.bel (below_alloc _ _)).rd.ltL (O1w4.out.bel (below_alloc _ _)).rd.ltL).mono ?_
    rintro e w5 ⟨rfl, hb5⟩
    have hs5 := hb5.size
    (try simp at hs5)
    have hy5_0 : w1.heap.size < w5.heap.size := by omega
    have hk5_0 := fun o => hb5.cell (p := ⟨w1.heap.size, o, none⟩) (by first | omega | (simp <;> omega))
    have hg5_0 := fun o => hb5.frozen (p := ⟨w1.heap.size, o, none⟩) (by first | omega | (simp <;> omega))
    have hy5_1 : w1.heap.size + 1 < w5.heap.size := by omega
    have hk5_1 := fun o => hb5.cell (p := ⟨w1.heap.size + 1, o, none⟩) (by first | omega | (simp <;> omega))
    have hg5_1 := fun o => hb5.frozen (p := ⟨w1.heap.size + 1, o, none⟩) (by first | omega | (simp <;> omega))
    have hy5_2 : w2.heap.size < w5.heap.size := by omega
    have hk5_2 := fun o => hb5.cell (p := ⟨w2.heap.size, o, none⟩) (by first | omega | (simp <;> omega))
    have hg5_2 := fun o => hb5.frozen (p := ⟨w2.heap.size, o, none⟩) (by first | omega | (simp <;> omega))
    have hy5_3 : w4.heap.size < w5.heap.size := by omega
    have hk5_3 := fun o => hb5.cell (p := ⟨w4.heap.size, o, none⟩) (by first | omega | (simp <;> omega))
    have hg5_3 := fun o => hb5.frozen (p := ⟨w4.heap.size, o, none⟩) (by first | omega | (simp <;> omega))
    rw [same_self9 (ok_lics rok)]
    have q3 : w5.cell? ⟨w1.heap.size, 3, none⟩ = some (.slice R np cp) := by simp [go_sem, *]
    have q11 : w5.cell? ⟨w4.heap.size, 3, none⟩ = some (.slice R4 np4 cp4) := by simp [go_sem, *]
    have q70 : w5.cell? ⟨w2.heap.size, 0, none⟩ = some (.slice A2 n2 c2) := by simp [go_sem, *]
    have q71 : w5.cell? ⟨w2.heap.size, 1, none⟩ = some (.slice B2 m2 d2) := by simp [go_sem, *]
    have q72 : w5.cell? ⟨w2.heap.size, 2, none⟩ = some (.slice U2 nu2 cu2) := by simp [go_sem, *]
    have q73 : w5.cell? ⟨w2.heap.size, 3, none⟩ = some (.slice R2 np2 cp2) := by simp [go_sem, *]
    have q74 : w5.cell? ⟨w2.heap.size, 4, none⟩ = some (.slice L2 nl2 cl2) := by simp [go_sem, *]
    have g3 : w1.heap.size < w5.heap.size := by omega
    have g7 : w2.heap.size < w5.heap.size := by omega
    have g11 : w4.heap.size < w5.heap.size := by omega
    have O1 := Lib.hid (OR1.out.bel (w' := w5) (by repeat (first | exact Below.refl _ _ | assumption | (refine bstep ?_ (below_drewN _ _)) | exact bstep (by assumption) (by assumption) | (refine bstep ?_ (below_alloc _ _)) | (refine bstep ?_ (by assumption)) | (refine Below.setCell ?_ (by simp <;> omega) _) | refine Below.drew ?_ | (refine Below.trans ?_ (by assumption)))))
    have O2 := Lib.hid (OR2.out.bel (w' := w5) (by repeat (first | exact Below.refl _ _ | assumption | (refine bstep ?_ (below_drewN _ _)) | exact bstep (by assumption) (by assumption) | (refine bstep ?_ (below_alloc _ _)) | (refine bstep ?_ (by assumption)) | (refine Below.setCell ?_ (by simp <;> omega) _) | refine Below.drew ?_ | (refine Below.trans ?_ (by assumption)))))
    have O4 := Lib.hid (OR4.out.bel (w' := w5) (by repeat (first | exact Below.refl _ _ | assumption | (refine bstep ?_ (below_drewN _ _)) | exact bstep (by assumption) (by assumption) | (refine bstep ?_ (below_alloc _ _)) | (refine bstep ?_ (by assumption)) | (refine Below.setCell ?_ (by simp <;> omega) _) | refine Below.drew ?_ | (refine Below.trans ?_ (by assumption)))))
    have B5 := Lib.hid (show Below w.heap.size w w5 from (by repeat (first | exact Below.refl _ _ | assumption | (refine bstep ?_ (below_drewN _ _)) | exact bstep (by assumption) (by assumption) | (refine bstep ?_ (below_alloc _ _)) | (refine bstep ?_ (by assumption)) | (refine Below.setCell ?_ (by simp <;> omega) _) | refine Below.drew ?_ | (refine Below.trans ?_ (by assumption)))))
    have hnp9 : np ≤ 1048576 := O1.out.np
    have hnpe : r.profs.length = np := O1.out.profs.len
    have hnpe4 : r.profs.length = np4 := O4.out.profs.len
    have HPL := Lib.hid hnpe
    obtain ⟨x3, hx3⟩ : ∃ y, y = w1.heap.size := ⟨_, rfl⟩
    obtain ⟨x7, hx7⟩ : ∃ y, y = w2.heap.size := ⟨_, rfl⟩
    obtain ⟨x11, hx11⟩ : ∃ y, y = w4.heap.size := ⟨_, rfl⟩
    go_upto_region 13 with fail
    rw [← hx3] at q3 g3 ⊢
    rw [← hx7] at q70 q71 q72 q73 q74 g7 ⊢
    rw [← hx11] at q11 g11 ⊢
    clear hx3 hx7 hx11 OR1 OR2 OR4 OR3 OD1 RD1 HL1 hb1 hb2 hb3 hb4 hb5 hs1 hs2 hs3 hs4 hs5
    clear hy2_0 hk2_0 hg2_0 hy2_1 hk2_1 hg2_1 hy3_0 hk3_0 hg3_0 hy3_1 hk3_1 hg3_1 hy3_2 hk3_2 hg3_2 hy4_0 hk4_0 hg4_0 hy4_1 hk4_1 hg4_1 hy4_2 hk4_2 hg4_2 hy5_0 hk5_0 hg5_0 hy5_1 hk5_1 hg5_1 hy5_2 hk5_2 hg5_2 hy5_3 hk5_3 hg5_3
    go_wp2
    go_loopw [74] (fun i wr => ∃ k : Nat, k ≤ np ∧ i = .int .i64 k ∧ Below w5.heap.size w5 wr) (fun i _ => np - (intOf i).toNat)
    case atStart => exact ⟨0, Nat.zero_le _, rfl, Below.refl _ _⟩
    case round =>
      obtain ⟨k, hk, rfl, hbw⟩ := hrel
      have r3 := (hbw.cell (p := ⟨x3, 3, none⟩) g3).trans q3
      have r11 := (hbw.cell (p := ⟨x11, 3, none⟩) g11).trans q11
      have gr3 : x3 < wr.heap.size := Nat.lt_of_lt_of_le g3 hbw.size
      have gr11 : x11 < wr.heap.size := Nat.lt_of_lt_of_le g11 hbw.size
      have HBW := Lib.hid hbw
      by_cases hlt : k < np
      · have hlt' : (k : Int) < np := by omega
        have hlt4 : k < np4 := by omega
        have hlt4' : (k : Int) < np4 := by omega
        have OA := Lib.hid (O1.out.bel hbw)
        have OB := Lib.hid (O4.out.bel hbw)
        obtain ⟨p, hp⟩ : ∃ p, r.profs[k]? = some p := ⟨_, List.getElem?_eq_getElem (by omega)⟩
        obtain ⟨gA, u, rfl, hu, cu9⟩ := (own_rdd' OA.out.profs.own).at_ hlt
        obtain ⟨gB, v, rfl, hv, cv9⟩ := (own_rdd' OB.out.profs.own).at_ hlt4
        obtain ⟨hpl, hpo⟩ := OA.out.profs.each k u p hu hp
        obtain ⟨-, hqo⟩ := OB.out.profs.each k v p hv hp
        obtain ⟨X9, c9, rfl, hrd9⟩ := own_rd hpo
        obtain ⟨Y9, d9, rfl, hrd8⟩ := own_rd hqo
        have HX := Lib.hid hrd9
        have HY := Lib.hid hrd8
        have LX := Lib.hid (own_blk hpo)
        have LY := Lib.hid (own_blk hqo)
        have hok := ok_prof rok hp
        have gA9 := own_lt OA.out.profs.own gA rfl
        have gB9 := own_lt OB.out.profs.own gB rfl
        clear hu hv hp hpo hqo hrd9 hrd8 hbw q3 q11 q70 q71 q72 q73 q74 O1 O2 O4 OA OB
        go_wp2_with fail
        go_region_held3 (fun w' => w'.cell? ⟨x11, 3, none⟩ = some (.slice (some ⟨gB, 0, none⟩) np4 cp4) ∧ w'.cell? ⟨x3, 3, none⟩ = some (.slice (some ⟨gA, 0, none⟩) np cp) ∧ w'.cell? ⟨gB, k, none⟩ = some (.slice Y9 p.length d9) ∧ w'.cell? ⟨gA, k, none⟩ = some (.slice X9 p.length c9)) (simp [go_sem, *, World.cell?_alloc_some, World.cell?_setCell_far, Nat.lt_add_right, Nat.ne_of_gt]) (first | (go_at_call 34; refine (sameProf_any Y9 X9 p.length d9 p.length c9 p p _ hpl hpl (HY.out.below LY.out ((Below.refl _ wr).drew)) (HX.out.below LX.out ((Below.refl _ wr).drew)) (lt_below LY.out ((Below.refl _ wr).drew)) (lt_below LX.out ((Below.refl _ wr).drew))).mono ?_; rintro e w9 ⟨rfl, hb9⟩; rw [same_self9 hok]; have hs9 := hb9.size; (try simp at hs9); have hk91 := hb9.cell (p := ⟨x11, 3, none⟩) (by first | omega | (simp <;> omega)); have hk92 := hb9.cell (p := ⟨x3, 3, none⟩) (by first | omega | (simp <;> omega)); have hk93 := hb9.cell (p := ⟨gB, k, none⟩) (by first | omega | (simp <;> omega)); have hk94 := hb9.cell (p := ⟨gA, k, none⟩) (by first | omega | (simp <;> omega))))
        have B9 := Lib.hid (bstep (bstep HBW.out ((Below.refl _ wr).drew)) hb9)
        clear hb9 hk91 hk92 hk93 hk94 hs9
        go_wp2
        exact ⟨⟨k + 1, by omega, by go_num, B9.out⟩, by simp [intOf]; omega⟩
      · have hlt' : ¬ (k : Int) < np := by omega
        have p70 := (hbw.cell (p := ⟨x7, 0, none⟩) g7).trans q70
        have p71 := (hbw.cell (p := ⟨x7, 1, none⟩) g7).trans q71
        have p72 := (hbw.cell (p := ⟨x7, 2, none⟩) g7).trans q72
        have p73 := (hbw.cell (p := ⟨x7, 3, none⟩) g7).trans q73
        have p74 := (hbw.cell (p := ⟨x7, 4, none⟩) g7).trans q74
        have O9 := Lib.hid (O2.out.bel hbw)
        have gr7 : x7 < wr.heap.size := Nat.lt_of_lt_of_le g7 hbw.size
        clear hbw q3 q11 q70 q71 q72 q73 q74 O1 O2 O4
        go_wp2_with fail
        refine (roomOk_any ⟨A2, B2, U2, R2, L2, n2, m2, nu2, np2, nl2, c2, d2, cu2, cp2, cl2⟩ s9 _ O9.out.rd).mono ?_
        rintro e w9 ⟨rfl, hb9⟩
        rw [sok]
        have B9 := Lib.hid (bstep (bstep B5.out HBW.out) hb9)
        clear hb9
        go_wp2
        go_ret
        exact ⟨rfl, B9.out⟩
theorem law_freserve (A : Option Addr) (n c : Nat) (w : World) (hn : n ≤ maxLen) (h : ByIn w A n) :
    Calls Tryz.prog 5 #[.slice A n c] w fun e w' => e = .returned (.bool true) ∧ Below w.heap.size w w' := by
  by_cases hs : n ≤ 1048576
  · exact law_freserve_go A n c w hs h
  · have hs' : (1048576 : Int) < n := by omega
    unfold maxLen at hn
    go_enter Tryz.func5, Tryz.ntmps5
    go_wp2
    go_ret
    exact ⟨rfl, Below.refl _ _⟩
end Go.Proofs.YtdppjjdhidkjoaaGreat
