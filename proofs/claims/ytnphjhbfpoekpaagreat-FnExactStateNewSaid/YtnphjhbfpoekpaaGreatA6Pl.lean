import Derived.Test.YtnphjhbfpoekpaaGreatA5Pl
import Derived.Test.YtnphjhbfpoekpaaGreatA3Pl
namespace Go.Proofs.YtnphjhbfpoekpaaGreat
set_option linter.unusedSimpArgs false
set_option linter.unusedVariables false
set_option linter.unnecessarySimpa false
open Go.RowKit
theorem topoOk_any (A B : Option Addr) (n c m d : Nat) (ps : List Int) (ns : List Q) (w : World) (hn : n ≤ 1048576) (hm : m ≤ 1048576) (hr : Rd w A n 1 (ints ps)) (hq : Rd w B m 4 (flat ns)) (hl : ∀ g, A = some ⟨g, 0, none⟩ → g < w.heap.size) (hl2 : ∀ g, B = some ⟨g, 0, none⟩ → g < w.heap.size) :
  Calls Tryz.prog 100 #[.agg #[.slice A n c, .slice B m d]] w fun e w' => e = .returned (.bool (topoOkB ps ns)) ∧ Below w.heap.size w w' := by
 by_cases hb : ¬ (1 ≤ n ∧ n ≤ 24) ∨ ps.getD 0 0 ≠ 0 ∨ ¬ m ≤ 24
 ·exact topoOk_head A B n c m d ps ns w hn hm hr hq hl hl2 hb
 ·exact topoOk_main A B n c m d ps ns w hn hm hr hq hl hl2 (by omega) (by omega) (by omega) (by omega)
set_option maxHeartbeats 4000000 in
theorem stopoOk_head (A B : Option Addr) (n c m d : Nat) (ps : List Int) (ns : List Q) (w : World) (hn : n ≤ 1048576) (hm : m ≤ 1048576) (hr : Rd w A n 1 (ints ps)) (hq : Rd w B m 4 (flat ns)) (hl : ∀ g, A = some ⟨g, 0, none⟩ → g < w.heap.size) (hl2 : ∀ g, B = some ⟨g, 0, none⟩ → g < w.heap.size) (hb : ¬ (1 ≤ n ∧ n ≤ 24) ∨ ps.getD 0 0 ≠ 0 ∨ ¬ m ≤ 24) :
  Calls Tryz.prog 144 #[.agg #[.slice A n c, .slice B m d]] w fun e w' => e = .returned (.bool (topoOkB ps ns)) ∧ Below w.heap.size w w' := by
 have hpl := hr.ilen
 have hql : ns.length = m := by have := hq.1; rw [flat_len] at this; omega
 have hm1 : n ≤ 9223372036854775807 := by omega
 have hm2 : m ≤ 9223372036854775807 := by omega
 have HN := Lib.hid hn
 have HM := Lib.hid hm
 have HR := Lib.hid hr
 have HQ := Lib.hid hq
 have HP := Lib.hid hpl
 have HQL := Lib.hid hql
 have HL := Lib.hid hl
 have HL2 := Lib.hid hl2
 clear hn hm hr hq hpl hql hl hl2
 by_cases h1 : n < 1
 ·have hF := topo_len (ns := ns) HP.out (show ¬ (1 ≤ n ∧ n ≤ 24) by omega)
  have HF := Lib.hid hF
  have a1 : (n : Int) < 1 := by omega
  clear hF hb
  go_enter Tryz.func144, Tryz.ntmps144
  go_wp2
  go_ret
  exact ⟨zAj HF.out.symm, zAa _ _⟩
 ·have a1 : ¬ ((n : Int) < 1) := by omega
  by_cases h2 : 24 < n
  ·have hF := topo_len (ns := ns) HP.out (show ¬ (1 ≤ n ∧ n ≤ 24) by omega)
   have HF := Lib.hid hF
   have a2 : (24 : Int) < n := by omega
   clear hF hb
   go_enter Tryz.func144, Tryz.ntmps144
   go_wp2
   go_ret
   exact ⟨zAj HF.out.symm, zAa _ _⟩
  ·have a2 : ¬ ((24 : Int) < n) := by omega
   by_cases h3 : 24 < m
   ·have hF := topo_nodes (ps := ps) HQL.out (show ¬ m ≤ 24 by omega)
    have HF := Lib.hid hF
    have a3 : (24 : Int) < m := by omega
    clear hF hb
    go_enter Tryz.func144, Tryz.ntmps144
    go_wp2
    go_ret
    exact ⟨zAj HF.out.symm, zAa _ _⟩
   ·have a3 : ¬ ((24 : Int) < m) := by omega
    obtain ⟨g, z, rfl, hz, c0⟩ := HR.out.int (show 0 < n by omega)
    have hg := HL.out g rfl
    have hni : (0 : Int) < (n : Int) := by omega
    have hz0 : z ≠ 0 := by
     have := getD_of hz
     rcases hb with h | h | h
     ·omega
     ·rw [this] at h; exact h
     ·omega
    have hz' : (z != 0) = true := by simp [hz0]
    have hz2 : (z == 0) = false := by simp [hz0]
    have hF := topo_root (ns := ns) (show ps.getD 0 0 ≠ 0 by rw [getD_of hz]; exact hz0)
    have HF := Lib.hid hF
    clear hz0 hz
    clear hF hb
    go_enter Tryz.func144, Tryz.ntmps144
    go_wp2
    go_ret
    exact ⟨zAj HF.out.symm, zAa _ _⟩
set_option maxHeartbeats 8000000 in
theorem stopoOk_main (A B : Option Addr) (n c m d : Nat) (ps : List Int) (ns : List Q) (w : World) (hn : n ≤ 1048576) (hm : m ≤ 1048576) (hr : Rd w A n 1 (ints ps)) (hq : Rd w B m 4 (flat ns)) (hl : ∀ g, A = some ⟨g, 0, none⟩ → g < w.heap.size) (hl2 : ∀ g, B = some ⟨g, 0, none⟩ → g < w.heap.size) (h1 : 1 ≤ n) (h24 : n ≤ 24) (h0 : ps.getD 0 0 = 0) (hm24 : m ≤ 24) :
  Calls Tryz.prog 144 #[.agg #[.slice A n c, .slice B m d]] w fun e w' => e = .returned (.bool (topoOkB ps ns)) ∧ Below w.heap.size w w' := by
 have hpl := hr.ilen
 have hql : ns.length = m := by have := hq.1; rw [flat_len] at this; omega
 have hm1 : n ≤ 9223372036854775807 := by omega
 have hm2 : m ≤ 9223372036854775807 := by omega
 have HN := Lib.hid hn
 have HM := Lib.hid hm
 have HR := Lib.hid hr
 have HQ := Lib.hid hq
 have HP := Lib.hid hpl
 have HQL := Lib.hid hql
 have HL := Lib.hid hl
 have HL2 := Lib.hid hl2
 clear hn hm hr hq hpl hql hl hl2
 have a1 : ¬ ((n : Int) < 1) := by omega
 have a2 : ¬ ((24 : Int) < n) := by omega
 have a3 : ¬ ((24 : Int) < m) := by omega
 obtain ⟨g, z, rfl, hz, c0⟩ := HR.out.int (show 0 < n by omega)
 have hg := HL.out g rfl
 have hni : (0 : Int) < (n : Int) := by omega
 rw [getD_of hz] at h0
 rw [h0] at c0 hz
 have H0 := Lib.hid (getD_of hz)
 clear h0 hz
 go_enter Tryz.func144, Tryz.ntmps144
 go_wp2_with fail
 have bx0 : (w.alloc (.cells #[.slice (some ⟨g, 0, none⟩) n c, .slice B m d] 26)).cell? ⟨w.heap.size, 0, none⟩ = some (.slice (some ⟨g, 0, none⟩) n c) := by simp [go_sem]
 have bx1 : (w.alloc (.cells #[.slice (some ⟨g, 0, none⟩) n c, .slice B m d] 26)).cell? ⟨w.heap.size, 1, none⟩ = some (.slice B m d) := by simp [go_sem]
 have BA : Below w.heap.size w (w.alloc (.cells #[.slice (some ⟨g, 0, none⟩) n c, .slice B m d] 26)) := zAa _ _
 have hsz : w.heap.size < (w.alloc (.cells #[.slice (some ⟨g, 0, none⟩) n c, .slice B m d] 26)).heap.size := by simp
 generalize w.alloc (.cells #[.slice (some ⟨g, 0, none⟩) n c, .slice B m d] 26) = w1 at *
 have HBA := Lib.hid BA
 clear BA
 go_loop [3] (fun i => ∃ k : Nat, 1 ≤ k ∧ k ≤ n ∧ i = .int .i64 k ∧ ∀ j, 1 ≤ j → j < k → 0 ≤ ps.getD j 0 ∧ ps.getD j 0 < j) (fun i => n - (intOf i).toNat)
 case atStart => exact ⟨1, Nat.le_refl _, h1, rfl, fun j a b => by omega⟩
 case round =>
  obtain ⟨k, hk1, hk, rfl, hall⟩ := hrel
  have HA := Lib.hid hall
  clear hall
  by_cases hlt : k < n
  ·have hlt' : (k : Int) < n := by omega
   obtain ⟨g', z, hg', hz, d0⟩ := HR.out.int hlt
   simp only [Option.some.injEq, Addr.mk.injEq] at hg'
   obtain ⟨rfl, -⟩ := hg'
   have D0 := (HBA.out.cell (p := ⟨g, k, none⟩) hg).trans d0
   have HZ := Lib.hid (getD_of hz)
   clear hz d0
   by_cases hp0 : z < 0
   ·have HF := Lib.hid (topo_par (ps := ps) (ns := ns) (k := k) (by rw [HP.out]; exact hlt) hk1 (by rw [HZ.out]; omega))
    go_wp2
    go_ret
    exact ⟨zAj HF.out.symm, HBA.out⟩
   ·have hp0' : ¬ (z < 0) := hp0
    by_cases hp1 : (k : Int) ≤ z
    ·have HF := Lib.hid (topo_par (ps := ps) (ns := ns) (k := k) (by rw [HP.out]; exact hlt) hk1 (by rw [HZ.out]; omega))
     go_wp2
     go_ret
     exact ⟨zAj HF.out.symm, HBA.out⟩
    ·have hp1' : ¬ ((k : Int) ≤ z) := hp1
     go_wp2
     go_round
     case rel =>
      refine ⟨k + 1, by omega, by omega, by go_num, fun j a b => ?_⟩
      rcases Nat.lt_or_ge j k with h | h
      ·exact HA.out j a h
      ·have : j = k := by omega
       rw [this, HZ.out]; omega
     case measure => simp [intOf]; omega
  ·have hk9 : k = n := by omega
   subst hk9
   have hpo : parOk ps := fun s a b => HA.out s a (by rw [← HP.out]; exact b)
   have HO := Lib.hid hpo
   clear hpo
   go_wp2_with fail
   go_loopw [54] (fun i wr => ∃ x : Nat, x ≤ m ∧ i = .int .i64 x ∧ Below w1.heap.size w1 wr ∧ ∀ y q, y < x → ns[y]? = some q → nodeOk ps q = true) (fun i _ => m - (intOf i).toNat)
   case atStart => exact ⟨0, Nat.zero_le _, rfl, Below.refl _ _, fun y q hy _ => by omega⟩
   case round =>
    obtain ⟨x, hx, rfl, hb, hall⟩ := hrel
    have HAL := Lib.hid hall
    have HB := Lib.hid hb
    have xb0 := (hb.cell (p := ⟨w.heap.size, 0, none⟩) hsz).trans bx0
    have xb1 := (hb.cell (p := ⟨w.heap.size, 1, none⟩) hsz).trans bx1
    have hszr := Nat.lt_of_lt_of_le hsz hb.size
    clear hall hb
    by_cases hxlt : x < m
    ·have hxlt' : (x : Int) < m := by omega
     obtain ⟨gb, q, rfl, hq, d0, d1, d2, d3⟩ := HQ.out.q hxlt
     have hgb := HL2.out gb rfl
     have BB : Below w.heap.size w wr := zAc HBA.out HB.out
     have D0 := (BB.cell (p := ⟨gb, x * 4, none⟩) hgb).trans d0
     have D1 := (BB.cell (p := ⟨gb, x * 4 + 1, none⟩) hgb).trans d1
     have D2 := (BB.cell (p := ⟨gb, x * 4 + 2, none⟩) hgb).trans d2
     have D3 := (BB.cell (p := ⟨gb, x * 4 + 3, none⟩) hgb).trans d3
     have hmem : q ∈ ns := List.mem_of_getElem? hq
     have HMEM := Lib.hid hmem
     have HBB := Lib.hid BB
     have HGQ := Lib.hid hq
     have RDR := Lib.hid (HR.out.below HL.out BB)
     clear d0 d1 d2 d3 hmem BB hq
     by_cases hr0 : q.t < 0
     ·have HF := Lib.hid (topo_node (ps := ps) HMEM.out (show nodeOk ps q = false by
       unfold nodeOk
       have : ¬ 0 ≤ q.t := by omega
       simp [this]))
      go_wp2
      go_ret
      exact ⟨zAj HF.out.symm, zAc HBB.out (zAa _ _)⟩
     ·have hr0' : ¬ (q.t < 0) := hr0
      by_cases hr1 : (k : Int) ≤ q.t
      ·have HF := Lib.hid (topo_node (ps := ps) HMEM.out (show nodeOk ps q = false by
        unfold nodeOk
        have : ¬ q.t < ps.length := by rw [HP.out]; omega
        simp [this]))
       go_wp2
       go_ret
       exact ⟨zAj HF.out.symm, zAc HBB.out (zAa _ _)⟩
      ·have hr1' : ¬ ((k : Int) ≤ q.t) := hr1
       obtain ⟨qt, qa, qb, qc⟩ := q
       dsimp only at *
       obtain ⟨s, rfl⟩ : ∃ s : Nat, qt = s := ⟨qt.toNat, by omega⟩
       cases hlf : leafI ps (s : Int)
       ·have hkl : (kids ps s).length = (kids ps s).length := rfl
        have hkp : (0 : Int) < ((kids ps s).length : Int) := by
         rw [leafI_eq] at hlf
         unfold leafB at hlf
         cases hh : kids ps s with
         | nil => rw [hh] at hlf; simp at hlf
         | cons a b => simp
        generalize hK : (kids ps s).length = K at *
        have HK := Lib.hid hK
        have HF := Lib.hid (topo_node (ps := ps) HMEM.out (show nodeOk ps _ = false by unfold nodeOk; rw [hlf]; simp))
        have hK9 : K ≤ 9223372036854775807 := by have := kidsN_len ps s k; rw [kidsN_all ps s k HP.out, HK.out] at this; omega
        clear hK hlf
        go_wp2_with (go_at_call 159; refine (kids_any _ _ _ _ _ _ ps s _ HN.out (RDR.out.below (zAi HL.out HBB.out) (zAa _ _)) (zAi (zAi HL.out HBB.out) (zAa _ _))).mono ?_; rintro e w4 ⟨v4, rfl, own4, hb4⟩; obtain ⟨A4, c4, rfl, rd4⟩ := zAt own4; rw [HK.out]; have hs4 := hb4.size; (try simp at hs4); have hk40 := fun o => hb4.cell (p := ⟨wr.heap.size, o, none⟩) (by simp <;> omega); clear rd4 own4)
        go_ret
        exact ⟨zAj HF.out.symm, (by repeat (first | exact Below.refl _ _ | assumption | exact zAc (by assumption) (by assumption) | (refine zAc ?_ (zAa _ _)) | (refine zAc ?_ (by assumption)) | (refine Below.setCell ?_ (by simp <;> omega) _) | refine Below.drew ?_))⟩
       ·have hkl : (kids ps s).length = 0 := by
         rw [leafI_eq] at hlf
         unfold leafB at hlf
         rw [List.isEmpty_iff] at hlf
         rw [hlf]; rfl
        cases hvo : vecOkB qa qb qc
        ·have HF := Lib.hid (topo_node (ps := ps) HMEM.out (show nodeOk ps _ = false by unfold nodeOk; rw [hvo]; simp))
         go_wp2_with (first | (go_at_call 159; refine (kids_any _ _ _ _ _ _ ps s _ HN.out (RDR.out.below (zAi HL.out HBB.out) (zAa _ _)) (zAi (zAi HL.out HBB.out) (zAa _ _))).mono ?_; rintro e w4 ⟨v4, rfl, own4, hb4⟩; obtain ⟨A4, c4, rfl, rd4⟩ := zAt own4; rw [hkl]; have hs4 := hb4.size; (try simp at hs4); have hk40 := fun o => hb4.cell (p := ⟨wr.heap.size, o, none⟩) (by simp <;> omega); clear rd4 own4) | (go_at_call 172; refine (svecOk_raw _ _ _ _).mono ?_; rintro e w5 ⟨rfl, hb5⟩; rw [hvo]))
         go_ret
         exact ⟨zAj HF.out.symm, (by repeat (first | exact Below.refl _ _ | assumption | exact zAc (by assumption) (by assumption) | (refine zAc ?_ (zAa _ _)) | (refine zAc ?_ (by assumption)) | (refine Below.setCell ?_ (by simp <;> omega) _) | refine Below.drew ?_))⟩
        ·have HNO : Hid (nodeOk ps ⟨(s : Int), qa, qb, qc⟩ = true) := by
          refine Lib.hid ?_
          unfold nodeOk
          dsimp only
          rw [hvo, hlf, HP.out]
          simp; omega
         go_wp2_with (first | (go_at_call 159; refine (kids_any _ _ _ _ _ _ ps s _ HN.out (RDR.out.below (zAi HL.out HBB.out) (zAa _ _)) (zAi (zAi HL.out HBB.out) (zAa _ _))).mono ?_; rintro e w4 ⟨v4, rfl, own4, hb4⟩; obtain ⟨A4, c4, rfl, rd4⟩ := zAt own4; rw [hkl]; have hs4 := hb4.size; (try simp at hs4); have hk40 := fun o => hb4.cell (p := ⟨wr.heap.size, o, none⟩) (by simp <;> omega); clear rd4 own4) | (go_at_call 172; refine (svecOk_raw _ _ _ _).mono ?_; rintro e w5 ⟨rfl, hb5⟩; rw [hvo]))
         go_roundw
         case rel =>
          refine ⟨x + 1, by omega, by go_num, (by repeat (first | exact Below.refl _ _ | assumption | exact zAc (by assumption) (by assumption) | (refine zAc ?_ (zAa _ _)) | (refine zAc ?_ (by assumption)) | (refine Below.setCell ?_ (by simp <;> omega) _) | refine Below.drew ?_)), fun y q' hy hq' => ?_⟩
          rcases Nat.lt_or_ge y x with h | h
          ·exact HAL.out y q' h hq'
          ·have : y = x := by omega
           rw [this, HGQ.out] at hq'
           injection hq' with hq'
           rw [← hq']; exact HNO.out
         case measure => simp [intOf]; omega
    ·have hx9 : x = m := by omega
     subst hx9
     have hfin := topo_all HP.out HQL.out h1 h24 H0.out hm24 HO.out (fun k q a b => HAL.out k q a b)
     rw [lev_even HO.out (by rw [HP.out]; exact h1)] at hfin
     have HF := Lib.hid hfin
     have hle := lev_le HO.out (show 0 < ps.length by rw [HP.out]; omega)
     have RDR := Lib.hid (HR.out.below HL.out (zAc HBA.out HB.out))
     clear hfin
     go_wp2_with (go_at_call 85; refine (slevel_any k _ _ _ _ _ _ ps 0 _ (Nat.sub_le _ _) HN.out RDR.out (zAi HL.out (zAc HBA.out HB.out)) HO.out (by omega)).mono ?_; rintro e w6 ⟨rfl, hb6⟩)
     all_goals go_ret
     all_goals exact ⟨zAj (by rw [HF.out]), (by repeat (first | exact Below.refl _ _ | assumption | exact zAc (by assumption) (by assumption) | (refine zAc ?_ (zAa _ _)) | (refine zAc ?_ (by assumption)) | (refine Below.setCell ?_ (by simp <;> omega) _) | refine Below.drew ?_))⟩
theorem stopoOk_any (A B : Option Addr) (n c m d : Nat) (ps : List Int) (ns : List Q) (w : World) (hn : n ≤ 1048576) (hm : m ≤ 1048576) (hr : Rd w A n 1 (ints ps)) (hq : Rd w B m 4 (flat ns)) (hl : ∀ g, A = some ⟨g, 0, none⟩ → g < w.heap.size) (hl2 : ∀ g, B = some ⟨g, 0, none⟩ → g < w.heap.size) :
  Calls Tryz.prog 144 #[.agg #[.slice A n c, .slice B m d]] w fun e w' => e = .returned (.bool (topoOkB ps ns)) ∧ Below w.heap.size w w' := by
 by_cases hb : ¬ (1 ≤ n ∧ n ≤ 24) ∨ ps.getD 0 0 ≠ 0 ∨ ¬ m ≤ 24
 ·exact stopoOk_head A B n c m d ps ns w hn hm hr hq hl hl2 hb
 ·exact stopoOk_main A B n c m d ps ns w hn hm hr hq hl hl2 (by omega) (by omega) (by omega) (by omega)
def RdI (w : World) (A : Option Addr) (n : Nat) (zs : List Int) : Prop :=
 zs.length = n ∧ (0 < n → ∃ b off, A = some ⟨b, off, none⟩ ∧ b < w.heap.size ∧ ∀ (k : Nat) z, zs[k]? = some z → w.cell? ⟨b, off + k, none⟩ = some (.int .i64 z))
theorem RdI.below {w w' : World} {A : Option Addr} {n : Nat} {zs : List Int} (h : RdI w A n zs) (hb : Below w.heap.size w w') : RdI w' A n zs :=
 ⟨h.1, fun hn => by
  obtain ⟨b, off, rfl, hl, hc⟩ := h.2 hn
  exact ⟨b, off, rfl, Nat.lt_of_lt_of_le hl hb.size, fun k z hz => (hb.cell (p := ⟨b, _, none⟩) hl).trans (hc k z hz)⟩⟩
def isOf (n : Nat) (z : Nat → Nat → Int) : List Int := (List.range n).map fun i => z i 0
theorem rdI_of {w : World} {A : Option Addr} {n : Nat} {z : Nat → Nat → Int} (h : 0 < n → ∃ b off, A = some ⟨b, off, none⟩ ∧ b < w.heap.size ∧
   ∀ i j, i < n → j < 1 → w.cell? ⟨b, off + i * 1 + j, none⟩ = some (.int .i64 (z i j))) : RdI w A n (isOf n z) := by
 refine ⟨by simp [isOf], fun hn => ?_⟩
 obtain ⟨b, off, rfl, hb, hc⟩ := h hn
 refine ⟨b, off, rfl, hb, fun k q hq => ?_⟩
 have hk : k < n := by
  have := (List.getElem?_eq_some_iff.1 hq).1
  simpa [isOf] using this
 unfold isOf at hq
 rw [List.getElem?_map, List.getElem?_range hk] at hq
 simp only [Option.map_some, Option.some.injEq] at hq
 subst hq
 have := hc k 0 hk (by omega)
 simpa using this
set_option maxHeartbeats 4000000 in
theorem toIntS_any (A : Option Addr) (n c : Nat) (zs : List Int) (w : World) (hn : n ≤ 1048576) (hr : RdI w A n zs) :
  Calls Tryz.prog 118 #[.slice A n c] w fun e w' => ∃ v, e = .returned v ∧ w'.ownsRow w.heap.size 3 1 v n (ints zs) ∧ Below w.heap.size w w' := by
 obtain ⟨i0, hi, hz0, hz1, hz2⟩ := info_parts infoI
 have hm : n ≤ 9223372036854775807 := by omega
 have HN := Lib.hid hn
 have HR := Lib.hid hr
 clear hn hr
 go_enter Tryz.func118, Tryz.ntmps118
 go_wp2_with (at_make; refine wpList_make_full _ rfl _ _ 23 rfl w.heap.size 3 i0 (.int .i64 0) 1 Tryz.underlying23 hi hz0 hz1 .i64 .i64 _ _ n rfl rfl rfl rfl (by rw [hz2]; have := HN.out; omega) (by unfold maxLen; have := HN.out; omega) (Nat.le_refl _) ?_; intro w0 hown0 hgrow0)
 have hb0 : Below w.heap.size w w0 := (Below.refl _ _).grown hgrow0 (Nat.le_refl _) (fun k hk => by cases hk)
 obtain ⟨cur0, hh0, hsz0⟩ : ∃ cur, w0.heap[w.heap.size]? = some (.cells cur 3 (0, 0)) ∧ cur.size = n := by
  rcases hown0.2 with ⟨h, _⟩ | ⟨g, cap, cur, hv, _, hh, h1, h2, h3, _⟩
  ·cases h
  ·injection hv with a1 a2 a3
   injection a1 with a1
   injection a1 with a1
   subst a1 a3
   exact ⟨cur, hh, by simpa using h3⟩
 clear hown0 hgrow0
 go_wp2
 go_wp2
 go_loopw [4] (fun i wr => ∃ k : Nat, k ≤ n ∧ i = .int .i64 k ∧ Below w.heap.size w wr ∧ ∃ cur, wr.heap[w.heap.size]? = some (.cells cur 3 (0, 0)) ∧ cur.size = n ∧ ∀ j, j < k → cur[j]? = (ints zs)[j]?) (fun i _ => n - (intOf i).toNat)
 case atStart => exact ⟨0, Nat.zero_le _, rfl, hb0, cur0, hh0, hsz0, fun j hj => absurd hj (by omega)⟩
 case round =>
  obtain ⟨k, hk, rfl, hbw, cur, hh, hsz, hm2⟩ := hrel
  clear hb0 hh0 hsz0
  by_cases hlt : k < n
  ·obtain ⟨b, off, rfl, hbl, hc⟩ := HR.out.2 (by omega)
   have hl : k < zs.length := by have := HR.out.1; omega
   have hq : zs[k]? = some zs[k] := zgh hl
   generalize zs[k] = q at hq
   have c0 := (hbw.cell (p := ⟨b, off + k, none⟩) hbl).trans (hc k q hq)
   obtain ⟨o0, ho0⟩ := zAp (i := k) hh (by omega)
   have hf0 := zAs (i := k) hh
   have HQ := Lib.hid hq
   have HM := Lib.hid hm2
   have HH := Lib.hid hh
   have HZ := Lib.hid hsz
   have HB := Lib.hid hbw
   clear hc hq hm2 hh hsz hbw
   have hlt' : (k : Int) < n := by omega
   go_wp2
   refine ⟨⟨k + 1, by omega, by go_num, HB.out.setCell (Nat.le_refl _) _, _, zAq HH.out, by simpa using HZ.out, ?_⟩, by simp [intOf]; omega⟩
   intro j hj
   have hz := HZ.out
   rw [Array.getElem?_setIfInBounds]
   by_cases e : k = j
   ·subst e
    rw [if_pos rfl, if_pos (by omega)]
    simp [ints, HQ.out]
   ·rw [if_neg e]
    exact HM.out j (by omega)
  ·have hk9 : k = n := by omega
   subst hk9
   have hlen := HR.out.1
   have hown : wr.ownsRow w.heap.size 3 1 (.slice (some ⟨w.heap.size, 0, none⟩) k k) k (ints zs) := by
    refine ⟨by simp [ints, hlen], Or.inr ⟨w.heap.size, k, cur, rfl, Nat.le_refl _, hh, Nat.le_refl _, Nat.le_trans HN.out (by decide), by simpa using hsz, ?_⟩⟩
    apply List.ext_getElem?
    intro j
    rw [List.getElem?_take]
    split
    ·have := hm2 j (by omega)
     simpa using this
    ·rw [List.getElem?_eq_none (by simp [ints]; omega)]
   have HO := Lib.hid hown
   have HB := Lib.hid hbw
   clear hown hbw hh hsz hm2
   go_wp2
   go_ret
   exact ⟨_, rfl, HO.out, HB.out⟩
set_option maxHeartbeats 400000 in
theorem szIntS_any (A : Option Addr) (n c : Nat) (left : Int) (w : World) (h0 : 0 ≤ left) (h1 : left ≤ 1099511627776) (hn : n ≤ maxLen) :
  Calls Tryz.prog 115 #[.slice A n c, .int .i64 left] w fun e w' => e = .returned (.int .i64 (szOf left n)) ∧ w = w' := by
 unfold maxLen at hn
 have hl : -9223372036854775808 ≤ left - n := by omega
 have hl2 : left - n ≤ 9223372036854775807 := by omega
 unfold szOf
 by_cases h : (n : Int) ≤ left
 ·rw [if_pos h]
  have h' : ¬ (left - n < 0) := by omega
  clear h1
  go_enter Tryz.func115, Tryz.ntmps115
  go_wp2
  go_ret
  exact ⟨rfl, rfl⟩
 ·rw [if_neg h]
  have h' : left - n < 0 := by omega
  clear h1
  go_enter Tryz.func115, Tryz.ntmps115
  go_wp2
  go_ret
  exact ⟨rfl, rfl⟩
set_option maxHeartbeats 400000 in
theorem szNodeS_any (A : Option Addr) (n c : Nat) (left : Int) (w : World) (h0 : 0 ≤ left) (h1 : left ≤ 1099511627776) (hn : n ≤ maxLen) :
  Calls Tryz.prog 116 #[.slice A n c, .int .i64 left] w fun e w' => e = .returned (.int .i64 (szOf left n)) ∧ w = w' := by
 unfold maxLen at hn
 have hl : -9223372036854775808 ≤ left - n := by omega
 have hl2 : left - n ≤ 9223372036854775807 := by omega
 unfold szOf
 by_cases h : (n : Int) ≤ left
 ·rw [if_pos h]
  have h' : ¬ (left - n < 0) := by omega
  clear h1
  go_enter Tryz.func116, Tryz.ntmps116
  go_wp2
  go_ret
  exact ⟨rfl, rfl⟩
 ·rw [if_neg h]
  have h' : left - n < 0 := by omega
  clear h1
  go_enter Tryz.func116, Tryz.ntmps116
  go_wp2
  go_ret
  exact ⟨rfl, rfl⟩
def szT (n m : Nat) : Int := if (n : Int) ≤ 1048576 then szOf (1048576 - n) m else -1
theorem szT_cases (n m : Nat) : szT n m = -1 ∨ (0 ≤ szT n m ∧ n ≤ 1048576 ∧ m ≤ 1048576) := by
 unfold szT szOf
 split
 ·split
  ·right; omega
  ·left; rfl
 ·left; rfl
set_option maxHeartbeats 1000000 in
theorem szTopo_any (A B : Option Addr) (n c m d : Nat) (w : World) (hn : n ≤ maxLen) (hm : m ≤ maxLen) :
  Calls Tryz.prog 37 #[.agg #[.slice A n c, .slice B m d], .int .i64 1048576] w fun e w' => e = .returned (.int .i64 (szT n m)) ∧ Below w.heap.size w w' := by
 have HN := Lib.hid hn
 have HM := Lib.hid hm
 clear hn hm
 by_cases h : (n : Int) ≤ 1048576
 ·have hz : szOf 1048576 n = 1048576 - n := if_pos h
  have hT : szT n m = szOf (1048576 - n) m := if_pos h
  have h0 : ¬ (1048576 - (n : Int) < 0) := by omega
  have HZ := Lib.hid hz
  have HT := Lib.hid hT
  by_cases h2 : (m : Int) ≤ 1048576 - n
  ·have hz2 : szOf (1048576 - n) m = 1048576 - n - m := if_pos h2
   have h02 : ¬ (1048576 - (n : Int) - m < 0) := by omega
   have HZ2 := Lib.hid hz2
   clear hz hT hz2
   go_enter Tryz.func37, Tryz.ntmps37
   go_wp2_with (first | (go_at_call 115; refine (szIntS_any A n c 1048576 _ (by omega) (by omega) HN.out).mono ?_; rintro e w1 ⟨rfl, rfl⟩; rw [HZ.out]) | (go_at_call 116; refine (szNodeS_any B m d _ _ (by omega) (by omega) HM.out).mono ?_; rintro e w1 ⟨rfl, rfl⟩; rw [HZ2.out]))
   go_ret
   exact ⟨ret_int (by rw [HT.out, HZ2.out]), zAa _ _⟩
  ·have hz2 : szOf (1048576 - n) m = -1 := if_neg h2
   have HZ2 := Lib.hid hz2
   clear hz hT hz2
   go_enter Tryz.func37, Tryz.ntmps37
   go_wp2_with (first | (go_at_call 115; refine (szIntS_any A n c 1048576 _ (by omega) (by omega) HN.out).mono ?_; rintro e w1 ⟨rfl, rfl⟩; rw [HZ.out]) | (go_at_call 116; refine (szNodeS_any B m d _ _ (by omega) (by omega) HM.out).mono ?_; rintro e w1 ⟨rfl, rfl⟩; rw [HZ2.out]))
   go_ret
   exact ⟨ret_int (by rw [HT.out, HZ2.out]), zAa _ _⟩
 ·have hz : szOf 1048576 n = -1 := if_neg h
  have hT : szT n m = -1 := if_neg h
  have HZ := Lib.hid hz
  have HT := Lib.hid hT
  clear hz hT
  go_enter Tryz.func37, Tryz.ntmps37
  go_wp2_with (go_at_call 115; refine (szIntS_any A n c 1048576 _ (by omega) (by omega) HN.out).mono ?_; rintro e w1 ⟨rfl, rfl⟩; rw [HZ.out])
  go_ret
  exact ⟨ret_int HT.out.symm, zAa _ _⟩
set_option maxHeartbeats 4000000 in
theorem toTopo_any (A B : Option Addr) (n c m d : Nat) (ps : List Int) (ns : List Q) (w : World) (hn : n ≤ 1048576) (hm : m ≤ 1048576) (hr : RdI w A n ps) (hq : RdE w B m ns) :
  Calls Tryz.prog 39 #[.agg #[.slice A n c, .slice B m d]] w fun e w' => ∃ u v, e = .returned (.agg #[u, v]) ∧ w'.ownsRow w.heap.size 3 1 u n (ints ps) ∧ w'.ownsRow w.heap.size 199 4 v m (flat ns) ∧ Below w.heap.size w w' := by
 have HN := Lib.hid hn
 have HM := Lib.hid hm
 have HR := Lib.hid hr
 have HQ := Lib.hid hq
 clear hn hm hr hq
 go_enter Tryz.func39, Tryz.ntmps39
 go_wp2_with fail
 refine (toIntS_any A n c ps _ HN.out (HR.out.below zBe)).mono ?_
 rintro e w1 ⟨v1, rfl, own1, hb1⟩
 have hs1 := hb1.size
 (try simp at hs1)
 have hy10 : w.heap.size < w1.heap.size := by omega
 have hk10 := fun o => hb1.cell (p := ⟨w.heap.size, o, none⟩) zOm
 have hg10 := fun o => hb1.frozen (p := ⟨w.heap.size, o, none⟩) zOm
 have hy11 : w.heap.size + 1 < w1.heap.size := by omega
 have hk11 := fun o => hb1.cell (p := ⟨w.heap.size + 1, o, none⟩) zOm
 have hg11 := fun o => hb1.frozen (p := ⟨w.heap.size + 1, o, none⟩) zOm
 have hy12 : w.heap.size + 1 + 1 < w1.heap.size := by omega
 have hk12 := fun o => hb1.cell (p := ⟨w.heap.size + 1 + 1, o, none⟩) zOm
 have hg12 := fun o => hb1.frozen (p := ⟨w.heap.size + 1 + 1, o, none⟩) zOm
 obtain ⟨A1, c1, rfl, rd1⟩ := zAt own1
 have hl1 := own_blk own1
 have RD1 := Lib.hid rd1
 have HL1 := Lib.hid hl1
 have OW1 := Lib.hid own1
 clear rd1 hl1 own1
 go_wp2_with fail
 refine (toNodeS_any B m d ns _ HM.out (HQ.out.below zBe)).mono ?_
 rintro e w2 ⟨v2, rfl, own2, hb2⟩
 have hs2 := hb2.size
 (try simp at hs2)
 have hy20 : w.heap.size < w2.heap.size := by omega
 have hk20 := fun o => hb2.cell (p := ⟨w.heap.size, o, none⟩) zOm
 have hg20 := fun o => hb2.frozen (p := ⟨w.heap.size, o, none⟩) zOm
 have hy21 : w.heap.size + 1 < w2.heap.size := by omega
 have hk21 := fun o => hb2.cell (p := ⟨w.heap.size + 1, o, none⟩) zOm
 have hg21 := fun o => hb2.frozen (p := ⟨w.heap.size + 1, o, none⟩) zOm
 have hy22 : w.heap.size + 1 + 1 < w2.heap.size := by omega
 have hk22 := fun o => hb2.cell (p := ⟨w.heap.size + 1 + 1, o, none⟩) zOm
 have hg22 := fun o => hb2.frozen (p := ⟨w.heap.size + 1 + 1, o, none⟩) zOm
 obtain ⟨A2, c2, rfl, rd2⟩ := zAt own2
 have hl2 := own_blk own2
 have RD2 := Lib.hid rd2
 have HL2 := Lib.hid hl2
 have OW2 := Lib.hid own2
 clear rd2 hl2 own2
 go_wp2
 (try go_light)
 refine bodyPost_ret (v := .agg #[.slice A1 n c1, .slice A2 m c2]) (by simp [results, Tryz.results39, go_sem, *]) rfl ⟨_, _, rfl, ?_, ?_, zBe⟩
 ·have o1 := ownsRow_setCell_below OW1.out (a := ⟨w.heap.size + 1 + 1, 0, none⟩) (by simp) (.slice A1 n c1)
  have o2 := own_below o1 hb2 (own_lt o1)
  refine zAn (ownsRow_setCell_below (ownsRow_setCell_below (ownsRow_setCell_below o2 ?_ _) ?_ _) ?_ _) ?_ <;> (simp <;> omega)
 ·refine zAn (ownsRow_setCell_below (ownsRow_setCell_below (ownsRow_setCell_below OW2.out ?_ _) ?_ _) ?_ _) ?_ <;> (simp <;> omega)
set_option maxHeartbeats 1000000 in
theorem eqTopo_any (A A' B B' : Option Addr) (n c c' m d d' : Nat) (ps : List Int) (ns : List Q) (w : World) (hn : n ≤ 1048577) (hm : m ≤ 1048577) (ha : Rd w A n 1 (ints ps)) (ha' : Rd w A' n 1 (ints ps)) (hb : Rd w B m 4 (flat ns)) (hb' : Rd w B' m 4 (flat ns))
  (la : ∀ g, A = some ⟨g, 0, none⟩ → g < w.heap.size) (la' : ∀ g, A' = some ⟨g, 0, none⟩ → g < w.heap.size) (lb : ∀ g, B = some ⟨g, 0, none⟩ → g < w.heap.size) (lb' : ∀ g, B' = some ⟨g, 0, none⟩ → g < w.heap.size) :
  Calls Tryz.prog 42 #[.agg #[.slice A n c, .slice B m d], .agg #[.slice A' n c', .slice B' m d']] w fun e w' => e = .returned (.bool true) ∧ Below w.heap.size w w' := by
 have HN := Lib.hid hn
 have HM := Lib.hid hm
 have HA := Lib.hid ha
 have HA' := Lib.hid ha'
 have HB := Lib.hid hb
 have HB' := Lib.hid hb'
 have LA := Lib.hid la
 have LA' := Lib.hid la'
 have LB := Lib.hid lb
 have LB' := Lib.hid lb'
 clear hn hm ha ha' hb hb' la la' lb lb'
 go_enter Tryz.func42, Tryz.ntmps42
 go_wp2_with fail
 refine (eqIntS_any A A' n c c' ps _ HN.out (HA.out.below LA.out (zAc (zAa _ _) (zAa _ _))) (HA'.out.below LA'.out (zAc (zAa _ _) (zAa _ _)))).mono ?_
 rintro e w1 ⟨rfl, k1, rfl⟩
 go_wp2_with fail
 refine (eqNodeS_any B B' m d d' ns _ HM.out (HB.out.below LB.out zBe) (HB'.out.below LB'.out zBe) (zAi LB.out zBe) (zAi LB'.out zBe)).mono ?_
 rintro e w2 ⟨rfl, hb2⟩
 go_wp2
 go_ret
 exact ⟨rfl, zBe⟩
def atT (A B : Option Addr) (k : Nat) : Prop := atB A k ∨ atB B k
end Go.Proofs.YtnphjhbfpoekpaaGreat
