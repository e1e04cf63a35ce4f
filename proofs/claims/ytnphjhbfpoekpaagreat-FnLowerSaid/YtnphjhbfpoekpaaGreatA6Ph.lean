import Derived.Test.YtnphjhbfpoekpaaGreatA5Ph
import Derived.Test.YtnphjhbfpoekpaaGreatA3Ph
namespace Go.Proofs.YtnphjhbfpoekpaaGreat
set_option linter.unusedSimpArgs false
set_option linter.unusedVariables false
set_option linter.unnecessarySimpa false
open Go.RowKit
theorem topoOk_any (A B : Option Addr) (n c m d : Nat) (ps : List Int) (ns : List Q) (w : World) (hn : n ≤ 1048576) (hm : m ≤ 1048576) (hr : Rd w A n 1 (ints ps)) (hq : Rd w B m 4 (flat ns)) (hl : ∀ g, A = some ⟨g, 0, none⟩ → g < w.heap.size) (hl2 : ∀ g, B = some ⟨g, 0, none⟩ → g < w.heap.size) :
  Calls Tryz.prog 100 #[.agg #[.slice A n c, .slice B m d]] w fun e w' => e = .returned (.bool (topoOkB ps ns)) ∧ Below w.heap.size w w' := by
 by_cases hb : ¬ (1 ≤ n ∧ n ≤ 24) ∨ ps.getD 0 0 ≠ 0 ∨ ¬ m ≤ 24
 ·exact topoOk_head A B n c m d ps ns w hn hm hr hq hl hl2 hb
 ·exact topoOk_main A B n c m d ps ns w hn hm hr hq hl hl2 (by omega) (by omega) (by omega) (by omega)
set_option maxHeartbeats 4000000 in
theorem stopoOk_head (A B : Option Addr) (n c m d : Nat) (ps : List Int) (ns : List Q) (w : World) (hn : n ≤ 1048576) (hm : m ≤ 1048576) (hr : Rd w A n 1 (ints ps)) (hq : Rd w B m 4 (flat ns)) (hl : ∀ g, A = some ⟨g, 0, none⟩ → g < w.heap.size) (hl2 : ∀ g, B = some ⟨g, 0, none⟩ → g < w.heap.size) (hb : ¬ (1 ≤ n ∧ n ≤ 24) ∨ ps.getD 0 0 ≠ 0 ∨ ¬ m ≤ 24) :
  Calls Tryz.prog 144 #[.agg #[.slice A n c, .slice B m d]] w fun e w' => e = .returned (.bool (topoOkB ps ns)) ∧ Below w.heap.size w w' := by
 have hpl := hr.ilen
 have hql : ns.length = m := by have := hq.1; rw [flat_len] at this; omega
 have hm1 : n ≤ 9223372036854775807 := by omega
 have hm2 : m ≤ 9223372036854775807 := by omega
 have HN := Lib.hid hn
 have HM := Lib.hid hm
 have HR := Lib.hid hr
 have HQ := Lib.hid hq
 have HP := Lib.hid hpl
 have HQL := Lib.hid hql
 have HL := Lib.hid hl
 have HL2 := Lib.hid hl2
 clear hn hm hr hq hpl hql hl hl2
 by_cases h1 : n < 1
 ·have hF := topo_len (ns := ns) HP.out (show ¬ (1 ≤ n ∧ n ≤ 24) by omega)
  have HF := Lib.hid hF
  have a1 : (n : Int) < 1 := by omega
  clear hF hb
  go_enter Tryz.func144, Tryz.ntmps144
  go_wp2
  go_ret
  exact ⟨zAl HF.out.symm, zAa _ _⟩
 ·have a1 : ¬ ((n : Int) < 1) := by omega
  by_cases h2 : 24 < n
  ·have hF := topo_len (ns := ns) HP.out (show ¬ (1 ≤ n ∧ n ≤ 24) by omega)
   have HF := Lib.hid hF
   have a2 : (24 : Int) < n := by omega
   clear hF hb
   go_enter Tryz.func144, Tryz.ntmps144
   go_wp2
   go_ret
   exact ⟨zAl HF.out.symm, zAa _ _⟩
  ·have a2 : ¬ ((24 : Int) < n) := by omega
   by_cases h3 : 24 < m
   ·have hF := topo_nodes (ps := ps) HQL.out (show ¬ m ≤ 24 by omega)
    have HF := Lib.hid hF
    have a3 : (24 : Int) < m := by omega
    clear hF hb
    go_enter Tryz.func144, Tryz.ntmps144
    go_wp2
    go_ret
    exact ⟨zAl HF.out.symm, zAa _ _⟩
   ·have a3 : ¬ ((24 : Int) < m) := by omega
    obtain ⟨g, z, rfl, hz, c0⟩ := HR.out.int (show 0 < n by omega)
    have hg := HL.out g rfl
    have hni : (0 : Int) < (n : Int) := by omega
    have hz0 : z ≠ 0 := by
     have := getD_of hz
     rcases hb with h | h | h
     ·omega
     ·rw [this] at h; exact h
     ·omega
    have hz' : (z != 0) = true := by simp [hz0]
    have hz2 : (z == 0) = false := by simp [hz0]
    have hF := topo_root (ns := ns) (show ps.getD 0 0 ≠ 0 by rw [getD_of hz]; exact hz0)
    have HF := Lib.hid hF
    clear hz0 hz
    clear hF hb
    go_enter Tryz.func144, Tryz.ntmps144
    go_wp2
    go_ret
    exact ⟨zAl HF.out.symm, zAa _ _⟩
set_option maxHeartbeats 8000000 in
theorem stopoOk_main (A B : Option Addr) (n c m d : Nat) (ps : List Int) (ns : List Q) (w : World) (hn : n ≤ 1048576) (hm : m ≤ 1048576) (hr : Rd w A n 1 (ints ps)) (hq : Rd w B m 4 (flat ns)) (hl : ∀ g, A = some ⟨g, 0, none⟩ → g < w.heap.size) (hl2 : ∀ g, B = some ⟨g, 0, none⟩ → g < w.heap.size) (h1 : 1 ≤ n) (h24 : n ≤ 24) (h0 : ps.getD 0 0 = 0) (hm24 : m ≤ 24) :
  Calls Tryz.prog 144 #[.agg #[.slice A n c, .slice B m d]] w fun e w' => e = .returned (.bool (topoOkB ps ns)) ∧ Below w.heap.size w w' := by
 have hpl := hr.ilen
 have hql : ns.length = m := by have := hq.1; rw [flat_len] at this; omega
 have hm1 : n ≤ 9223372036854775807 := by omega
 have hm2 : m ≤ 9223372036854775807 := by omega
 have HN := Lib.hid hn
 have HM := Lib.hid hm
 have HR := Lib.hid hr
 have HQ := Lib.hid hq
 have HP := Lib.hid hpl
 have HQL := Lib.hid hql
 have HL := Lib.hid hl
 have HL2 := Lib.hid hl2
 clear hn hm hr hq hpl hql hl hl2
 have a1 : ¬ ((n : Int) < 1) := by omega
 have a2 : ¬ ((24 : Int) < n) := by omega
 have a3 : ¬ ((24 : Int) < m) := by omega
 obtain ⟨g, z, rfl, hz, c0⟩ := HR.out.int (show 0 < n by omega)
 have hg := HL.out g rfl
 have hni : (0 : Int) < (n : Int) := by omega
 rw [getD_of hz] at h0
 rw [h0] at c0 hz
 have H0 := Lib.hid (getD_of hz)
 clear h0 hz
 go_enter Tryz.func144, Tryz.ntmps144
 go_wp2_with fail
 have bx0 : (w.alloc (.cells #[.slice (some ⟨g, 0, none⟩) n c, .slice B m d] 26)).cell? ⟨w.heap.size, 0, none⟩ = some (.slice (some ⟨g, 0, none⟩) n c) := by simp [go_sem]
 have bx1 : (w.alloc (.cells #[.slice (some ⟨g, 0, none⟩) n c, .slice B m d] 26)).cell? ⟨w.heap.size, 1, none⟩ = some (.slice B m d) := by simp [go_sem]
 have BA : Below w.heap.size w (w.alloc (.cells #[.slice (some ⟨g, 0, none⟩) n c, .slice B m d] 26)) := zAa _ _
 have hsz : w.heap.size < (w.alloc (.cells #[.slice (some ⟨g, 0, none⟩) n c, .slice B m d] 26)).heap.size := by simp
 generalize w.alloc (.cells #[.slice (some ⟨g, 0, none⟩) n c, .slice B m d] 26) = w1 at *
 have HBA := Lib.hid BA
 clear BA
 go_loop [3] (fun i => ∃ k : Nat, 1 ≤ k ∧ k ≤ n ∧ i = .int .i64 k ∧ ∀ j, 1 ≤ j → j < k → 0 ≤ ps.getD j 0 ∧ ps.getD j 0 < j) (fun i => n - (intOf i).toNat)
 case atStart => exact ⟨1, Nat.le_refl _, h1, rfl, fun j a b => by omega⟩
 case round =>
  obtain ⟨k, hk1, hk, rfl, hall⟩ := hrel
  have HA := Lib.hid hall
  clear hall
  by_cases hlt : k < n
  ·have hlt' : (k : Int) < n := by omega
   obtain ⟨g', z, hg', hz, d0⟩ := HR.out.int hlt
   simp only [Option.some.injEq, Addr.mk.injEq] at hg'
   obtain ⟨rfl, -⟩ := hg'
   have D0 := (HBA.out.cell (p := ⟨g, k, none⟩) hg).trans d0
   have HZ := Lib.hid (getD_of hz)
   clear hz d0
   by_cases hp0 : z < 0
   ·have HF := Lib.hid (topo_par (ps := ps) (ns := ns) (k := k) (by rw [HP.out]; exact hlt) hk1 (by rw [HZ.out]; omega))
    go_wp2
    go_ret
    exact ⟨zAl HF.out.symm, HBA.out⟩
   ·have hp0' : ¬ (z < 0) := hp0
    by_cases hp1 : (k : Int) ≤ z
    ·have HF := Lib.hid (topo_par (ps := ps) (ns := ns) (k := k) (by rw [HP.out]; exact hlt) hk1 (by rw [HZ.out]; omega))
     go_wp2
     go_ret
     exact ⟨zAl HF.out.symm, HBA.out⟩
    ·have hp1' : ¬ ((k : Int) ≤ z) := hp1
     go_wp2
     go_round
     case rel =>
      refine ⟨k + 1, by omega, by omega, by go_num, fun j a b => ?_⟩
      rcases Nat.lt_or_ge j k with h | h
      ·exact HA.out j a h
      ·have : j = k := by omega
       rw [this, HZ.out]; omega
     case measure => simp [intOf]; omega
  ·have hk9 : k = n := by omega
   subst hk9
   have hpo : parOk ps := fun s a b => HA.out s a (by rw [← HP.out]; exact b)
   have HO := Lib.hid hpo
   clear hpo
   go_wp2_with fail
   go_loopw [54] (fun i wr => ∃ x : Nat, x ≤ m ∧ i = .int .i64 x ∧ Below w1.heap.size w1 wr ∧ ∀ y q, y < x → ns[y]? = some q → nodeOk ps q = true) (fun i _ => m - (intOf i).toNat)
   case atStart => exact ⟨0, Nat.zero_le _, rfl, Below.refl _ _, fun y q hy _ => by omega⟩
   case round =>
    obtain ⟨x, hx, rfl, hb, hall⟩ := hrel
    have HAL := Lib.hid hall
    have HB := Lib.hid hb
    have xb0 := (hb.cell (p := ⟨w.heap.size, 0, none⟩) hsz).trans bx0
    have xb1 := (hb.cell (p := ⟨w.heap.size, 1, none⟩) hsz).trans bx1
    have hszr := Nat.lt_of_lt_of_le hsz hb.size
    clear hall hb
    by_cases hxlt : x < m
    ·have hxlt' : (x : Int) < m := by omega
     obtain ⟨gb, q, rfl, hq, d0, d1, d2, d3⟩ := HQ.out.q hxlt
     have hgb := HL2.out gb rfl
     have BB : Below w.heap.size w wr := zAc HBA.out HB.out
     have D0 := (BB.cell (p := ⟨gb, x * 4, none⟩) hgb).trans d0
     have D1 := (BB.cell (p := ⟨gb, x * 4 + 1, none⟩) hgb).trans d1
     have D2 := (BB.cell (p := ⟨gb, x * 4 + 2, none⟩) hgb).trans d2
     have D3 := (BB.cell (p := ⟨gb, x * 4 + 3, none⟩) hgb).trans d3
     have hmem : q ∈ ns := List.mem_of_getElem? hq
     have HMEM := Lib.hid hmem
     have HBB := Lib.hid BB
     have HGQ := Lib.hid hq
     have RDR := Lib.hid (HR.out.below HL.out BB)
     clear d0 d1 d2 d3 hmem BB hq
     by_cases hr0 : q.t < 0
     ·have HF := Lib.hid (topo_node (ps := ps) HMEM.out (show nodeOk ps q = false by
       unfold nodeOk
       have : ¬ 0 ≤ q.t := by omega
       simp [this]))
      go_wp2
      go_ret
      exact ⟨zAl HF.out.symm, zAc HBB.out (zAa _ _)⟩
     ·have hr0' : ¬ (q.t < 0) := hr0
      by_cases hr1 : (k : Int) ≤ q.t
      ·have HF := Lib.hid (topo_node (ps := ps) HMEM.out (show nodeOk ps q = false by
        unfold nodeOk
        have : ¬ q.t < ps.length := by rw [HP.out]; omega
        simp [this]))
       go_wp2
       go_ret
       exact ⟨zAl HF.out.symm, zAc HBB.out (zAa _ _)⟩
      ·have hr1' : ¬ ((k : Int) ≤ q.t) := hr1
       obtain ⟨qt, qa, qb, qc⟩ := q
       dsimp only at *
       obtain ⟨s, rfl⟩ : ∃ s : Nat, qt = s := ⟨qt.toNat, by omega⟩
       cases hlf : leafI ps (s : Int)
       ·have hkl : (kids ps s).length = (kids ps s).length := rfl
        have hkp : (0 : Int) < ((kids ps s).length : Int) := by
         rw [leafI_eq] at hlf
         unfold leafB at hlf
         cases hh : kids ps s with
         | nil => rw [hh] at hlf; simp at hlf
         | cons a b => simp
        generalize hK : (kids ps s).length = K at *
        have HK := Lib.hid hK
        have HF := Lib.hid (topo_node (ps := ps) HMEM.out (show nodeOk ps _ = false by unfold nodeOk; rw [hlf]; simp))
        have hK9 : K ≤ 9223372036854775807 := by have := kidsN_len ps s k; rw [kidsN_all ps s k HP.out, HK.out] at this; omega
        clear hK hlf
        go_wp2_with (go_at_call 159; refine (kids_any _ _ _ _ _ _ ps s _ HN.out (RDR.out.below (zAi HL.out HBB.out) (zAa _ _)) (zAi (zAi HL.out HBB.out) (zAa _ _))).mono ?_; rintro e w4 ⟨v4, rfl, own4, hb4⟩; obtain ⟨A4, c4, rfl, rd4⟩ := zAq own4; rw [HK.out]; have hs4 := hb4.size; (try simp at hs4); have hk40 := fun o => hb4.cell (p := ⟨wr.heap.size, o, none⟩) (by simp <;> omega); clear rd4 own4)
        go_ret
        exact ⟨zAl HF.out.symm, (by repeat (first | exact Below.refl _ _ | assumption | exact zAc (by assumption) (by assumption) | (refine zAc ?_ (zAa _ _)) | (refine zAc ?_ (by assumption)) | (refine Below.setCell ?_ (by simp <;> omega) _) | refine Below.drew ?_))⟩
       ·have hkl : (kids ps s).length = 0 := by
         rw [leafI_eq] at hlf
         unfold leafB at hlf
         rw [List.isEmpty_iff] at hlf
         rw [hlf]; rfl
        cases hvo : vecOkB qa qb qc
        ·have HF := Lib.hid (topo_node (ps := ps) HMEM.out (show nodeOk ps _ = false by unfold nodeOk; rw [hvo]; simp))
         go_wp2_with (first | (go_at_call 159; refine (kids_any _ _ _ _ _ _ ps s _ HN.out (RDR.out.below (zAi HL.out HBB.out) (zAa _ _)) (zAi (zAi HL.out HBB.out) (zAa _ _))).mono ?_; rintro e w4 ⟨v4, rfl, own4, hb4⟩; obtain ⟨A4, c4, rfl, rd4⟩ := zAq own4; rw [hkl]; have hs4 := hb4.size; (try simp at hs4); have hk40 := fun o => hb4.cell (p := ⟨wr.heap.size, o, none⟩) (by simp <;> omega); clear rd4 own4) | (go_at_call 172; refine (svecOk_raw _ _ _ _).mono ?_; rintro e w5 ⟨rfl, hb5⟩; rw [hvo]))
         go_ret
         exact ⟨zAl HF.out.symm, (by repeat (first | exact Below.refl _ _ | assumption | exact zAc (by assumption) (by assumption) | (refine zAc ?_ (zAa _ _)) | (refine zAc ?_ (by assumption)) | (refine Below.setCell ?_ (by simp <;> omega) _) | refine Below.drew ?_))⟩
        ·have HNO : Hid (nodeOk ps ⟨(s : Int), qa, qb, qc⟩ = true) := by
          refine Lib.hid ?_
          unfold nodeOk
          dsimp only
          rw [hvo, hlf, HP.out]
          simp; omega
         go_wp2_with (first | (go_at_call 159; refine (kids_any _ _ _ _ _ _ ps s _ HN.out (RDR.out.below (zAi HL.out HBB.out) (zAa _ _)) (zAi (zAi HL.out HBB.out) (zAa _ _))).mono ?_; rintro e w4 ⟨v4, rfl, own4, hb4⟩; obtain ⟨A4, c4, rfl, rd4⟩ := zAq own4; rw [hkl]; have hs4 := hb4.size; (try simp at hs4); have hk40 := fun o => hb4.cell (p := ⟨wr.heap.size, o, none⟩) (by simp <;> omega); clear rd4 own4) | (go_at_call 172; refine (svecOk_raw _ _ _ _).mono ?_; rintro e w5 ⟨rfl, hb5⟩; rw [hvo]))
         go_roundw
         case rel =>
          refine ⟨x + 1, by omega, by go_num, (by repeat (first | exact Below.refl _ _ | assumption | exact zAc (by assumption) (by assumption) | (refine zAc ?_ (zAa _ _)) | (refine zAc ?_ (by assumption)) | (refine Below.setCell ?_ (by simp <;> omega) _) | refine Below.drew ?_)), fun y q' hy hq' => ?_⟩
          rcases Nat.lt_or_ge y x with h | h
          ·exact HAL.out y q' h hq'
          ·have : y = x := by omega
           rw [this, HGQ.out] at hq'
           injection hq' with hq'
           rw [← hq']; exact HNO.out
         case measure => simp [intOf]; omega
    ·have hx9 : x = m := by omega
     subst hx9
     have hfin := topo_all HP.out HQL.out h1 h24 H0.out hm24 HO.out (fun k q a b => HAL.out k q a b)
     rw [lev_even HO.out (by rw [HP.out]; exact h1)] at hfin
     have HF := Lib.hid hfin
     have hle := lev_le HO.out (show 0 < ps.length by rw [HP.out]; omega)
     have RDR := Lib.hid (HR.out.below HL.out (zAc HBA.out HB.out))
     clear hfin
     go_wp2_with (go_at_call 85; refine (slevel_any k _ _ _ _ _ _ ps 0 _ (Nat.sub_le _ _) HN.out RDR.out (zAi HL.out (zAc HBA.out HB.out)) HO.out (by omega)).mono ?_; rintro e w6 ⟨rfl, hb6⟩)
     all_goals go_ret
     all_goals exact ⟨zAl (by rw [HF.out]), (by repeat (first | exact Below.refl _ _ | assumption | exact zAc (by assumption) (by assumption) | (refine zAc ?_ (zAa _ _)) | (refine zAc ?_ (by assumption)) | (refine Below.setCell ?_ (by simp <;> omega) _) | refine Below.drew ?_))⟩
theorem stopoOk_any (A B : Option Addr) (n c m d : Nat) (ps : List Int) (ns : List Q) (w : World) (hn : n ≤ 1048576) (hm : m ≤ 1048576) (hr : Rd w A n 1 (ints ps)) (hq : Rd w B m 4 (flat ns)) (hl : ∀ g, A = some ⟨g, 0, none⟩ → g < w.heap.size) (hl2 : ∀ g, B = some ⟨g, 0, none⟩ → g < w.heap.size) :
  Calls Tryz.prog 144 #[.agg #[.slice A n c, .slice B m d]] w fun e w' => e = .returned (.bool (topoOkB ps ns)) ∧ Below w.heap.size w w' := by
 by_cases hb : ¬ (1 ≤ n ∧ n ≤ 24) ∨ ps.getD 0 0 ≠ 0 ∨ ¬ m ≤ 24
 ·exact stopoOk_head A B n c m d ps ns w hn hm hr hq hl hl2 hb
 ·exact stopoOk_main A B n c m d ps ns w hn hm hr hq hl hl2 (by omega) (by omega) (by omega) (by omega)
def RdI (w : World) (A : Option Addr) (n : Nat) (zs : List Int) : Prop :=
 zs.length = n ∧ (0 < n → ∃ b off, A = some ⟨b, off, none⟩ ∧ b < w.heap.size ∧ ∀ (k : Nat) z, zs[k]? = some z → w.cell? ⟨b, off + k, none⟩ = some (.int .i64 z))
theorem RdI.below {w w' : World} {A : Option Addr} {n : Nat} {zs : List Int} (h : RdI w A n zs) (hb : Below w.heap.size w w') : RdI w' A n zs :=
 ⟨h.1, fun hn => by
  obtain ⟨b, off, rfl, hl, hc⟩ := h.2 hn
  exact ⟨b, off, rfl, Nat.lt_of_lt_of_le hl hb.size, fun k z hz => (hb.cell (p := ⟨b, _, none⟩) hl).trans (hc k z hz)⟩⟩
end Go.Proofs.YtnphjhbfpoekpaaGreat
