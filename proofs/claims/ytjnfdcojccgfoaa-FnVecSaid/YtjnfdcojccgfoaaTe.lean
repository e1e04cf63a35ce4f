import Derived.Test.YtjnfdcojccgfoaaTd
import Derived.Deep.DeepCutAuto
namespace Go.Proofs.Ytjnfdcojccgfoaa
set_option linter.unusedSimpArgs false
set_option linter.unusedVariables false
set_option linter.unnecessarySimpa false
open Go.RowKit

set_option maxHeartbeats 4000000 in
theorem topoOk_head (A B : Option Addr) (n c m d : Nat) (ps : List Int) (ns : List Q) (w : World) (hn : n ≤ 1048576) (hm : m ≤ 1048576) (hr : Rd w A n 1 (ints ps)) (hq : Rd w B m 4 (flat ns)) (hl : ∀ g, A = some ⟨g, 0, none⟩ → g < w.heap.size) (hl2 : ∀ g, B = some ⟨g, 0, none⟩ → g < w.heap.size) (hb : ¬ (1 ≤ n ∧ n ≤ 24) ∨ ps.getD 0 0 ≠ 0 ∨ ¬ m ≤ 24) :
    Calls Try.prog 70 #[.agg #[.slice A n c, .slice B m d]] w fun e w' => e = .returned (.bool (topoOkB ps ns)) ∧ Below w.heap.size w w' := by
  have hpl := hr.ilen
  have hql : ns.length = m := by have := hq.1; rw [flat_len] at this; omega
  have hm1 : n ≤ 9223372036854775807 := by omega
  have hm2 : m ≤ 9223372036854775807 := by omega
  have HN := Lib.hid hn
  have HM := Lib.hid hm
  have HR := Lib.hid hr
  have HQ := Lib.hid hq
  have HP := Lib.hid hpl
  have HQL := Lib.hid hql
  have HL := Lib.hid hl
  have HL2 := Lib.hid hl2
  clear hn hm hr hq hpl hql hl hl2
  by_cases h1 : 1 ≤ n ∧ n ≤ 24
  · have hin : inB n 1 24 = true := by simp [inB]; omega
    obtain ⟨g, z, rfl, hz, c0⟩ := HR.out.int (show 0 < n by omega)
    have hg := HL.out g rfl
    have hni : (0 : Int) < (n : Int) := by omega
    by_cases h2 : z = 0
    · have hm24 : (24 : Int) < (m : Int) := by
        have := getD_of hz
        rcases hb with h | h | h
        · exact absurd h1 h
        · rw [this] at h; exact absurd h2 h
        · omega
      have hF := topo_nodes (ps := ps) HQL.out (show ¬ m ≤ 24 by omega)
      have HF := Lib.hid hF
      rw [h2] at c0
      clear hF hb h1 h2 hz
      go_enter Try.func70, Try.ntmps70
      go_wp2_with (go_at_call 104; refine (within_any _ _ _ _).mono ?_; rintro e w' ⟨rfl, rfl⟩; rw [hin])
      go_ret
      exact ⟨ret_bool HF.out.symm, below_alloc _ _⟩
    · have hz' : (z != 0) = true := by simp [h2]
      have hz2 : (z == 0) = false := by simp [h2]
      have hF := topo_root (ns := ns) (show ps.getD 0 0 ≠ 0 by rw [getD_of hz]; exact h2)
      have HF := Lib.hid hF
      clear hF hb h1 h2 hz
      go_enter Try.func70, Try.ntmps70
      go_wp2_with (go_at_call 104; refine (within_any _ _ _ _).mono ?_; rintro e w' ⟨rfl, rfl⟩; rw [hin])
      go_ret
      exact ⟨ret_bool HF.out.symm, below_alloc _ _⟩
  · have hin : inB n 1 24 = false := by
      simp only [inB, Bool.and_eq_false_iff, decide_eq_false_iff_not]; omega
    have HF := Lib.hid (topo_len (ns := ns) HP.out h1)
    clear hb h1
    go_enter Try.func70, Try.ntmps70
    go_wp2_with (go_at_call 104; refine (within_any _ _ _ _).mono ?_; rintro e w' ⟨rfl, rfl⟩; rw [hin])
    go_ret
    exact ⟨ret_bool HF.out.symm, below_alloc _ _⟩

set_option maxHeartbeats 8000000 in
theorem topoOk_main (A B : Option Addr) (n c m d : Nat) (ps : List Int) (ns : List Q) (w : World) (hn : n ≤ 1048576) (hm : m ≤ 1048576) (hr : Rd w A n 1 (ints ps)) (hq : Rd w B m 4 (flat ns)) (hl : ∀ g, A = some ⟨g, 0, none⟩ → g < w.heap.size) (hl2 : ∀ g, B = some ⟨g, 0, none⟩ → g < w.heap.size) (h1 : 1 ≤ n) (h24 : n ≤ 24) (h0 : ps.getD 0 0 = 0) (hm24 : m ≤ 24) :
    Calls Try.prog 70 #[.agg #[.slice A n c, .slice B m d]] w fun e w' => e = .returned (.bool (topoOkB ps ns)) ∧ Below w.heap.size w w' := by
  have hpl := hr.ilen
  have hql : ns.length = m := by have := hq.1; rw [flat_len] at this; omega
  have hm1 : n ≤ 9223372036854775807 := by omega
  have hm2 : m ≤ 9223372036854775807 := by omega
  have HN := Lib.hid hn
  have HM := Lib.hid hm
  have HR := Lib.hid hr
  have HQ := Lib.hid hq
  have HP := Lib.hid hpl
  have HQL := Lib.hid hql
  have HL := Lib.hid hl
  have HL2 := Lib.hid hl2
  clear hn hm hr hq hpl hql hl hl2
  have hin : inB n 1 24 = true := by simp [inB]; omega
  obtain ⟨g, z, rfl, hz, c0⟩ := HR.out.int (show 0 < n by omega)
  have hg := HL.out g rfl
  have hni : (0 : Int) < (n : Int) := by omega
  rw [getD_of hz] at h0
  rw [h0] at c0 hz
  have hm9 : ¬ ((24 : Int) < (m : Int)) := by omega
  have H0 := Lib.hid (getD_of hz)
  clear h0 hz
  go_enter Try.func70, Try.ntmps70
  go_wp2_with (go_at_call 104; refine (within_any _ _ _ _).mono ?_; rintro e w' ⟨rfl, rfl⟩; rw [hin])
  have bx0 : (w.alloc (.cells #[.slice (some ⟨g, 0, none⟩) n c, .slice B m d] 80)).cell? ⟨w.heap.size, 0, none⟩ = some (.slice (some ⟨g, 0, none⟩) n c) := by simp [go_sem]
  have bx1 : (w.alloc (.cells #[.slice (some ⟨g, 0, none⟩) n c, .slice B m d] 80)).cell? ⟨w.heap.size, 1, none⟩ = some (.slice B m d) := by simp [go_sem]
  have BA : Below w.heap.size w (w.alloc (.cells #[.slice (some ⟨g, 0, none⟩) n c, .slice B m d] 80)) := below_alloc _ _
  have hsz : w.heap.size < (w.alloc (.cells #[.slice (some ⟨g, 0, none⟩) n c, .slice B m d] 80)).heap.size := by simp
  generalize w.alloc (.cells #[.slice (some ⟨g, 0, none⟩) n c, .slice B m d] 80) = w1 at *
  have HBA := Lib.hid BA
  clear BA
  go_loop [3] (fun i => ∃ k : Nat, 1 ≤ k ∧ k ≤ n ∧ i = .int .i64 k ∧ ∀ j, 1 ≤ j → j < k → 0 ≤ ps.getD j 0 ∧ ps.getD j 0 < j) (fun i => n - (intOf i).toNat)
  case atStart => exact ⟨1, Nat.le_refl _, h1, rfl, fun j a b => by omega⟩
  case round =>
    obtain ⟨k, hk1, hk, rfl, hall⟩ := hrel
    have HA := Lib.hid hall
    clear hall
    by_cases hlt : k < n
    · have hlt' : (k : Int) < n := by omega
      obtain ⟨g', z, hg', hz, d0⟩ := HR.out.int hlt
      simp only [Option.some.injEq, Addr.mk.injEq] at hg'
      obtain ⟨rfl, -⟩ := hg'
      have D0 := (HBA.out.cell (p := ⟨g, k, none⟩) hg).trans d0
      have HZ := Lib.hid (getD_of hz)
      clear hz d0
      have hk9 : IntKind.i64.wrap ((k : Int) - 1) = (k : Int) - 1 := IntWalk.i64_in _ (by omega)
      by_cases hp : 0 ≤ z ∧ z < k
      · have hin2 : inB z 0 ((k : Int) - 1) = true := by simp [inB]; omega
        go_wp2_with (go_at_call 104; refine (within_any _ _ _ _).mono ?_; rintro e w' ⟨rfl, rfl⟩; rw [hin2])
        go_round
        case rel =>
          refine ⟨k + 1, by omega, by omega, by go_num, fun j a b => ?_⟩
          rcases Nat.lt_or_ge j k with h | h
          · exact HA.out j a h
          · have : j = k := by omega
            rw [this, HZ.out]; exact hp
        case measure => simp [intOf]; omega
      · have hin2 : inB z 0 ((k : Int) - 1) = false := by
          simp only [inB, Bool.and_eq_false_iff, decide_eq_false_iff_not]; omega
        have HF := Lib.hid (topo_par (ps := ps) (ns := ns) (k := k) (by rw [HP.out]; exact hlt) hk1 (by rw [HZ.out]; exact hp))
        clear hp
        go_wp2_with (go_at_call 104; refine (within_any _ _ _ _).mono ?_; rintro e w' ⟨rfl, rfl⟩; rw [hin2])
        go_ret
        exact ⟨ret_bool HF.out.symm, HBA.out⟩
    · have hk9 : k = n := by omega
      subst hk9
      have hpo : parOk ps := fun s a b => HA.out s a (by rw [← HP.out]; exact b)
      have HO := Lib.hid hpo
      have RD1 := Lib.hid (HR.out.below HL.out HBA.out)
      clear hpo
      go_wp2_with fail
      go_loop [4, 46] (fun v i => ∃ (j : Nat) (D : Int), j ≤ k ∧ i = .int .i64 j ∧ v = .int .i64 D ∧ -1 ≤ D ∧ deepOk ps j D) (fun _ i => k - (intOf i).toNat)
      case atStart => exact ⟨0, -1, Nat.zero_le _, rfl, rfl, by omega, Or.inl ⟨rfl, fun j hj => by omega⟩⟩
      case round =>
        obtain ⟨j, D, hj, rfl, rfl, hD, hdo⟩ := hrel
        have HD := Lib.hid hdo
        clear hdo
        by_cases hjlt : j < k
        · have hjlt' : (j : Int) < k := by omega
          cases hlf : leafB ps j
          · have hlf2 : leafI ps (j : Int) = false := by rw [leafI_eq]; exact hlf
            have HLF := Lib.hid hlf
            clear hlf
            go_wp2_with (go_at_call 132; refine (isLeaf_any _ _ _ _ _ _ HN.out RD1.out).mono ?_; rintro e w' ⟨rfl, rfl⟩; rw [hlf2])
            go_round
            case rel => exact ⟨j + 1, D, by omega, by go_num, rfl, hD, deepOk_no HD.out HLF.out⟩
            case measure => simp [intOf]; omega
          · have hlf2 : leafI ps (j : Int) = true := by rw [leafI_eq]; exact hlf
            have HLF := Lib.hid hlf
            clear hlf
            by_cases hdn : D < 0
            · have hdn' : ¬ (0 ≤ D) := by omega
              go_wp2_with (first | (go_at_call 132; refine (isLeaf_any _ _ _ _ _ _ HN.out RD1.out).mono ?_; rintro e w' ⟨rfl, rfl⟩; rw [hlf2]) | (go_at_call 133; refine (depth_any _ _ _ _ _ _ HN.out RD1.out HO.out hjlt).mono ?_; rintro e w' ⟨rfl, rfl⟩))
              go_round
              case rel => exact ⟨j + 1, dep ps j, by omega, by go_num, rfl, by omega, deepOk_yes HD.out HLF.out (Or.inl hdn)⟩
              case measure => simp [intOf]; omega
            · have hdn' : 0 ≤ D := by omega
              by_cases hde : (dep ps j : Int) = D
              · have hde' : ((dep ps j : Int) != D) = false := by simp [hde]
                have hde2 : ((dep ps j : Int) == D) = true := by simp [hde]
                have HDE := Lib.hid hde
                clear hde
                go_wp2_with (first | (go_at_call 132; refine (isLeaf_any _ _ _ _ _ _ HN.out RD1.out).mono ?_; rintro e w' ⟨rfl, rfl⟩; rw [hlf2]) | (go_at_call 133; refine (depth_any _ _ _ _ _ _ HN.out RD1.out HO.out hjlt).mono ?_; rintro e w' ⟨rfl, rfl⟩))
                go_round
                case rel => exact ⟨j + 1, dep ps j, by omega, by go_num, rfl, by omega, deepOk_yes HD.out HLF.out (Or.inr HDE.out)⟩
                case measure => simp [intOf]; omega
              · have hde' : ((dep ps j : Int) != D) = true := by simp [hde]
                have hde2 : ((dep ps j : Int) == D) = false := by simp [hde]
                have HF : Hid (topoOkB ps ns = false) := by
                  refine Lib.hid ?_
                  rcases HD.out with ⟨h, _⟩ | ⟨l, hlk, hll, h, _⟩
                  · omega
                  · exact topo_uneven (a := j) (b := l) (by rw [HP.out]; exact hjlt) (by rw [HP.out]; omega) HLF.out hll (fun e => hde (by rw [e, h]))
                clear hde
                go_wp2_with (first | (go_at_call 132; refine (isLeaf_any _ _ _ _ _ _ HN.out RD1.out).mono ?_; rintro e w' ⟨rfl, rfl⟩; rw [hlf2]) | (go_at_call 133; refine (depth_any _ _ _ _ _ _ HN.out RD1.out HO.out hjlt).mono ?_; rintro e w' ⟨rfl, rfl⟩))
                go_ret
                exact ⟨ret_bool HF.out.symm, HBA.out⟩
        · have hj9 : j = k := by omega
          subst hj9
          have hev := deepOk_even HP.out HD.out h1 HO.out
          have HEV := Lib.hid hev
          clear hev
          go_wp2_with fail
          go_loopw [70] (fun i wr => ∃ x : Nat, x ≤ m ∧ i = .int .i64 x ∧ Below w1.heap.size w1 wr ∧ ∀ y q, y < x → ns[y]? = some q → nodeOk ps q = true) (fun i _ => m - (intOf i).toNat)
          case atStart => exact ⟨0, Nat.zero_le _, rfl, Below.refl _ _, fun y q hy _ => by omega⟩
          case round =>
            obtain ⟨x, hx, rfl, hb, hall⟩ := hrel
            have HAL := Lib.hid hall
            have HB := Lib.hid hb
            have xb0 := (hb.cell (p := ⟨w.heap.size, 0, none⟩) hsz).trans bx0
            have xb1 := (hb.cell (p := ⟨w.heap.size, 1, none⟩) hsz).trans bx1
            have hszr := Nat.lt_of_lt_of_le hsz hb.size
            clear hall hb
            by_cases hxlt : x < m
            · have hxlt' : (x : Int) < m := by omega
              obtain ⟨gb, q, rfl, hq, d0, d1, d2, d3⟩ := HQ.out.q hxlt
              have hgb := HL2.out gb rfl
              have BB : Below w.heap.size w wr := bstep HBA.out HB.out
              have D0 := (BB.cell (p := ⟨gb, x * 4, none⟩) hgb).trans d0
              have D1 := (BB.cell (p := ⟨gb, x * 4 + 1, none⟩) hgb).trans d1
              have D2 := (BB.cell (p := ⟨gb, x * 4 + 2, none⟩) hgb).trans d2
              have D3 := (BB.cell (p := ⟨gb, x * 4 + 3, none⟩) hgb).trans d3
              have hmem : q ∈ ns := List.mem_of_getElem? hq
              have HMEM := Lib.hid hmem
              have HBB := Lib.hid BB
              have HGQ := Lib.hid hq
              have hn9 : IntKind.i64.wrap ((j : Int) - 1) = (j : Int) - 1 := IntWalk.i64_in _ (by omega)
              have RDR := Lib.hid (HR.out.below HL.out BB)
              clear d0 d1 d2 d3 hmem BB hq
              by_cases hrg : 0 ≤ q.t ∧ q.t < j
              · have hin3 : inB q.t 0 ((j : Int) - 1) = true := by simp [inB]; omega
                cases hlf : leafI ps q.t
                · have HF := Lib.hid (topo_node (ps := ps) HMEM.out (show nodeOk ps q = false by unfold nodeOk; rw [hlf]; simp))
                  go_wp2_with (first | (go_at_call 104; refine (within_any _ _ _ _).mono ?_; rintro e w' ⟨rfl, rfl⟩; rw [hin3]) | (go_at_call 132; refine (isLeaf_any _ _ _ _ _ _ HN.out (RDR.out.below (lt_below HL.out HBB.out) (below_alloc _ _))).mono ?_; rintro e w' ⟨rfl, rfl⟩; rw [hlf]))
                  go_ret
                  exact ⟨ret_bool HF.out.symm, (by repeat (first | exact Below.refl _ _ | assumption | exact bstep (by assumption) (by assumption) | (refine bstep ?_ (below_alloc _ _)) | (refine bstep ?_ (by assumption)) | (refine Below.setCell ?_ (by simp <;> omega) _) | refine Below.drew ?_))⟩
                · cases hvo : vecOkB q.a q.b q.c
                  · have HF := Lib.hid (topo_node (ps := ps) HMEM.out (show nodeOk ps q = false by unfold nodeOk; rw [hvo]; simp))
                    go_wp2_with (first | (go_at_call 104; refine (within_any _ _ _ _).mono ?_; rintro e w' ⟨rfl, rfl⟩; rw [hin3]) | (go_at_call 132; refine (isLeaf_any _ _ _ _ _ _ HN.out (RDR.out.below (lt_below HL.out HBB.out) (below_alloc _ _))).mono ?_; rintro e w' ⟨rfl, rfl⟩; rw [hlf]) | (go_at_call 106; refine (vecOk_raw _ _ _ _).mono ?_; rintro e w5 ⟨rfl, hb5⟩; rw [hvo]))
                    go_ret
                    exact ⟨ret_bool HF.out.symm, (by repeat (first | exact Below.refl _ _ | assumption | exact bstep (by assumption) (by assumption) | (refine bstep ?_ (below_alloc _ _)) | (refine bstep ?_ (by assumption)) | (refine Below.setCell ?_ (by simp <;> omega) _) | refine Below.drew ?_))⟩
                  · have HNO : Hid (nodeOk ps q = true) := by
                      refine Lib.hid ?_
                      unfold nodeOk
                      rw [hvo, hlf, HP.out]
                      simp; omega
                    go_wp2_with (first | (go_at_call 104; refine (within_any _ _ _ _).mono ?_; rintro e w' ⟨rfl, rfl⟩; rw [hin3]) | (go_at_call 132; refine (isLeaf_any _ _ _ _ _ _ HN.out (RDR.out.below (lt_below HL.out HBB.out) (below_alloc _ _))).mono ?_; rintro e w' ⟨rfl, rfl⟩; rw [hlf]) | (go_at_call 106; refine (vecOk_raw _ _ _ _).mono ?_; rintro e w5 ⟨rfl, hb5⟩; rw [hvo]))
                    go_roundw
                    case rel =>
                      refine ⟨x + 1, by omega, by go_num, (by repeat (first | exact Below.refl _ _ | assumption | exact bstep (by assumption) (by assumption) | (refine bstep ?_ (below_alloc _ _)) | (refine bstep ?_ (by assumption)) | (refine Below.setCell ?_ (by simp <;> omega) _) | refine Below.drew ?_)), fun y q' hy hq' => ?_⟩
                      rcases Nat.lt_or_ge y x with h | h
                      · exact HAL.out y q' h hq'
                      · have : y = x := by omega
                        rw [this, HGQ.out] at hq'
                        injection hq' with hq'
                        rw [← hq']; exact HNO.out
                    case measure => simp [intOf]; omega
              · have hin3 : inB q.t 0 ((j : Int) - 1) = false := by
                  simp only [inB, Bool.and_eq_false_iff, decide_eq_false_iff_not]; omega
                have HF := Lib.hid (topo_node (ps := ps) HMEM.out (show nodeOk ps q = false by
                  unfold nodeOk
                  rw [HP.out]
                  rcases Classical.not_and_iff_not_or_not.1 hrg with h | h
                  · simp [h]
                  · simp [h]))
                clear hrg
                go_wp2_with (go_at_call 104; refine (within_any _ _ _ _).mono ?_; rintro e w' ⟨rfl, rfl⟩; rw [hin3])
                go_ret
                exact ⟨ret_bool HF.out.symm, bstep HBB.out (below_alloc _ _)⟩
            · have hx9 : x = m := by omega
              subst hx9
              have hfin := topo_all HP.out HQL.out h1 h24 H0.out hm24 HO.out (fun k q a b => HAL.out k q a b)
              rw [HEV.out] at hfin
              have HF := Lib.hid hfin
              clear hfin
              go_wp2
              go_ret
              exact ⟨ret_bool HF.out.symm, bstep HBA.out HB.out⟩
end Go.Proofs.Ytjnfdcojccgfoaa
