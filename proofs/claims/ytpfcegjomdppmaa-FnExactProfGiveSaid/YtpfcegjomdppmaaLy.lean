/-
  The law of FnExactProfGive.
-/
import Derived.Test.YtpfcegjomdppmaaPy
import Derived.Test.YtpfcegjomdppmaaA3
import Derived.Test.YtpfcegjomdppmaaA0
import Derived.StillTailTactics
import Derived.Deep.RegionWith
import Derived.Deep.RegionHeld3
import Derived.Deep.DeepCutAuto
namespace Go.Proofs.Ytpfcegjomdppmaa
set_option linter.unusedSimpArgs false
set_option linter.unusedVariables false
set_option linter.unnecessarySimpa false
open Go.RowKit
theorem own_blk2 {w : World} {lo : Nat} {e : TypeId} {size : Nat} {v : Value} {n : Nat} {xs : List Value} (h : w.ownsRow lo e size v n xs) : ∀ k, v.ownBlock = some k → k < w.heap.size := by
  intro k hk
  rcases h.2 with ⟨h0, _⟩ | ⟨g, cap, cur, hv, hg, hh, _⟩
  · subst h0; cases hk
  · subst hv; cases hk; exact heap_lt hh

set_option maxHeartbeats 4000000 in
theorem law_profGive_big (A : Option Addr) (n c : Nat) (lo hi : Int) (v : V) (w : World) (hn : n ≤ maxLen) (hb : ¬ n ≤ 1048576) :
    Calls Try.prog 6 #[.agg #[.slice A n c], .int .i64 lo, .int .i64 hi, .agg #[.int .i64 v.A, .int .i64 v.B, .int .i64 v.C]] w fun e w' => e = .returned (.bool true) ∧ Below w.heap.size w w' := by
  have hz : szOf 1048576 n = -1 := if_neg (by omega)
  have HN := Lib.hid hn
  have HZ := Lib.hid hz
  clear hn hb hz
  go_enter Try.func6, Try.ntmps6
  go_wp2_with fail
  refine (szProf_any A n c 1048576 _ (by omega) (by omega) HN.out).mono ?_
  rintro e w1 ⟨rfl, hb1⟩
  rw [HZ.out]
  go_wp2
  go_ret
  exact ⟨rfl, (by repeat (first | exact Below.refl _ _ | assumption | (refine bstep ?_ (below_drewN _ _)) | exact bstep (by assumption) (by assumption) | (refine bstep ?_ (below_alloc _ _)) | (refine bstep ?_ (by assumption)) | (refine Below.setCell ?_ (by simp <;> omega) _) | refine Below.drew ?_))⟩
set_option maxHeartbeats 16000000 in
set_option maxRecDepth 20000 in
theorem law_profGive_small (A : Option Addr) (n c : Nat) (ps : List Q) (lo hi : Int) (v : V) (w : World) (hn : n ≤ 1048576) (hr : RdE w A n ps) :
    Calls Try.prog 6 #[.agg #[.slice A n c], .int .i64 lo, .int .i64 hi, .agg #[.int .i64 v.A, .int .i64 v.B, .int .i64 v.C]] w fun e w' => e = .returned (.bool true) ∧ Below w.heap.size w w' := by
  have hz : ¬ szOf 1048576 n < 0 := by unfold szOf; split <;> omega
  have HN := Lib.hid hn
  have HR := Lib.hid hr
  clear hn hr
  obtain ⟨TV, hTV⟩ : ∃ y, y = gvV ps lo hi v := ⟨_, rfl⟩
  obtain ⟨TB, hTB⟩ : ∃ y, y = giveB ps lo hi v := ⟨_, rfl⟩
  have hTL : TV.length ≤ 1048577 := by
    rw [hTV]; unfold gvV
    split
    · rename_i h; unfold giveB at h; simp only [Bool.and_eq_true, decide_eq_true_eq] at h; omega
    · simp
  have HLE := Lib.hid hTL
  have HSC : Hid (∀ (A' : Option Addr) (c' : Nat) (W : World), Rd W A' n 4 (flat ps) → (∀ g, A' = some ⟨g, 0, none⟩ → g < W.heap.size) → Calls Try.prog 36 #[.agg #[.slice A' n c'], .int .i64 lo, .int .i64 hi, .agg #[.int .i64 v.A, .int .i64 v.B, .int .i64 v.C]] W fun e W' => ∃ u, e = .returned (.tuple #[.agg #[u], .bool TB]) ∧ W'.ownsRow W.heap.size 138 4 u TV.length (flat TV) ∧ Below W.heap.size W W') := Lib.hid (fun A' c' W h1 h2 => by rw [hTV, hTB]; exact sgive_any A' n c' ps lo hi v W HN.out h1 h2)
  have HIC : Hid (∀ (A' : Option Addr) (c' : Nat) (W : World), Rd W A' n 4 (flat ps) → (∀ g, A' = some ⟨g, 0, none⟩ → g < W.heap.size) → Calls Try.prog 38 #[.agg #[.slice A' n c'], .int .i64 lo, .int .i64 hi, .agg #[.int .i64 v.A, .int .i64 v.B, .int .i64 v.C]] W fun e W' => ∃ u, e = .returned (.tuple #[.agg #[u], .bool TB]) ∧ W'.ownsRow W.heap.size 138 4 u TV.length (flat TV) ∧ Below W.heap.size W W') := Lib.hid (fun A' c' W h1 h2 => by rw [hTV, hTB]; exact give_any A' n c' ps lo hi v W HN.out h1 h2)
  clear hTV hTB hTL
  go_enter Try.func6, Try.ntmps6
  go_wp2_with fail
  refine (szProf_any A n c 1048576 _ (by omega) (by omega) (Nat.le_trans HN.out (by decide))).mono ?_
  rintro e w1 ⟨rfl, hb1⟩
  have hs1 := hb1.size
  (try simp at hs1)
  have hy1_0 : w.heap.size < w1.heap.size := by omega
  have hk1_0 := fun o => hb1.cell (p := ⟨w.heap.size, o, none⟩) (by first | omega | (simp <;> omega))
  have hg1_0 := fun o => hb1.frozen (p := ⟨w.heap.size, o, none⟩) (by first | omega | (simp <;> omega))
  have hy1_1 : w.heap.size + 1 < w1.heap.size := by omega
  have hk1_1 := fun o => hb1.cell (p := ⟨w.heap.size + 1, o, none⟩) (by first | omega | (simp <;> omega))
  have hg1_1 := fun o => hb1.frozen (p := ⟨w.heap.size + 1, o, none⟩) (by first | omega | (simp <;> omega))
  go_wp2_with fail
  go_cut [10, 11] (fun p9 q9 wr => ∃ (bw : Nat) (U : Option Addr) (cu : Nat), p9 = .pointer (some ⟨bw, 0, none⟩) ∧ q9 = .bool TB ∧ wr.cell? ⟨bw, 0, none⟩ = some (.slice U (TV).length cu) ∧ w1.heap.size ≤ bw ∧ bw < wr.heap.size ∧ wr.ownsRow (w1.heap.size) 138 4 (.slice U (TV).length cu) (TV).length (flat (TV)) ∧ (∀ k, atB U k → k ≠ bw) ∧ Below (w1).heap.size (w1) wr)
  case first =>
    go_region_held3 (fun w' => w'.cell? ⟨w.heap.size, 0, none⟩ = some (.slice A n c) ∧ w'.cell? ⟨w.heap.size + 1, 0, none⟩ = some (.int .i64 v.A) ∧ w'.cell? ⟨w.heap.size + 1, 1, none⟩ = some (.int .i64 v.B) ∧ w'.cell? ⟨w.heap.size + 1, 2, none⟩ = some (.int .i64 v.C)) (simp [go_sem, *, World.cell?_alloc_some, World.cell?_setCell_far, Nat.lt_add_right, Nat.ne_of_gt]) (first | (go_at_call 37; refine (toProf_any A n c ps _ HN.out (HR.out.below (by repeat (first | exact Below.refl _ _ | assumption | (refine bstep ?_ (below_drewN _ _)) | exact bstep (by assumption) (by assumption) | (refine bstep ?_ (below_alloc _ _)) | (refine bstep ?_ (by assumption)) | (refine Below.setCell ?_ (by simp <;> omega) _) | refine Below.drew ?_ | (refine Below.trans ?_ (by assumption)))))).mono ?_; rintro e y101 ⟨v101, rfl, own101, hb101⟩; have hs101 := hb101.size; (try simp at hs101); have hy101_0 : w.heap.size < y101.heap.size := (by omega); have hk101_0 := fun o => hb101.cell (p := ⟨w.heap.size, o, none⟩) (by first | omega | (simp <;> omega)); have hy101_1 : w.heap.size + 1 < y101.heap.size := (by omega); have hk101_1 := fun o => hb101.cell (p := ⟨w.heap.size + 1, o, none⟩) (by first | omega | (simp <;> omega)); (try (have hx1010 : w1.heap.size < y101.heap.size := (by omega); have hm1010 := fun o => hb101.cell (p := ⟨w1.heap.size, o, none⟩) (by first | omega | (simp <;> omega)); have hn1010 := fun o => hb101.frozen (p := ⟨w1.heap.size, o, none⟩) (by first | omega | (simp <;> omega)))); obtain ⟨A101, c101, rfl, rd101⟩ := own_rd own101; have RD101 := Lib.hid rd101; have HL101 := Lib.hid (own_blk own101); clear rd101 own101) | (go_at_call 21; refine (toVec_raw v.A v.B v.C _).mono ?_; rintro e y102 ⟨rfl, hb102⟩; have hs102 := hb102.size; (try simp at hs102); have hy102_0 : w.heap.size < y102.heap.size := (by omega); have hk102_0 := fun o => hb102.cell (p := ⟨w.heap.size, o, none⟩) (by first | omega | (simp <;> omega)); have hy102_1 : w.heap.size + 1 < y102.heap.size := (by omega); have hk102_1 := fun o => hb102.cell (p := ⟨w.heap.size + 1, o, none⟩) (by first | omega | (simp <;> omega)); (try (have hx1020 : w1.heap.size < y102.heap.size := (by omega); have hm1020 := fun o => hb102.cell (p := ⟨w1.heap.size, o, none⟩) (by first | omega | (simp <;> omega)); have hn1020 := fun o => hb102.frozen (p := ⟨w1.heap.size, o, none⟩) (by first | omega | (simp <;> omega)))); (try (have hx1021 : y101.heap.size < y102.heap.size := (by omega); have hm1021 := fun o => hb102.cell (p := ⟨y101.heap.size, o, none⟩) (by first | omega | (simp <;> omega)); have hn1021 := fun o => hb102.frozen (p := ⟨y101.heap.size, o, none⟩) (by first | omega | (simp <;> omega))))) | (go_at_call 36; refine (HSC.out A101 c101 _ (RD101.out.below HL101.out (by repeat (first | exact Below.refl _ _ | assumption | (refine bstep ?_ (below_drewN _ _)) | exact bstep (by assumption) (by assumption) | (refine bstep ?_ (below_alloc _ _)) | (refine bstep ?_ (by assumption)) | (refine Below.setCell ?_ (by simp <;> omega) _) | refine Below.drew ?_ | (refine Below.trans ?_ (by assumption))))) (lt_below HL101.out (by repeat (first | exact Below.refl _ _ | assumption | (refine bstep ?_ (below_drewN _ _)) | exact bstep (by assumption) (by assumption) | (refine bstep ?_ (below_alloc _ _)) | (refine bstep ?_ (by assumption)) | (refine Below.setCell ?_ (by simp <;> omega) _) | refine Below.drew ?_ | (refine Below.trans ?_ (by assumption)))))).mono ?_; rintro e y103 ⟨v103, rfl, own103, hb103⟩; have hs103 := hb103.size; (try simp at hs103); have hy103_0 : w.heap.size < y103.heap.size := (by omega); have hk103_0 := fun o => hb103.cell (p := ⟨w.heap.size, o, none⟩) (by first | omega | (simp <;> omega)); have hy103_1 : w.heap.size + 1 < y103.heap.size := (by omega); have hk103_1 := fun o => hb103.cell (p := ⟨w.heap.size + 1, o, none⟩) (by first | omega | (simp <;> omega)); (try (have hx1030 : w1.heap.size < y103.heap.size := (by omega); have hm1030 := fun o => hb103.cell (p := ⟨w1.heap.size, o, none⟩) (by first | omega | (simp <;> omega)); have hn1030 := fun o => hb103.frozen (p := ⟨w1.heap.size, o, none⟩) (by first | omega | (simp <;> omega)))); (try (have hx1031 : y101.heap.size < y103.heap.size := (by omega); have hm1031 := fun o => hb103.cell (p := ⟨y101.heap.size, o, none⟩) (by first | omega | (simp <;> omega)); have hn1031 := fun o => hb103.frozen (p := ⟨y101.heap.size, o, none⟩) (by first | omega | (simp <;> omega)))); (try (have hx1032 : y102.heap.size < y103.heap.size := (by omega); have hm1032 := fun o => hb103.cell (p := ⟨y102.heap.size, o, none⟩) (by first | omega | (simp <;> omega)); have hn1032 := fun o => hb103.frozen (p := ⟨y102.heap.size, o, none⟩) (by first | omega | (simp <;> omega)))); obtain ⟨A103, c103, rfl, rd103⟩ := own_rd own103; have OW103 := Lib.hid own103; clear rd103 own103))
    all_goals (go_wp2; go_meet)
    all_goals (case rel => (refine ⟨_, A103, c103, rfl, rfl, ?_, ?_, ?_, ?_, ?_, ?_⟩; (· (simp [go_sem, *, World.cell?_alloc_some, World.cell?_setCell_far, Nat.lt_add_right, Nat.ne_of_gt]; done)); (· (first | omega | (simp <;> omega))); (· (first | omega | (simp <;> omega))); (· (first | exact own_mono OW103.out (by first | omega | (simp <;> omega)) | exact own_mono (own_bel OW103.out (below_alloc _ _)) (by first | omega | (simp <;> omega)) | exact own_mono (own_set OW103.out (fun k hk => by have h8 := own_ge OW103.out k hk; have h9 := own_blk2 OW103.out k hk; (try simp at h8); (try simp at h9); (try dsimp only); omega) _) (by first | omega | (simp <;> omega)))); (· exact fun k hk => by have h8 := own_rng OW103.out k hk; (try simp at h8); omega); (· exact (by repeat (first | exact Below.refl _ _ | assumption | (refine bstep ?_ (below_drewN _ _)) | exact bstep (by assumption) (by assumption) | (refine bstep ?_ (below_alloc _ _)) | (refine bstep ?_ (by assumption)) | (refine Below.setCell ?_ (by simp <;> omega) _) | refine Below.drew ?_ | (refine Below.trans ?_ (by assumption)))))))
  case rest =>
    obtain ⟨w2, rfl⟩ : ∃ x, x = wc := ⟨wc, rfl⟩
    obtain ⟨b2, U2, c2, rfl, rfl, hc2, hl2, hu2, own2, hne2, hb2⟩ := hcut
    have hs2 := hb2.size
    (try simp at hs2)
    (try simp at hl2)
    have hy2_0 : w.heap.size < w2.heap.size := by omega
    have hk2_0 := fun o => hb2.cell (p := ⟨w.heap.size, o, none⟩) (by first | omega | (simp <;> omega))
    have hy2_1 : w.heap.size + 1 < w2.heap.size := by omega
    have hk2_1 := fun o => hb2.cell (p := ⟨w.heap.size + 1, o, none⟩) (by first | omega | (simp <;> omega))
    have RD2 := Lib.hid (own_rdd' own2)
    have HLs2 := Lib.hid (own_blk own2)
    have RG2 : Hid (∀ k, atB U2 k → w1.heap.size ≤ k ∧ k < w2.heap.size ∧ k ≠ b2) := Lib.hid (fun k hk => ⟨by have h9 := (own_rng own2 k hk).1; (try simp at h9); omega, (own_rng own2 k hk).2, hne2 k hk⟩)
    clear hne2
    have OW2 := Lib.hid own2
    clear own2
    go_wp2_with fail
    refine (toProf_any A n c ps _ HN.out (HR.out.below (by repeat (first | exact Below.refl _ _ | assumption | (refine bstep ?_ (below_drewN _ _)) | exact bstep (by assumption) (by assumption) | (refine bstep ?_ (below_alloc _ _)) | (refine bstep ?_ (by assumption)) | (refine Below.setCell ?_ (by simp <;> omega) _) | refine Below.drew ?_ | (refine Below.trans ?_ (by assumption)))))).mono ?_
    rintro e w3 ⟨v3, rfl, own3, hb3⟩
    have hs3 := hb3.size
    (try simp at hs3)
    have hy3_0 : w.heap.size < w3.heap.size := by omega
    have hk3_0 := fun o => hb3.cell (p := ⟨w.heap.size, o, none⟩) (by first | omega | (simp <;> omega))
    have hg3_0 := fun o => hb3.frozen (p := ⟨w.heap.size, o, none⟩) (by first | omega | (simp <;> omega))
    have hy3_1 : w.heap.size + 1 < w3.heap.size := by omega
    have hk3_1 := fun o => hb3.cell (p := ⟨w.heap.size + 1, o, none⟩) (by first | omega | (simp <;> omega))
    have hg3_1 := fun o => hb3.frozen (p := ⟨w.heap.size + 1, o, none⟩) (by first | omega | (simp <;> omega))
    have hy3_2 : b2 < w3.heap.size := by omega
    have hk3_2 := fun o => hb3.cell (p := ⟨b2, o, none⟩) (by first | omega | (simp <;> omega))
    have hg3_2 := fun o => hb3.frozen (p := ⟨b2, o, none⟩) (by first | omega | (simp <;> omega))
    obtain ⟨A3, c3, rfl, rd_A3⟩ := own_rd own3
    have RDA3 := Lib.hid rd_A3
    have HLA3 := Lib.hid (own_blk own3)
    have RGA3 : Hid (∀ k, atB A3 k → w2.heap.size ≤ k ∧ k < w3.heap.size) := Lib.hid (fun k hk => ⟨by have h9 := (own_rng own3 k hk).1; (try simp at h9); omega, (own_rng own3 k hk).2⟩)
    have OWA3 := Lib.hid own3
    clear rd_A3 own3
    go_wp2_with fail
    go_cut [13, 14] (fun p9 q9 wr => ∃ (bw : Nat) (U : Option Addr) (cu : Nat), p9 = .pointer (some ⟨bw, 0, none⟩) ∧ q9 = .bool TB ∧ wr.cell? ⟨bw, 0, none⟩ = some (.slice U (TV).length cu) ∧ w3.heap.size + 1 ≤ bw ∧ bw < wr.heap.size ∧ wr.ownsRow (w3.heap.size + 1) 138 4 (.slice U (TV).length cu) (TV).length (flat (TV)) ∧ (∀ k, atB U k → k ≠ bw) ∧ Below (w3.alloc (.cells #[.slice A3 n c3] 53)).heap.size (w3.alloc (.cells #[.slice A3 n c3] 53)) wr)
    case first =>
      go_region_held3 (fun w' => w'.cell? ⟨w3.heap.size, 0, none⟩ = some (.slice A3 n c3) ∧ w'.cell? ⟨w.heap.size + 1, 0, none⟩ = some (.int .i64 v.A) ∧ w'.cell? ⟨w.heap.size + 1, 1, none⟩ = some (.int .i64 v.B) ∧ w'.cell? ⟨w.heap.size + 1, 2, none⟩ = some (.int .i64 v.C)) (simp [go_sem, *, World.cell?_alloc_some, World.cell?_setCell_far, Nat.lt_add_right, Nat.ne_of_gt]) (first | (go_at_call 21; refine (toVec_raw v.A v.B v.C _).mono ?_; rintro e y102 ⟨rfl, hb102⟩; have hs102 := hb102.size; (try simp at hs102); have hy102_0 : w.heap.size < y102.heap.size := (by omega); have hk102_0 := fun o => hb102.cell (p := ⟨w.heap.size, o, none⟩) (by first | omega | (simp <;> omega)); have hy102_1 : w.heap.size + 1 < y102.heap.size := (by omega); have hk102_1 := fun o => hb102.cell (p := ⟨w.heap.size + 1, o, none⟩) (by first | omega | (simp <;> omega)); have hy102_2 : b2 < y102.heap.size := (by omega); have hk102_2 := fun o => hb102.cell (p := ⟨b2, o, none⟩) (by first | omega | (simp <;> omega)); have hy102_3 : w3.heap.size < y102.heap.size := (by omega); have hk102_3 := fun o => hb102.cell (p := ⟨w3.heap.size, o, none⟩) (by first | omega | (simp <;> omega)); (try (have hx1020 : w3.heap.size + 1 < y102.heap.size := (by omega); have hm1020 := fun o => hb102.cell (p := ⟨w3.heap.size + 1, o, none⟩) (by first | omega | (simp <;> omega)); have hn1020 := fun o => hb102.frozen (p := ⟨w3.heap.size + 1, o, none⟩) (by first | omega | (simp <;> omega))))) | (go_at_call 38; refine (HIC.out A3 c3 _ (RDA3.out.below HLA3.out (by repeat (first | exact Below.refl _ _ | assumption | (refine bstep ?_ (below_drewN _ _)) | exact bstep (by assumption) (by assumption) | (refine bstep ?_ (below_alloc _ _)) | (refine bstep ?_ (by assumption)) | (refine Below.setCell ?_ (by simp <;> omega) _) | refine Below.drew ?_))) (lt_below HLA3.out (by repeat (first | exact Below.refl _ _ | assumption | (refine bstep ?_ (below_drewN _ _)) | exact bstep (by assumption) (by assumption) | (refine bstep ?_ (below_alloc _ _)) | (refine bstep ?_ (by assumption)) | (refine Below.setCell ?_ (by simp <;> omega) _) | refine Below.drew ?_)))).mono ?_; rintro e y103 ⟨v103, rfl, own103, hb103⟩; have hs103 := hb103.size; (try simp at hs103); have hy103_0 : w.heap.size < y103.heap.size := (by omega); have hk103_0 := fun o => hb103.cell (p := ⟨w.heap.size, o, none⟩) (by first | omega | (simp <;> omega)); have hy103_1 : w.heap.size + 1 < y103.heap.size := (by omega); have hk103_1 := fun o => hb103.cell (p := ⟨w.heap.size + 1, o, none⟩) (by first | omega | (simp <;> omega)); have hy103_2 : b2 < y103.heap.size := (by omega); have hk103_2 := fun o => hb103.cell (p := ⟨b2, o, none⟩) (by first | omega | (simp <;> omega)); have hy103_3 : w3.heap.size < y103.heap.size := (by omega); have hk103_3 := fun o => hb103.cell (p := ⟨w3.heap.size, o, none⟩) (by first | omega | (simp <;> omega)); (try (have hx1030 : w3.heap.size + 1 < y103.heap.size := (by omega); have hm1030 := fun o => hb103.cell (p := ⟨w3.heap.size + 1, o, none⟩) (by first | omega | (simp <;> omega)); have hn1030 := fun o => hb103.frozen (p := ⟨w3.heap.size + 1, o, none⟩) (by first | omega | (simp <;> omega)))); (try (have hx1031 : y102.heap.size < y103.heap.size := (by omega); have hm1031 := fun o => hb103.cell (p := ⟨y102.heap.size, o, none⟩) (by first | omega | (simp <;> omega)); have hn1031 := fun o => hb103.frozen (p := ⟨y102.heap.size, o, none⟩) (by first | omega | (simp <;> omega)))); obtain ⟨A103, c103, rfl, rd103⟩ := own_rd own103; have OW103 := Lib.hid own103; clear rd103 own103))
      all_goals (go_wp2; go_meet)
      all_goals (case rel => (refine ⟨_, A103, c103, rfl, rfl, ?_, ?_, ?_, ?_, ?_, ?_⟩; (· (simp [go_sem, *, World.cell?_alloc_some, World.cell?_setCell_far, Nat.lt_add_right, Nat.ne_of_gt]; done)); (· (first | omega | (simp <;> omega))); (· (first | omega | (simp <;> omega))); (· (first | exact own_mono OW103.out (by first | omega | (simp <;> omega)) | exact own_mono (own_bel OW103.out (below_alloc _ _)) (by first | omega | (simp <;> omega)) | exact own_mono (own_set OW103.out (fun k hk => by have h8 := own_ge OW103.out k hk; have h9 := own_blk2 OW103.out k hk; (try simp at h8); (try simp at h9); (try dsimp only); omega) _) (by first | omega | (simp <;> omega)))); (· exact fun k hk => by have h8 := own_rng OW103.out k hk; (try simp at h8); omega); (· exact (by repeat (first | exact Below.refl _ _ | assumption | (refine bstep ?_ (below_drewN _ _)) | exact bstep (by assumption) (by assumption) | (refine bstep ?_ (below_alloc _ _)) | (refine bstep ?_ (by assumption)) | (refine Below.setCell ?_ (by simp <;> omega) _) | refine Below.drew ?_ | (refine Below.trans ?_ (by assumption)))))))
    case rest =>
      obtain ⟨w4, rfl⟩ : ∃ x, x = wc := ⟨wc, rfl⟩
      obtain ⟨b4, U4, c4, rfl, rfl, hc4, hl4, hu4, own4, hne4, hb4⟩ := hcut
      have hs4 := hb4.size
      (try simp at hs4)
      (try simp at hl4)
      have hy4_0 : w.heap.size < w4.heap.size := by omega
      have hk4_0 := fun o => hb4.cell (p := ⟨w.heap.size, o, none⟩) (by first | omega | (simp <;> omega))
      have hy4_1 : w.heap.size + 1 < w4.heap.size := by omega
      have hk4_1 := fun o => hb4.cell (p := ⟨w.heap.size + 1, o, none⟩) (by first | omega | (simp <;> omega))
      have hy4_2 : b2 < w4.heap.size := by omega
      have hk4_2 := fun o => hb4.cell (p := ⟨b2, o, none⟩) (by first | omega | (simp <;> omega))
      have hy4_3 : w3.heap.size < w4.heap.size := by omega
      have hk4_3 := fun o => hb4.cell (p := ⟨w3.heap.size, o, none⟩) (by first | omega | (simp <;> omega))
      have RD4 := Lib.hid (own_rdd' own4)
      have HLs4 := Lib.hid (own_blk own4)
      have RG4 : Hid (∀ k, atB U4 k → w3.heap.size + 1 ≤ k ∧ k < w4.heap.size ∧ k ≠ b4) := Lib.hid (fun k hk => ⟨by have h9 := (own_rng own4 k hk).1; (try simp at h9); omega, (own_rng own4 k hk).2, hne4 k hk⟩)
      clear hne4
      have OW4 := Lib.hid own4
      clear own4
      go_wp2_with fail
      refine (eqProf_any U4 U2 _ c4 c2 (TV) _ HLE.out (RD4.out.below HLs4.out (by repeat (first | exact Below.refl _ _ | assumption | (refine bstep ?_ (below_drewN _ _)) | exact bstep (by assumption) (by assumption) | (refine bstep ?_ (below_alloc _ _)) | (refine bstep ?_ (by assumption)) | (refine Below.setCell ?_ (by simp <;> omega) _) | refine Below.drew ?_))) (RD2.out.below HLs2.out (by repeat (first | exact Below.refl _ _ | assumption | (refine bstep ?_ (below_drewN _ _)) | exact bstep (by assumption) (by assumption) | (refine bstep ?_ (below_alloc _ _)) | (refine bstep ?_ (by assumption)) | (refine Below.setCell ?_ (by simp <;> omega) _) | refine Below.drew ?_))) (lt_below HLs4.out (by repeat (first | exact Below.refl _ _ | assumption | (refine bstep ?_ (below_drewN _ _)) | exact bstep (by assumption) (by assumption) | (refine bstep ?_ (below_alloc _ _)) | (refine bstep ?_ (by assumption)) | (refine Below.setCell ?_ (by simp <;> omega) _) | refine Below.drew ?_))) (lt_below HLs2.out (by repeat (first | exact Below.refl _ _ | assumption | (refine bstep ?_ (below_drewN _ _)) | exact bstep (by assumption) (by assumption) | (refine bstep ?_ (below_alloc _ _)) | (refine bstep ?_ (by assumption)) | (refine Below.setCell ?_ (by simp <;> omega) _) | refine Below.drew ?_)))).mono ?_
      rintro e w5 ⟨rfl, hb5⟩
      have hs5 := hb5.size
      (try simp at hs5)
      have hy5_0 : w.heap.size < w5.heap.size := by omega
      have hk5_0 := fun o => hb5.cell (p := ⟨w.heap.size, o, none⟩) (by first | omega | (simp <;> omega))
      have hg5_0 := fun o => hb5.frozen (p := ⟨w.heap.size, o, none⟩) (by first | omega | (simp <;> omega))
      have hy5_1 : w.heap.size + 1 < w5.heap.size := by omega
      have hk5_1 := fun o => hb5.cell (p := ⟨w.heap.size + 1, o, none⟩) (by first | omega | (simp <;> omega))
      have hg5_1 := fun o => hb5.frozen (p := ⟨w.heap.size + 1, o, none⟩) (by first | omega | (simp <;> omega))
      have hy5_2 : b2 < w5.heap.size := by omega
      have hk5_2 := fun o => hb5.cell (p := ⟨b2, o, none⟩) (by first | omega | (simp <;> omega))
      have hg5_2 := fun o => hb5.frozen (p := ⟨b2, o, none⟩) (by first | omega | (simp <;> omega))
      have hy5_3 : w3.heap.size < w5.heap.size := by omega
      have hk5_3 := fun o => hb5.cell (p := ⟨w3.heap.size, o, none⟩) (by first | omega | (simp <;> omega))
      have hg5_3 := fun o => hb5.frozen (p := ⟨w3.heap.size, o, none⟩) (by first | omega | (simp <;> omega))
      have hy5_4 : b4 < w5.heap.size := by omega
      have hk5_4 := fun o => hb5.cell (p := ⟨b4, o, none⟩) (by first | omega | (simp <;> omega))
      have hg5_4 := fun o => hb5.frozen (p := ⟨b4, o, none⟩) (by first | omega | (simp <;> omega))
      go_wp2_with fail
      go_region_held3 (fun w' => w'.cell? ⟨w.heap.size, 0, none⟩ = some (.slice A n c) ∧ w'.cell? ⟨w3.heap.size, 0, none⟩ = some (.slice A3 n c3)) (simp [go_sem, *, World.cell?_alloc_some, World.cell?_setCell_far, Nat.lt_add_right, Nat.ne_of_gt]) (first | (go_at_call 37; refine (toProf_any A n c ps _ HN.out (HR.out.below (by repeat (first | exact Below.refl _ _ | assumption | (refine bstep ?_ (below_drewN _ _)) | exact bstep (by assumption) (by assumption) | (refine bstep ?_ (below_alloc _ _)) | (refine bstep ?_ (by assumption)) | (refine Below.setCell ?_ (by simp <;> omega) _) | refine Below.drew ?_ | (refine Below.trans ?_ (by assumption)))))).mono ?_; rintro e w6 ⟨v6, rfl, own6, hb6⟩; have hs6 := hb6.size; (try simp at hs6); have hy6_0 : w.heap.size < w6.heap.size := (by omega); have hk6_0 := fun o => hb6.cell (p := ⟨w.heap.size, o, none⟩) (by first | omega | (simp <;> omega)); have hg6_0 := fun o => hb6.frozen (p := ⟨w.heap.size, o, none⟩) (by first | omega | (simp <;> omega)); have hy6_1 : w.heap.size + 1 < w6.heap.size := (by omega); have hk6_1 := fun o => hb6.cell (p := ⟨w.heap.size + 1, o, none⟩) (by first | omega | (simp <;> omega)); have hg6_1 := fun o => hb6.frozen (p := ⟨w.heap.size + 1, o, none⟩) (by first | omega | (simp <;> omega)); have hy6_2 : b2 < w6.heap.size := (by omega); have hk6_2 := fun o => hb6.cell (p := ⟨b2, o, none⟩) (by first | omega | (simp <;> omega)); have hg6_2 := fun o => hb6.frozen (p := ⟨b2, o, none⟩) (by first | omega | (simp <;> omega)); have hy6_3 : w3.heap.size < w6.heap.size := (by omega); have hk6_3 := fun o => hb6.cell (p := ⟨w3.heap.size, o, none⟩) (by first | omega | (simp <;> omega)); have hg6_3 := fun o => hb6.frozen (p := ⟨w3.heap.size, o, none⟩) (by first | omega | (simp <;> omega)); have hy6_4 : b4 < w6.heap.size := (by omega); have hk6_4 := fun o => hb6.cell (p := ⟨b4, o, none⟩) (by first | omega | (simp <;> omega)); have hg6_4 := fun o => hb6.frozen (p := ⟨b4, o, none⟩) (by first | omega | (simp <;> omega)); obtain ⟨A6, c6, rfl, rd_A6⟩ := own_rd own6; have RDA6 := Lib.hid rd_A6; have HLA6 := Lib.hid (own_blk own6); have OWA6 := Lib.hid own6; clear rd_A6 own6) | (go_at_call 39; refine (eqProf_any A3 A6 n c3 c6 ps _ (Nat.le_succ_of_le HN.out) (RDA3.out.below HLA3.out (by repeat (first | exact Below.refl _ _ | assumption | (refine bstep ?_ (below_drewN _ _)) | exact bstep (by assumption) (by assumption) | (refine bstep ?_ (below_alloc _ _)) | (refine bstep ?_ (by assumption)) | (refine Below.setCell ?_ (by simp <;> omega) _) | refine Below.drew ?_))) RDA6.out (lt_below HLA3.out (by repeat (first | exact Below.refl _ _ | assumption | (refine bstep ?_ (below_drewN _ _)) | exact bstep (by assumption) (by assumption) | (refine bstep ?_ (below_alloc _ _)) | (refine bstep ?_ (by assumption)) | (refine Below.setCell ?_ (by simp <;> omega) _) | refine Below.drew ?_))) HLA6.out).mono ?_; rintro e w7 ⟨rfl, hb7⟩; have hs7 := hb7.size; (try simp at hs7); have hy7_0 : w.heap.size < w7.heap.size := (by omega); have hk7_0 := fun o => hb7.cell (p := ⟨w.heap.size, o, none⟩) (by first | omega | (simp <;> omega)); have hg7_0 := fun o => hb7.frozen (p := ⟨w.heap.size, o, none⟩) (by first | omega | (simp <;> omega)); have hy7_1 : w.heap.size + 1 < w7.heap.size := (by omega); have hk7_1 := fun o => hb7.cell (p := ⟨w.heap.size + 1, o, none⟩) (by first | omega | (simp <;> omega)); have hg7_1 := fun o => hb7.frozen (p := ⟨w.heap.size + 1, o, none⟩) (by first | omega | (simp <;> omega)); have hy7_2 : b2 < w7.heap.size := (by omega); have hk7_2 := fun o => hb7.cell (p := ⟨b2, o, none⟩) (by first | omega | (simp <;> omega)); have hg7_2 := fun o => hb7.frozen (p := ⟨b2, o, none⟩) (by first | omega | (simp <;> omega)); have hy7_3 : w3.heap.size < w7.heap.size := (by omega); have hk7_3 := fun o => hb7.cell (p := ⟨w3.heap.size, o, none⟩) (by first | omega | (simp <;> omega)); have hg7_3 := fun o => hb7.frozen (p := ⟨w3.heap.size, o, none⟩) (by first | omega | (simp <;> omega)); have hy7_4 : b4 < w7.heap.size := (by omega); have hk7_4 := fun o => hb7.cell (p := ⟨b4, o, none⟩) (by first | omega | (simp <;> omega)); have hg7_4 := fun o => hb7.frozen (p := ⟨b4, o, none⟩) (by first | omega | (simp <;> omega))))
      go_wp2_with fail
      refine (markProf_any A3 n c3 _ 1 _ (Nat.le_succ_of_le HN.out) (by omega) (by omega) ((own_wr2 OWA3.out).below (by repeat (first | exact Below.refl _ _ | assumption | (refine bstep ?_ (below_drewN _ _)) | exact bstep (by assumption) (by assumption) | (refine bstep ?_ (below_alloc _ _)) | (refine bstep ?_ (by assumption)) | (refine Below.setCell ?_ (by simp <;> omega) _) | refine Below.drew ?_)))).mono ?_
      rintro e w8 ⟨rfl, rd8, fr8⟩
      have hs8 := fr8.size
      (try simp at hs8)
      have hB8 : Below w.heap.size _ w8 := fr8.below (fun k hk => by have q9 := RGA3.out _ hk; omega) (by first | omega | (simp <;> omega))
      have hy8_0 : w.heap.size < w8.heap.size := by omega
      have hk8_0 := fun o => fr8.cell (b := w.heap.size) (by first | omega | (simp <;> omega)) (fun h => by have q9 := RGA3.out _ h; omega) o
      have hg8_0 := fun o => fr8.frozen (b := w.heap.size) (by first | omega | (simp <;> omega)) (fun h => by have q9 := RGA3.out _ h; omega) o
      have hy8_1 : w.heap.size + 1 < w8.heap.size := by omega
      have hk8_1 := fun o => fr8.cell (b := w.heap.size + 1) (by first | omega | (simp <;> omega)) (fun h => by have q9 := RGA3.out _ h; omega) o
      have hg8_1 := fun o => fr8.frozen (b := w.heap.size + 1) (by first | omega | (simp <;> omega)) (fun h => by have q9 := RGA3.out _ h; omega) o
      have hy8_2 : b2 < w8.heap.size := by omega
      have hk8_2 := fun o => fr8.cell (b := b2) (by first | omega | (simp <;> omega)) (fun h => by have q9 := RGA3.out _ h; omega) o
      have hg8_2 := fun o => fr8.frozen (b := b2) (by first | omega | (simp <;> omega)) (fun h => by have q9 := RGA3.out _ h; omega) o
      have hy8_3 : w3.heap.size < w8.heap.size := by omega
      have hk8_3 := fun o => fr8.cell (b := w3.heap.size) (by first | omega | (simp <;> omega)) (fun h => by have q9 := RGA3.out _ h; omega) o
      have hg8_3 := fun o => fr8.frozen (b := w3.heap.size) (by first | omega | (simp <;> omega)) (fun h => by have q9 := RGA3.out _ h; omega) o
      have hy8_4 : b4 < w8.heap.size := by omega
      have hk8_4 := fun o => fr8.cell (b := b4) (by first | omega | (simp <;> omega)) (fun h => by have q9 := RGA3.out _ h; omega) o
      have hg8_4 := fun o => fr8.frozen (b := b4) (by first | omega | (simp <;> omega)) (fun h => by have q9 := RGA3.out _ h; omega) o
      have RDU2_8 := Lib.hid (Rd.fr (RD2.out.below HLs2.out (by repeat (first | exact Below.refl _ _ | assumption | (refine bstep ?_ (below_drewN _ _)) | exact bstep (by assumption) (by assumption) | (refine bstep ?_ (below_alloc _ _)) | (refine bstep ?_ (by assumption)) | (refine Below.setCell ?_ (by simp <;> omega) _) | refine Below.drew ?_))) (lt_below HLs2.out (by repeat (first | exact Below.refl _ _ | assumption | (refine bstep ?_ (below_drewN _ _)) | exact bstep (by assumption) (by assumption) | (refine bstep ?_ (below_alloc _ _)) | (refine bstep ?_ (by assumption)) | (refine Below.setCell ?_ (by simp <;> omega) _) | refine Below.drew ?_))) fr8 (fun k h1 h2 => by have q1 := RG2.out k h1; have q9 := RGA3.out _ h2; omega))
      have HLU2_8 := Lib.hid (lt_fr (lt_below HLs2.out (by repeat (first | exact Below.refl _ _ | assumption | (refine bstep ?_ (below_drewN _ _)) | exact bstep (by assumption) (by assumption) | (refine bstep ?_ (below_alloc _ _)) | (refine bstep ?_ (by assumption)) | (refine Below.setCell ?_ (by simp <;> omega) _) | refine Below.drew ?_))) fr8)
      have WRU2_8 := Lib.hid (Wr.fr ((own_wr2 OW2.out).below (by repeat (first | exact Below.refl _ _ | assumption | (refine bstep ?_ (below_drewN _ _)) | exact bstep (by assumption) (by assumption) | (refine bstep ?_ (below_alloc _ _)) | (refine bstep ?_ (by assumption)) | (refine Below.setCell ?_ (by simp <;> omega) _) | refine Below.drew ?_))) fr8 (fun k h1 h2 => by have q1 := RG2.out k h1; have q9 := RGA3.out _ h2; omega))
      have RDU4_8 := Lib.hid (Rd.fr (RD4.out.below HLs4.out (by repeat (first | exact Below.refl _ _ | assumption | (refine bstep ?_ (below_drewN _ _)) | exact bstep (by assumption) (by assumption) | (refine bstep ?_ (below_alloc _ _)) | (refine bstep ?_ (by assumption)) | (refine Below.setCell ?_ (by simp <;> omega) _) | refine Below.drew ?_))) (lt_below HLs4.out (by repeat (first | exact Below.refl _ _ | assumption | (refine bstep ?_ (below_drewN _ _)) | exact bstep (by assumption) (by assumption) | (refine bstep ?_ (below_alloc _ _)) | (refine bstep ?_ (by assumption)) | (refine Below.setCell ?_ (by simp <;> omega) _) | refine Below.drew ?_))) fr8 (fun k h1 h2 => by have q1 := RG4.out k h1; have q9 := RGA3.out _ h2; omega))
      have HLU4_8 := Lib.hid (lt_fr (lt_below HLs4.out (by repeat (first | exact Below.refl _ _ | assumption | (refine bstep ?_ (below_drewN _ _)) | exact bstep (by assumption) (by assumption) | (refine bstep ?_ (below_alloc _ _)) | (refine bstep ?_ (by assumption)) | (refine Below.setCell ?_ (by simp <;> omega) _) | refine Below.drew ?_))) fr8)
      have WRU4_8 := Lib.hid (Wr.fr ((own_wr2 OW4.out).below (by repeat (first | exact Below.refl _ _ | assumption | (refine bstep ?_ (below_drewN _ _)) | exact bstep (by assumption) (by assumption) | (refine bstep ?_ (below_alloc _ _)) | (refine bstep ?_ (by assumption)) | (refine Below.setCell ?_ (by simp <;> omega) _) | refine Below.drew ?_))) fr8 (fun k h1 h2 => by have q1 := RG4.out k h1; have q9 := RGA3.out _ h2; omega))
      have RMA3 := Lib.hid rd8
      have HLA3_8 := Lib.hid (lt_fr (lt_below HLA3.out (by repeat (first | exact Below.refl _ _ | assumption | (refine bstep ?_ (below_drewN _ _)) | exact bstep (by assumption) (by assumption) | (refine bstep ?_ (below_alloc _ _)) | (refine bstep ?_ (by assumption)) | (refine Below.setCell ?_ (by simp <;> omega) _) | refine Below.drew ?_))) fr8)
      clear rd8
      go_wp2_with fail
      refine (eqProf_any U4 U2 _ c4 c2 (TV) _ HLE.out (RDU4_8.out.below HLU4_8.out (by repeat (first | exact Below.refl _ _ | assumption | (refine bstep ?_ (below_drewN _ _)) | exact bstep (by assumption) (by assumption) | (refine bstep ?_ (below_alloc _ _)) | (refine bstep ?_ (by assumption)) | (refine Below.setCell ?_ (by simp <;> omega) _) | refine Below.drew ?_))) (RDU2_8.out.below HLU2_8.out (by repeat (first | exact Below.refl _ _ | assumption | (refine bstep ?_ (below_drewN _ _)) | exact bstep (by assumption) (by assumption) | (refine bstep ?_ (below_alloc _ _)) | (refine bstep ?_ (by assumption)) | (refine Below.setCell ?_ (by simp <;> omega) _) | refine Below.drew ?_))) (lt_below HLU4_8.out (by repeat (first | exact Below.refl _ _ | assumption | (refine bstep ?_ (below_drewN _ _)) | exact bstep (by assumption) (by assumption) | (refine bstep ?_ (below_alloc _ _)) | (refine bstep ?_ (by assumption)) | (refine Below.setCell ?_ (by simp <;> omega) _) | refine Below.drew ?_))) (lt_below HLU2_8.out (by repeat (first | exact Below.refl _ _ | assumption | (refine bstep ?_ (below_drewN _ _)) | exact bstep (by assumption) (by assumption) | (refine bstep ?_ (below_alloc _ _)) | (refine bstep ?_ (by assumption)) | (refine Below.setCell ?_ (by simp <;> omega) _) | refine Below.drew ?_)))).mono ?_
      rintro e w9 ⟨rfl, hb9⟩
      have hs9 := hb9.size
      (try simp at hs9)
      have hy9_0 : w.heap.size < w9.heap.size := by omega
      have hk9_0 := fun o => hb9.cell (p := ⟨w.heap.size, o, none⟩) (by first | omega | (simp <;> omega))
      have hg9_0 := fun o => hb9.frozen (p := ⟨w.heap.size, o, none⟩) (by first | omega | (simp <;> omega))
      have hy9_1 : w.heap.size + 1 < w9.heap.size := by omega
      have hk9_1 := fun o => hb9.cell (p := ⟨w.heap.size + 1, o, none⟩) (by first | omega | (simp <;> omega))
      have hg9_1 := fun o => hb9.frozen (p := ⟨w.heap.size + 1, o, none⟩) (by first | omega | (simp <;> omega))
      have hy9_2 : b2 < w9.heap.size := by omega
      have hk9_2 := fun o => hb9.cell (p := ⟨b2, o, none⟩) (by first | omega | (simp <;> omega))
      have hg9_2 := fun o => hb9.frozen (p := ⟨b2, o, none⟩) (by first | omega | (simp <;> omega))
      have hy9_3 : w3.heap.size < w9.heap.size := by omega
      have hk9_3 := fun o => hb9.cell (p := ⟨w3.heap.size, o, none⟩) (by first | omega | (simp <;> omega))
      have hg9_3 := fun o => hb9.frozen (p := ⟨w3.heap.size, o, none⟩) (by first | omega | (simp <;> omega))
      have hy9_4 : b4 < w9.heap.size := by omega
      have hk9_4 := fun o => hb9.cell (p := ⟨b4, o, none⟩) (by first | omega | (simp <;> omega))
      have hg9_4 := fun o => hb9.frozen (p := ⟨b4, o, none⟩) (by first | omega | (simp <;> omega))
      go_wp2_with fail
      refine (markProf_any U4 _ c4 _ 1 _ HLE.out (by omega) (by omega) ((WRU4_8.out).below (by repeat (first | exact Below.refl _ _ | assumption | (refine bstep ?_ (below_drewN _ _)) | exact bstep (by assumption) (by assumption) | (refine bstep ?_ (below_alloc _ _)) | (refine bstep ?_ (by assumption)) | (refine Below.setCell ?_ (by simp <;> omega) _) | refine Below.drew ?_)))).mono ?_
      rintro e w10 ⟨rfl, rd10, fr10⟩
      have hs10 := fr10.size
      (try simp at hs10)
      have hB10 : Below w.heap.size _ w10 := fr10.below (fun k hk => by have q9 := RG4.out _ hk; omega) (by first | omega | (simp <;> omega))
      have hy10_0 : w.heap.size < w10.heap.size := by omega
      have hk10_0 := fun o => fr10.cell (b := w.heap.size) (by first | omega | (simp <;> omega)) (fun h => by have q9 := RG4.out _ h; omega) o
      have hg10_0 := fun o => fr10.frozen (b := w.heap.size) (by first | omega | (simp <;> omega)) (fun h => by have q9 := RG4.out _ h; omega) o
      have hy10_1 : w.heap.size + 1 < w10.heap.size := by omega
      have hk10_1 := fun o => fr10.cell (b := w.heap.size + 1) (by first | omega | (simp <;> omega)) (fun h => by have q9 := RG4.out _ h; omega) o
      have hg10_1 := fun o => fr10.frozen (b := w.heap.size + 1) (by first | omega | (simp <;> omega)) (fun h => by have q9 := RG4.out _ h; omega) o
      have hy10_2 : b2 < w10.heap.size := by omega
      have hk10_2 := fun o => fr10.cell (b := b2) (by first | omega | (simp <;> omega)) (fun h => by have q9 := RG4.out _ h; omega) o
      have hg10_2 := fun o => fr10.frozen (b := b2) (by first | omega | (simp <;> omega)) (fun h => by have q9 := RG4.out _ h; omega) o
      have hy10_3 : w3.heap.size < w10.heap.size := by omega
      have hk10_3 := fun o => fr10.cell (b := w3.heap.size) (by first | omega | (simp <;> omega)) (fun h => by have q9 := RG4.out _ h; omega) o
      have hg10_3 := fun o => fr10.frozen (b := w3.heap.size) (by first | omega | (simp <;> omega)) (fun h => by have q9 := RG4.out _ h; omega) o
      have hy10_4 : b4 < w10.heap.size := by omega
      have hk10_4 := fun o => fr10.cell (b := b4) (by first | omega | (simp <;> omega)) (fun h => by have q9 := RG4.out _ h; omega) o
      have hg10_4 := fun o => fr10.frozen (b := b4) (by first | omega | (simp <;> omega)) (fun h => by have q9 := RG4.out _ h; omega) o
      have RDU2_10 := Lib.hid (Rd.fr (RDU2_8.out.below HLU2_8.out (by repeat (first | exact Below.refl _ _ | assumption | (refine bstep ?_ (below_drewN _ _)) | exact bstep (by assumption) (by assumption) | (refine bstep ?_ (below_alloc _ _)) | (refine bstep ?_ (by assumption)) | (refine Below.setCell ?_ (by simp <;> omega) _) | refine Below.drew ?_))) (lt_below HLU2_8.out (by repeat (first | exact Below.refl _ _ | assumption | (refine bstep ?_ (below_drewN _ _)) | exact bstep (by assumption) (by assumption) | (refine bstep ?_ (below_alloc _ _)) | (refine bstep ?_ (by assumption)) | (refine Below.setCell ?_ (by simp <;> omega) _) | refine Below.drew ?_))) fr10 (fun k h1 h2 => by have q1 := RG2.out k h1; have q9 := RG4.out _ h2; omega))
      have HLU2_10 := Lib.hid (lt_fr (lt_below HLU2_8.out (by repeat (first | exact Below.refl _ _ | assumption | (refine bstep ?_ (below_drewN _ _)) | exact bstep (by assumption) (by assumption) | (refine bstep ?_ (below_alloc _ _)) | (refine bstep ?_ (by assumption)) | (refine Below.setCell ?_ (by simp <;> omega) _) | refine Below.drew ?_))) fr10)
      have WRU2_10 := Lib.hid (Wr.fr ((WRU2_8.out).below (by repeat (first | exact Below.refl _ _ | assumption | (refine bstep ?_ (below_drewN _ _)) | exact bstep (by assumption) (by assumption) | (refine bstep ?_ (below_alloc _ _)) | (refine bstep ?_ (by assumption)) | (refine Below.setCell ?_ (by simp <;> omega) _) | refine Below.drew ?_))) fr10 (fun k h1 h2 => by have q1 := RG2.out k h1; have q9 := RG4.out _ h2; omega))
      have RMU4 := Lib.hid rd10
      have HLU4_10 := Lib.hid (lt_fr (lt_below HLU4_8.out (by repeat (first | exact Below.refl _ _ | assumption | (refine bstep ?_ (below_drewN _ _)) | exact bstep (by assumption) (by assumption) | (refine bstep ?_ (below_alloc _ _)) | (refine bstep ?_ (by assumption)) | (refine Below.setCell ?_ (by simp <;> omega) _) | refine Below.drew ?_))) fr10)
      clear rd10
      go_wp2_with fail
      refine (heldProf_any U4 _ c4 1 _ HLE.out (by omega) (by omega) (RMU4.out.below HLU4_10.out (by repeat (first | exact Below.refl _ _ | assumption | (refine bstep ?_ (below_drewN _ _)) | exact bstep (by assumption) (by assumption) | (refine bstep ?_ (below_alloc _ _)) | (refine bstep ?_ (by assumption)) | (refine Below.setCell ?_ (by simp <;> omega) _) | refine Below.drew ?_))) (lt_below HLU4_10.out (by repeat (first | exact Below.refl _ _ | assumption | (refine bstep ?_ (below_drewN _ _)) | exact bstep (by assumption) (by assumption) | (refine bstep ?_ (below_alloc _ _)) | (refine bstep ?_ (by assumption)) | (refine Below.setCell ?_ (by simp <;> omega) _) | refine Below.drew ?_)))).mono ?_
      rintro e w11 ⟨rfl, hb11⟩
      have hs11 := hb11.size
      (try simp at hs11)
      have hy11_0 : w.heap.size < w11.heap.size := by omega
      have hk11_0 := fun o => hb11.cell (p := ⟨w.heap.size, o, none⟩) (by first | omega | (simp <;> omega))
      have hg11_0 := fun o => hb11.frozen (p := ⟨w.heap.size, o, none⟩) (by first | omega | (simp <;> omega))
      have hy11_1 : w.heap.size + 1 < w11.heap.size := by omega
      have hk11_1 := fun o => hb11.cell (p := ⟨w.heap.size + 1, o, none⟩) (by first | omega | (simp <;> omega))
      have hg11_1 := fun o => hb11.frozen (p := ⟨w.heap.size + 1, o, none⟩) (by first | omega | (simp <;> omega))
      have hy11_2 : b2 < w11.heap.size := by omega
      have hk11_2 := fun o => hb11.cell (p := ⟨b2, o, none⟩) (by first | omega | (simp <;> omega))
      have hg11_2 := fun o => hb11.frozen (p := ⟨b2, o, none⟩) (by first | omega | (simp <;> omega))
      have hy11_3 : w3.heap.size < w11.heap.size := by omega
      have hk11_3 := fun o => hb11.cell (p := ⟨w3.heap.size, o, none⟩) (by first | omega | (simp <;> omega))
      have hg11_3 := fun o => hb11.frozen (p := ⟨w3.heap.size, o, none⟩) (by first | omega | (simp <;> omega))
      have hy11_4 : b4 < w11.heap.size := by omega
      have hk11_4 := fun o => hb11.cell (p := ⟨b4, o, none⟩) (by first | omega | (simp <;> omega))
      have hg11_4 := fun o => hb11.frozen (p := ⟨b4, o, none⟩) (by first | omega | (simp <;> omega))
      go_wp2_with fail
      go_cut [18, 19] (fun p9 q9 wr => ∃ (bw : Nat) (U : Option Addr) (cu : Nat), p9 = .pointer (some ⟨bw, 0, none⟩) ∧ q9 = .bool TB ∧ wr.cell? ⟨bw, 0, none⟩ = some (.slice U (TV).length cu) ∧ w11.heap.size ≤ bw ∧ bw < wr.heap.size ∧ wr.ownsRow (w11.heap.size) 138 4 (.slice U (TV).length cu) (TV).length (flat (TV)) ∧ (∀ k, atB U k → k ≠ bw) ∧ Below (w11).heap.size (w11) wr)
      case first =>
        go_region_held3 (fun w' => w'.cell? ⟨w.heap.size, 0, none⟩ = some (.slice A n c) ∧ w'.cell? ⟨w.heap.size + 1, 0, none⟩ = some (.int .i64 v.A) ∧ w'.cell? ⟨w.heap.size + 1, 1, none⟩ = some (.int .i64 v.B) ∧ w'.cell? ⟨w.heap.size + 1, 2, none⟩ = some (.int .i64 v.C)) (simp [go_sem, *, World.cell?_alloc_some, World.cell?_setCell_far, Nat.lt_add_right, Nat.ne_of_gt]) (first | (go_at_call 37; refine (toProf_any A n c ps _ HN.out (HR.out.below (by repeat (first | exact Below.refl _ _ | assumption | (refine bstep ?_ (below_drewN _ _)) | exact bstep (by assumption) (by assumption) | (refine bstep ?_ (below_alloc _ _)) | (refine bstep ?_ (by assumption)) | (refine Below.setCell ?_ (by simp <;> omega) _) | refine Below.drew ?_ | (refine Below.trans ?_ (by assumption)))))).mono ?_; rintro e y101 ⟨v101, rfl, own101, hb101⟩; have hs101 := hb101.size; (try simp at hs101); have hy101_0 : w.heap.size < y101.heap.size := (by omega); have hk101_0 := fun o => hb101.cell (p := ⟨w.heap.size, o, none⟩) (by first | omega | (simp <;> omega)); have hy101_1 : w.heap.size + 1 < y101.heap.size := (by omega); have hk101_1 := fun o => hb101.cell (p := ⟨w.heap.size + 1, o, none⟩) (by first | omega | (simp <;> omega)); have hy101_2 : b2 < y101.heap.size := (by omega); have hk101_2 := fun o => hb101.cell (p := ⟨b2, o, none⟩) (by first | omega | (simp <;> omega)); have hy101_3 : w3.heap.size < y101.heap.size := (by omega); have hk101_3 := fun o => hb101.cell (p := ⟨w3.heap.size, o, none⟩) (by first | omega | (simp <;> omega)); have hy101_4 : b4 < y101.heap.size := (by omega); have hk101_4 := fun o => hb101.cell (p := ⟨b4, o, none⟩) (by first | omega | (simp <;> omega)); (try (have hx1010 : w11.heap.size < y101.heap.size := (by omega); have hm1010 := fun o => hb101.cell (p := ⟨w11.heap.size, o, none⟩) (by first | omega | (simp <;> omega)); have hn1010 := fun o => hb101.frozen (p := ⟨w11.heap.size, o, none⟩) (by first | omega | (simp <;> omega)))); obtain ⟨A101, c101, rfl, rd101⟩ := own_rd own101; have RD101 := Lib.hid rd101; have HL101 := Lib.hid (own_blk own101); clear rd101 own101) | (go_at_call 21; refine (toVec_raw v.A v.B v.C _).mono ?_; rintro e y102 ⟨rfl, hb102⟩; have hs102 := hb102.size; (try simp at hs102); have hy102_0 : w.heap.size < y102.heap.size := (by omega); have hk102_0 := fun o => hb102.cell (p := ⟨w.heap.size, o, none⟩) (by first | omega | (simp <;> omega)); have hy102_1 : w.heap.size + 1 < y102.heap.size := (by omega); have hk102_1 := fun o => hb102.cell (p := ⟨w.heap.size + 1, o, none⟩) (by first | omega | (simp <;> omega)); have hy102_2 : b2 < y102.heap.size := (by omega); have hk102_2 := fun o => hb102.cell (p := ⟨b2, o, none⟩) (by first | omega | (simp <;> omega)); have hy102_3 : w3.heap.size < y102.heap.size := (by omega); have hk102_3 := fun o => hb102.cell (p := ⟨w3.heap.size, o, none⟩) (by first | omega | (simp <;> omega)); have hy102_4 : b4 < y102.heap.size := (by omega); have hk102_4 := fun o => hb102.cell (p := ⟨b4, o, none⟩) (by first | omega | (simp <;> omega)); (try (have hx1020 : w11.heap.size < y102.heap.size := (by omega); have hm1020 := fun o => hb102.cell (p := ⟨w11.heap.size, o, none⟩) (by first | omega | (simp <;> omega)); have hn1020 := fun o => hb102.frozen (p := ⟨w11.heap.size, o, none⟩) (by first | omega | (simp <;> omega)))); (try (have hx1021 : y101.heap.size < y102.heap.size := (by omega); have hm1021 := fun o => hb102.cell (p := ⟨y101.heap.size, o, none⟩) (by first | omega | (simp <;> omega)); have hn1021 := fun o => hb102.frozen (p := ⟨y101.heap.size, o, none⟩) (by first | omega | (simp <;> omega))))) | (go_at_call 38; refine (HIC.out A101 c101 _ (RD101.out.below HL101.out (by repeat (first | exact Below.refl _ _ | assumption | (refine bstep ?_ (below_drewN _ _)) | exact bstep (by assumption) (by assumption) | (refine bstep ?_ (below_alloc _ _)) | (refine bstep ?_ (by assumption)) | (refine Below.setCell ?_ (by simp <;> omega) _) | refine Below.drew ?_ | (refine Below.trans ?_ (by assumption))))) (lt_below HL101.out (by repeat (first | exact Below.refl _ _ | assumption | (refine bstep ?_ (below_drewN _ _)) | exact bstep (by assumption) (by assumption) | (refine bstep ?_ (below_alloc _ _)) | (refine bstep ?_ (by assumption)) | (refine Below.setCell ?_ (by simp <;> omega) _) | refine Below.drew ?_ | (refine Below.trans ?_ (by assumption)))))).mono ?_; rintro e y103 ⟨v103, rfl, own103, hb103⟩; have hs103 := hb103.size; (try simp at hs103); have hy103_0 : w.heap.size < y103.heap.size := (by omega); have hk103_0 := fun o => hb103.cell (p := ⟨w.heap.size, o, none⟩) (by first | omega | (simp <;> omega)); have hy103_1 : w.heap.size + 1 < y103.heap.size := (by omega); have hk103_1 := fun o => hb103.cell (p := ⟨w.heap.size + 1, o, none⟩) (by first | omega | (simp <;> omega)); have hy103_2 : b2 < y103.heap.size := (by omega); have hk103_2 := fun o => hb103.cell (p := ⟨b2, o, none⟩) (by first | omega | (simp <;> omega)); have hy103_3 : w3.heap.size < y103.heap.size := (by omega); have hk103_3 := fun o => hb103.cell (p := ⟨w3.heap.size, o, none⟩) (by first | omega | (simp <;> omega)); have hy103_4 : b4 < y103.heap.size := (by omega); have hk103_4 := fun o => hb103.cell (p := ⟨b4, o, none⟩) (by first | omega | (simp <;> omega)); (try (have hx1030 : w11.heap.size < y103.heap.size := (by omega); have hm1030 := fun o => hb103.cell (p := ⟨w11.heap.size, o, none⟩) (by first | omega | (simp <;> omega)); have hn1030 := fun o => hb103.frozen (p := ⟨w11.heap.size, o, none⟩) (by first | omega | (simp <;> omega)))); (try (have hx1031 : y101.heap.size < y103.heap.size := (by omega); have hm1031 := fun o => hb103.cell (p := ⟨y101.heap.size, o, none⟩) (by first | omega | (simp <;> omega)); have hn1031 := fun o => hb103.frozen (p := ⟨y101.heap.size, o, none⟩) (by first | omega | (simp <;> omega)))); (try (have hx1032 : y102.heap.size < y103.heap.size := (by omega); have hm1032 := fun o => hb103.cell (p := ⟨y102.heap.size, o, none⟩) (by first | omega | (simp <;> omega)); have hn1032 := fun o => hb103.frozen (p := ⟨y102.heap.size, o, none⟩) (by first | omega | (simp <;> omega)))); obtain ⟨A103, c103, rfl, rd103⟩ := own_rd own103; have OW103 := Lib.hid own103; clear rd103 own103))
        all_goals (go_wp2; go_meet)
        all_goals (case rel => (refine ⟨_, A103, c103, rfl, rfl, ?_, ?_, ?_, ?_, ?_, ?_⟩; (· (simp [go_sem, *, World.cell?_alloc_some, World.cell?_setCell_far, Nat.lt_add_right, Nat.ne_of_gt]; done)); (· (first | omega | (simp <;> omega))); (· (first | omega | (simp <;> omega))); (· (first | exact own_mono OW103.out (by first | omega | (simp <;> omega)) | exact own_mono (own_bel OW103.out (below_alloc _ _)) (by first | omega | (simp <;> omega)) | exact own_mono (own_set OW103.out (fun k hk => by have h8 := own_ge OW103.out k hk; have h9 := own_blk2 OW103.out k hk; (try simp at h8); (try simp at h9); (try dsimp only); omega) _) (by first | omega | (simp <;> omega)))); (· exact fun k hk => by have h8 := own_rng OW103.out k hk; (try simp at h8); omega); (· exact (by repeat (first | exact Below.refl _ _ | assumption | (refine bstep ?_ (below_drewN _ _)) | exact bstep (by assumption) (by assumption) | (refine bstep ?_ (below_alloc _ _)) | (refine bstep ?_ (by assumption)) | (refine Below.setCell ?_ (by simp <;> omega) _) | refine Below.drew ?_ | (refine Below.trans ?_ (by assumption)))))))
      case rest =>
        obtain ⟨w12, rfl⟩ : ∃ x, x = wc := ⟨wc, rfl⟩
        obtain ⟨b12, U12, c12, rfl, rfl, hc12, hl12, hu12, own12, hne12, hb12⟩ := hcut
        have hs12 := hb12.size
        (try simp at hs12)
        (try simp at hl12)
        have hy12_0 : w.heap.size < w12.heap.size := by omega
        have hk12_0 := fun o => hb12.cell (p := ⟨w.heap.size, o, none⟩) (by first | omega | (simp <;> omega))
        have hy12_1 : w.heap.size + 1 < w12.heap.size := by omega
        have hk12_1 := fun o => hb12.cell (p := ⟨w.heap.size + 1, o, none⟩) (by first | omega | (simp <;> omega))
        have hy12_2 : b2 < w12.heap.size := by omega
        have hk12_2 := fun o => hb12.cell (p := ⟨b2, o, none⟩) (by first | omega | (simp <;> omega))
        have hy12_3 : w3.heap.size < w12.heap.size := by omega
        have hk12_3 := fun o => hb12.cell (p := ⟨w3.heap.size, o, none⟩) (by first | omega | (simp <;> omega))
        have hy12_4 : b4 < w12.heap.size := by omega
        have hk12_4 := fun o => hb12.cell (p := ⟨b4, o, none⟩) (by first | omega | (simp <;> omega))
        have RD12 := Lib.hid (own_rdd' own12)
        have HLs12 := Lib.hid (own_blk own12)
        have RG12 : Hid (∀ k, atB U12 k → w11.heap.size ≤ k ∧ k < w12.heap.size ∧ k ≠ b12) := Lib.hid (fun k hk => ⟨by have h9 := (own_rng own12 k hk).1; (try simp at h9); omega, (own_rng own12 k hk).2, hne12 k hk⟩)
        clear hne12
        have OW12 := Lib.hid own12
        clear own12
        go_wp2_with fail
        refine (eqProf_any U12 U2 _ c12 c2 (TV) _ HLE.out (RD12.out.below HLs12.out (by repeat (first | exact Below.refl _ _ | assumption | (refine bstep ?_ (below_drewN _ _)) | exact bstep (by assumption) (by assumption) | (refine bstep ?_ (below_alloc _ _)) | (refine bstep ?_ (by assumption)) | (refine Below.setCell ?_ (by simp <;> omega) _) | refine Below.drew ?_))) (RDU2_10.out.below HLU2_10.out (by repeat (first | exact Below.refl _ _ | assumption | (refine bstep ?_ (below_drewN _ _)) | exact bstep (by assumption) (by assumption) | (refine bstep ?_ (below_alloc _ _)) | (refine bstep ?_ (by assumption)) | (refine Below.setCell ?_ (by simp <;> omega) _) | refine Below.drew ?_))) (lt_below HLs12.out (by repeat (first | exact Below.refl _ _ | assumption | (refine bstep ?_ (below_drewN _ _)) | exact bstep (by assumption) (by assumption) | (refine bstep ?_ (below_alloc _ _)) | (refine bstep ?_ (by assumption)) | (refine Below.setCell ?_ (by simp <;> omega) _) | refine Below.drew ?_))) (lt_below HLU2_10.out (by repeat (first | exact Below.refl _ _ | assumption | (refine bstep ?_ (below_drewN _ _)) | exact bstep (by assumption) (by assumption) | (refine bstep ?_ (below_alloc _ _)) | (refine bstep ?_ (by assumption)) | (refine Below.setCell ?_ (by simp <;> omega) _) | refine Below.drew ?_)))).mono ?_
        rintro e w13 ⟨rfl, hb13⟩
        have hs13 := hb13.size
        (try simp at hs13)
        have hy13_0 : w.heap.size < w13.heap.size := by omega
        have hk13_0 := fun o => hb13.cell (p := ⟨w.heap.size, o, none⟩) (by first | omega | (simp <;> omega))
        have hg13_0 := fun o => hb13.frozen (p := ⟨w.heap.size, o, none⟩) (by first | omega | (simp <;> omega))
        have hy13_1 : w.heap.size + 1 < w13.heap.size := by omega
        have hk13_1 := fun o => hb13.cell (p := ⟨w.heap.size + 1, o, none⟩) (by first | omega | (simp <;> omega))
        have hg13_1 := fun o => hb13.frozen (p := ⟨w.heap.size + 1, o, none⟩) (by first | omega | (simp <;> omega))
        have hy13_2 : b2 < w13.heap.size := by omega
        have hk13_2 := fun o => hb13.cell (p := ⟨b2, o, none⟩) (by first | omega | (simp <;> omega))
        have hg13_2 := fun o => hb13.frozen (p := ⟨b2, o, none⟩) (by first | omega | (simp <;> omega))
        have hy13_3 : w3.heap.size < w13.heap.size := by omega
        have hk13_3 := fun o => hb13.cell (p := ⟨w3.heap.size, o, none⟩) (by first | omega | (simp <;> omega))
        have hg13_3 := fun o => hb13.frozen (p := ⟨w3.heap.size, o, none⟩) (by first | omega | (simp <;> omega))
        have hy13_4 : b4 < w13.heap.size := by omega
        have hk13_4 := fun o => hb13.cell (p := ⟨b4, o, none⟩) (by first | omega | (simp <;> omega))
        have hg13_4 := fun o => hb13.frozen (p := ⟨b4, o, none⟩) (by first | omega | (simp <;> omega))
        have hy13_5 : b12 < w13.heap.size := by omega
        have hk13_5 := fun o => hb13.cell (p := ⟨b12, o, none⟩) (by first | omega | (simp <;> omega))
        have hg13_5 := fun o => hb13.frozen (p := ⟨b12, o, none⟩) (by first | omega | (simp <;> omega))
        go_wp2_with fail
        refine (heldProf_any U4 _ c4 1 _ HLE.out (by omega) (by omega) (RMU4.out.below HLU4_10.out (by repeat (first | exact Below.refl _ _ | assumption | (refine bstep ?_ (below_drewN _ _)) | exact bstep (by assumption) (by assumption) | (refine bstep ?_ (below_alloc _ _)) | (refine bstep ?_ (by assumption)) | (refine Below.setCell ?_ (by simp <;> omega) _) | refine Below.drew ?_))) (lt_below HLU4_10.out (by repeat (first | exact Below.refl _ _ | assumption | (refine bstep ?_ (below_drewN _ _)) | exact bstep (by assumption) (by assumption) | (refine bstep ?_ (below_alloc _ _)) | (refine bstep ?_ (by assumption)) | (refine Below.setCell ?_ (by simp <;> omega) _) | refine Below.drew ?_)))).mono ?_
        rintro e w14 ⟨rfl, hb14⟩
        have hs14 := hb14.size
        (try simp at hs14)
        have hy14_0 : w.heap.size < w14.heap.size := by omega
        have hk14_0 := fun o => hb14.cell (p := ⟨w.heap.size, o, none⟩) (by first | omega | (simp <;> omega))
        have hg14_0 := fun o => hb14.frozen (p := ⟨w.heap.size, o, none⟩) (by first | omega | (simp <;> omega))
        have hy14_1 : w.heap.size + 1 < w14.heap.size := by omega
        have hk14_1 := fun o => hb14.cell (p := ⟨w.heap.size + 1, o, none⟩) (by first | omega | (simp <;> omega))
        have hg14_1 := fun o => hb14.frozen (p := ⟨w.heap.size + 1, o, none⟩) (by first | omega | (simp <;> omega))
        have hy14_2 : b2 < w14.heap.size := by omega
        have hk14_2 := fun o => hb14.cell (p := ⟨b2, o, none⟩) (by first | omega | (simp <;> omega))
        have hg14_2 := fun o => hb14.frozen (p := ⟨b2, o, none⟩) (by first | omega | (simp <;> omega))
        have hy14_3 : w3.heap.size < w14.heap.size := by omega
        have hk14_3 := fun o => hb14.cell (p := ⟨w3.heap.size, o, none⟩) (by first | omega | (simp <;> omega))
        have hg14_3 := fun o => hb14.frozen (p := ⟨w3.heap.size, o, none⟩) (by first | omega | (simp <;> omega))
        have hy14_4 : b4 < w14.heap.size := by omega
        have hk14_4 := fun o => hb14.cell (p := ⟨b4, o, none⟩) (by first | omega | (simp <;> omega))
        have hg14_4 := fun o => hb14.frozen (p := ⟨b4, o, none⟩) (by first | omega | (simp <;> omega))
        have hy14_5 : b12 < w14.heap.size := by omega
        have hk14_5 := fun o => hb14.cell (p := ⟨b12, o, none⟩) (by first | omega | (simp <;> omega))
        have hg14_5 := fun o => hb14.frozen (p := ⟨b12, o, none⟩) (by first | omega | (simp <;> omega))
        go_wp2
        go_ret
        exact ⟨rfl, (by repeat (first | exact Below.refl _ _ | assumption | (refine bstep ?_ (below_drewN _ _)) | exact bstep (by assumption) (by assumption) | (refine bstep ?_ (below_alloc _ _)) | (refine bstep ?_ (by assumption)) | (refine Below.setCell ?_ (by simp <;> omega) _) | refine Below.drew ?_ | (refine Below.trans ?_ (by assumption))))⟩
theorem law_profGive (A : Option Addr) (n c : Nat) (ps : List Q) (lo hi : Int) (v : V) (w : World) (hn : n ≤ maxLen) (hr : RdE w A n ps) :
    Calls Try.prog 6 #[.agg #[.slice A n c], .int .i64 lo, .int .i64 hi, .agg #[.int .i64 v.A, .int .i64 v.B, .int .i64 v.C]] w fun e w' => e = .returned (.bool true) ∧ Below w.heap.size w w' := by
  by_cases h : n ≤ 1048576
  · exact law_profGive_small A n c ps lo hi v w h hr
  · exact law_profGive_big A n c lo hi v w hn h
end Go.Proofs.Ytpfcegjomdppmaa
