/-
  FnExactTextTopo: marks on a topology that the call made, and the law.
-/
import Derived.Test.YtjnfdcojccgfoaaA15
import Derived.Test.YtjnfdcojccgfoaaA6
import Derived.Test.YtjnfdcojccgfoaaJe
import Derived.Test.YtjnfdcojccgfoaaLb
namespace Go.Proofs.Ytjnfdcojccgfoaa
set_option linter.unusedSimpArgs false
set_option linter.unusedVariables false
set_option linter.unnecessarySimpa false
open Go.RowKit
set_option maxHeartbeats 1000000 in
theorem markTopo_rd (A B : Option Addr) (n c m d lo lo2 : Nat) (w : World) (hn : n ≤ 1048577) (hm : m ≤ 1048577) (hw : Wr w lo A (n * 1) 3) (hw2 : Wr w lo2 B (m * 4) 104) (hne : ∀ k, atB A k → ¬ atB B k) (hnb : ∀ k, atB A k → k < w.heap.size) :
    Calls Try.prog 81 #[.agg #[.slice A n c, .slice B m d], .int .i64 1] w fun e w' => e = .returned (.int .i64 (1 + 1 * (n : Int) + 4 * (m : Int))) ∧ Rd w' A n 1 (imarks 1 (n * 1)) ∧ Rd w' B m 4 (imarks (1 + 1 * (n : Int)) (m * 4)) ∧ Fr (atT A B) w w' := by
  have hp : 0 ≤ 1 + 1 * (n : Int) := by omega
  have hp2 : 1 + 1 * (n : Int) ≤ 1099511627776 := by omega
  have HN := Lib.hid hn
  have HM := Lib.hid hm
  have HW := Lib.hid hw
  have HW2 := Lib.hid hw2
  have HNE := Lib.hid hne
  have HNB := Lib.hid hnb
  clear hn hm hw hw2 hne hnb
  go_enter Try.func81, Try.ntmps81
  go_wp2_with fail
  refine (markIntF A n c lo 1 _ HN.out (by omega) (by omega) (HW.out.below (below_alloc _ _))).mono ?_
  rintro e w1 ⟨rfl, rd1, fr1⟩
  have RD1 := Lib.hid rd1
  clear rd1
  have hk1 := fun o => fr1.cell (b := w.heap.size) (by simp) (fun h => by
    obtain ⟨o, hA⟩ := h
    have hb := HNB.out _ ⟨o, hA⟩
    omega) o
  have FR1 := Lib.hid fr1
  clear fr1
  go_wp2_with fail
  refine (markNodeF B m d lo2 _ _ HM.out (by omega) (by omega) (Wr.fr (HW2.out.below (below_alloc _ _)) FR1.out (fun k h1 h2 => HNE.out k h2 h1))).mono ?_
  rintro e w2 ⟨rfl, rd2, fr2⟩
  have RD2 := Lib.hid rd2
  clear rd2
  have RD1' := Lib.hid (Rd.fr RD1.out (fun g hg => Nat.lt_of_lt_of_le (HNB.out g ⟨0, hg⟩) (Nat.le_trans (by simp) FR1.out.size)) fr2 (fun k h1 h2 => HNE.out k h1 h2))
  have FR2 := Lib.hid fr2
  clear fr2
  go_wp2
  go_ret
  exact ⟨ret_int (by omega), RD1'.out, by rw [show (1 + 1 * (n : Int)) = 1 + n by omega]; exact RD2.out, ((Fr.of_below _ (below_alloc _ _)).trans (FR1.out.mono (fun k hk => Or.inl hk))).trans (FR2.out.mono (fun k hk => Or.inr hk))⟩
set_option maxHeartbeats 1000000 in
theorem heldTopo_any (A B : Option Addr) (n c m d : Nat) (w : World) (hn : n ≤ 1048577) (hm : m ≤ 1048577) (hr : Rd w A n 1 (imarks 1 (n * 1))) (hq : Rd w B m 4 (imarks (1 + 1 * (n : Int)) (m * 4))) (hl : ∀ g, A = some ⟨g, 0, none⟩ → g < w.heap.size) (hl2 : ∀ g, B = some ⟨g, 0, none⟩ → g < w.heap.size) :
    Calls Try.prog 93 #[.agg #[.slice A n c, .slice B m d], .int .i64 1] w fun e w' => e = .returned (.int .i64 (1 + 1 * (n : Int) + 4 * (m : Int))) ∧ Below w.heap.size w w' := by
  have hp : 0 ≤ 1 + (n : Int) := by omega
  have hp2 : 1 + (n : Int) ≤ 1099511627776 := by omega
  have hp3 : 0 ≤ 1 + (n : Int) + 4 * (m : Int) := by omega
  have hq' : Rd w B m 4 (imarks (1 + (n : Int)) (m * 4)) := by simpa using hq
  have HN := Lib.hid hn
  have HM := Lib.hid hm
  have HR := Lib.hid hr
  have HQ := Lib.hid hq'
  have HL := Lib.hid hl
  have HL2 := Lib.hid hl2
  clear hn hm hr hq hq' hl hl2
  go_enter Try.func93, Try.ntmps93
  go_wp2_with fail
  refine (heldInt_any A n c 1 _ HN.out (by omega) (by omega) (HR.out.below HL.out (below_alloc _ _))).mono ?_
  rintro e w1 ⟨rfl, rfl⟩
  go_wp2_with fail
  refine (heldNode_any B m d _ _ HM.out (by omega) (by omega) (HQ.out.below HL2.out (below_alloc _ _))).mono ?_
  rintro e w2 ⟨rfl, rfl⟩
  go_wp2
  go_ret
  exact ⟨ret_int (by omega), below_alloc _ _⟩
theorem tt_len (s : ByteArray) : (ttP s).length ≤ 24 ∧ (ttN s).length ≤ 24 := by
  cases h : ttB s
  · obtain ⟨h1, h2⟩ := tt_no h
    rw [h1, h2]; simp
  · obtain ⟨h1, h2⟩ := tt_yes h
    rw [h1, h2]
    have : topoOkB (parseT s).1 (parseT s).2 = true := by unfold ttB at h; simp only [Bool.and_eq_true] at h; exact h.1
    obtain ⟨_, a, _, b, _⟩ := topo_parts this
    exact ⟨a, b⟩

set_option maxHeartbeats 8000000 in
theorem law_textTopo_small (s : ByteArray) (w : World) (hs : s.size ≤ 1048576) :
    Calls Try.prog 24 #[.string s] w fun e w' => e = .returned (.bool true) ∧ Below w.heap.size w w' := by
  have hle := tt_len s
  have hs' : ¬ (1048576 : Int) < s.size := by omega
  have h1 : (ttP s).length ≤ 1048577 := by omega
  have h2 : (ttN s).length ≤ 1048577 := by omega
  have HS := Lib.hid hs
  clear hs
  have hbb : (ttB s != ttB s) = false := by simp
  have C1 : Hid (∀ W : World, Calls Try.prog 92 #[.string s] W fun e w' => ∃ u v, e = .returned (.tuple #[.agg #[u, v], .bool (ttB s)]) ∧ w'.ownsRow W.heap.size 3 1 u (ttP s).length (ints (ttP s)) ∧ w'.ownsRow W.heap.size 104 4 v (ttN s).length (flat (ttN s)) ∧ Below W.heap.size W w') := Lib.hid (fun W => stextTopo_any s W HS.out)
  have C2 : Hid (∀ W : World, Calls Try.prog 87 #[.string s] W fun e w' => ∃ u v, e = .returned (.tuple #[.agg #[u, v], .bool (ttB s)]) ∧ w'.ownsRow W.heap.size 3 1 u (ttP s).length (ints (ttP s)) ∧ w'.ownsRow W.heap.size 104 4 v (ttN s).length (flat (ttN s)) ∧ Below W.heap.size W w') := Lib.hid (fun W => textTopo_any s W HS.out)
  generalize ttB s = tb at *
  generalize ttP s = tp at *
  generalize ttN s = tn at *
  have HLE := Lib.hid h1
  have HLN := Lib.hid h2
  have hp0 : 0 ≤ 1 + 1 * (tp.length : Int) + 4 * (tn.length : Int) := by omega
  have hp1 : ¬ (1 + (tp.length : Int) + 4 * (tn.length : Int) < 0) := by omega
  clear h1 h2 hle
  go_enter Try.func24, Try.ntmps24
  go_wp2_with fail
  refine (C1.out _).mono ?_
  rintro e w1 ⟨u1, v1, rfl, own1a, own1b, hb1⟩
  have hs1 := hb1.size
  (try simp at hs1)
  obtain ⟨A1, c1, rfl, rd_A1⟩ := own_rd own1a
  have RDA1 := Lib.hid rd_A1
  have HLA1 := Lib.hid (own_blk own1a)
  have RGA1 : Hid (∀ k, atB A1 k → w.heap.size ≤ k ∧ k < w1.heap.size) := Lib.hid (fun k hk => ⟨by have h9 := (own_rng own1a k hk).1; (try simp at h9); omega, (own_rng own1a k hk).2⟩)
  have OWA1 := Lib.hid own1a
  clear rd_A1 own1a
  obtain ⟨B1, d1, rfl, rd_B1⟩ := own_rd own1b
  have RDB1 := Lib.hid rd_B1
  have HLB1 := Lib.hid (own_blk own1b)
  have RGB1 : Hid (∀ k, atB B1 k → w.heap.size ≤ k ∧ k < w1.heap.size) := Lib.hid (fun k hk => ⟨by have h9 := (own_rng own1b k hk).1; (try simp at h9); omega, (own_rng own1b k hk).2⟩)
  have OWB1 := Lib.hid own1b
  clear rd_B1 own1b
  have AP1 := Lib.hid (own_apart OWA1.out OWB1.out (by decide))
  go_wp2_with fail
  refine (C2.out _).mono ?_
  rintro e w2 ⟨u2, v2, rfl, own2a, own2b, hb2⟩
  have hs2 := hb2.size
  (try simp at hs2)
  have hy2_0 : w1.heap.size < w2.heap.size := by omega
  have hk2_0 := fun o => hb2.cell (p := ⟨w1.heap.size, o, none⟩) (by first | omega | (simp <;> omega))
  have hg2_0 := fun o => hb2.frozen (p := ⟨w1.heap.size, o, none⟩) (by first | omega | (simp <;> omega))
  obtain ⟨A2, c2, rfl, rd_A2⟩ := own_rd own2a
  have RDA2 := Lib.hid rd_A2
  have HLA2 := Lib.hid (own_blk own2a)
  have RGA2 : Hid (∀ k, atB A2 k → w1.heap.size + 1 ≤ k ∧ k < w2.heap.size) := Lib.hid (fun k hk => ⟨by have h9 := (own_rng own2a k hk).1; (try simp at h9); omega, (own_rng own2a k hk).2⟩)
  have OWA2 := Lib.hid own2a
  clear rd_A2 own2a
  obtain ⟨B2, d2, rfl, rd_B2⟩ := own_rd own2b
  have RDB2 := Lib.hid rd_B2
  have HLB2 := Lib.hid (own_blk own2b)
  have RGB2 : Hid (∀ k, atB B2 k → w1.heap.size + 1 ≤ k ∧ k < w2.heap.size) := Lib.hid (fun k hk => ⟨by have h9 := (own_rng own2b k hk).1; (try simp at h9); omega, (own_rng own2b k hk).2⟩)
  have OWB2 := Lib.hid own2b
  clear rd_B2 own2b
  have AP2 := Lib.hid (own_apart OWA2.out OWB2.out (by decide))
  go_wp2_with fail
  refine (eqTopo_any A2 A1 B2 B1 _ c2 c1 _ d2 d1 tp tn _ HLE.out HLN.out (RDA2.out.below HLA2.out (by repeat (first | exact Below.refl _ _ | assumption | (refine bstep ?_ (below_drewN _ _)) | exact bstep (by assumption) (by assumption) | (refine bstep ?_ (below_alloc _ _)) | (refine bstep ?_ (by assumption)) | (refine Below.setCell ?_ (by simp <;> omega) _) | refine Below.drew ?_))) (RDA1.out.below HLA1.out (by repeat (first | exact Below.refl _ _ | assumption | (refine bstep ?_ (below_drewN _ _)) | exact bstep (by assumption) (by assumption) | (refine bstep ?_ (below_alloc _ _)) | (refine bstep ?_ (by assumption)) | (refine Below.setCell ?_ (by simp <;> omega) _) | refine Below.drew ?_))) (RDB2.out.below HLB2.out (by repeat (first | exact Below.refl _ _ | assumption | (refine bstep ?_ (below_drewN _ _)) | exact bstep (by assumption) (by assumption) | (refine bstep ?_ (below_alloc _ _)) | (refine bstep ?_ (by assumption)) | (refine Below.setCell ?_ (by simp <;> omega) _) | refine Below.drew ?_))) (RDB1.out.below HLB1.out (by repeat (first | exact Below.refl _ _ | assumption | (refine bstep ?_ (below_drewN _ _)) | exact bstep (by assumption) (by assumption) | (refine bstep ?_ (below_alloc _ _)) | (refine bstep ?_ (by assumption)) | (refine Below.setCell ?_ (by simp <;> omega) _) | refine Below.drew ?_))) (lt_below HLA2.out (by repeat (first | exact Below.refl _ _ | assumption | (refine bstep ?_ (below_drewN _ _)) | exact bstep (by assumption) (by assumption) | (refine bstep ?_ (below_alloc _ _)) | (refine bstep ?_ (by assumption)) | (refine Below.setCell ?_ (by simp <;> omega) _) | refine Below.drew ?_))) (lt_below HLA1.out (by repeat (first | exact Below.refl _ _ | assumption | (refine bstep ?_ (below_drewN _ _)) | exact bstep (by assumption) (by assumption) | (refine bstep ?_ (below_alloc _ _)) | (refine bstep ?_ (by assumption)) | (refine Below.setCell ?_ (by simp <;> omega) _) | refine Below.drew ?_))) (lt_below HLB2.out (by repeat (first | exact Below.refl _ _ | assumption | (refine bstep ?_ (below_drewN _ _)) | exact bstep (by assumption) (by assumption) | (refine bstep ?_ (below_alloc _ _)) | (refine bstep ?_ (by assumption)) | (refine Below.setCell ?_ (by simp <;> omega) _) | refine Below.drew ?_))) (lt_below HLB1.out (by repeat (first | exact Below.refl _ _ | assumption | (refine bstep ?_ (below_drewN _ _)) | exact bstep (by assumption) (by assumption) | (refine bstep ?_ (below_alloc _ _)) | (refine bstep ?_ (by assumption)) | (refine Below.setCell ?_ (by simp <;> omega) _) | refine Below.drew ?_)))).mono ?_
  rintro e w3 ⟨rfl, hb3⟩
  have hs3 := hb3.size
  (try simp at hs3)
  have hy3_0 : w1.heap.size < w3.heap.size := by omega
  have hk3_0 := fun o => hb3.cell (p := ⟨w1.heap.size, o, none⟩) (by first | omega | (simp <;> omega))
  have hg3_0 := fun o => hb3.frozen (p := ⟨w1.heap.size, o, none⟩) (by first | omega | (simp <;> omega))
  have hy3_1 : w2.heap.size < w3.heap.size := by omega
  have hk3_1 := fun o => hb3.cell (p := ⟨w2.heap.size, o, none⟩) (by first | omega | (simp <;> omega))
  have hg3_1 := fun o => hb3.frozen (p := ⟨w2.heap.size, o, none⟩) (by first | omega | (simp <;> omega))
  go_wp2_with fail
  refine (markTopo_rd A2 B2 _ c2 _ d2 _ _ _ HLE.out HLN.out ((own_wr2 OWA2.out).below (by repeat (first | exact Below.refl _ _ | assumption | (refine bstep ?_ (below_drewN _ _)) | exact bstep (by assumption) (by assumption) | (refine bstep ?_ (below_alloc _ _)) | (refine bstep ?_ (by assumption)) | (refine Below.setCell ?_ (by simp <;> omega) _) | refine Below.drew ?_))) ((own_wr2 OWB2.out).below (by repeat (first | exact Below.refl _ _ | assumption | (refine bstep ?_ (below_drewN _ _)) | exact bstep (by assumption) (by assumption) | (refine bstep ?_ (below_alloc _ _)) | (refine bstep ?_ (by assumption)) | (refine Below.setCell ?_ (by simp <;> omega) _) | refine Below.drew ?_))) AP2.out (fun k hk => by have q := RGA2.out k hk; (try simp); omega)).mono ?_
  rintro e w4 ⟨rfl, rda4, rdb4, fr4⟩
  have hs4 := fr4.size
  (try simp at hs4)
  have hB4 : Below w.heap.size _ w4 := fr4.below (fun k hk => by rcases hk with h8 | h8 <;> first | (have q9 := RGA2.out _ h8; omega) | (have q9 := RGB2.out _ h8; omega)) (by first | omega | (simp <;> omega))
  have hy4_0 : w1.heap.size < w4.heap.size := by omega
  have hk4_0 := fun o => fr4.cell (b := w1.heap.size) (by first | omega | (simp <;> omega)) (fun h => by rcases h with h8 | h8 <;> first | (have q9 := RGA2.out _ h8; omega) | (have q9 := RGB2.out _ h8; omega)) o
  have hg4_0 := fun o => fr4.frozen (b := w1.heap.size) (by first | omega | (simp <;> omega)) (fun h => by rcases h with h8 | h8 <;> first | (have q9 := RGA2.out _ h8; omega) | (have q9 := RGB2.out _ h8; omega)) o
  have hy4_1 : w2.heap.size < w4.heap.size := by omega
  have hk4_1 := fun o => fr4.cell (b := w2.heap.size) (by first | omega | (simp <;> omega)) (fun h => by rcases h with h8 | h8 <;> first | (have q9 := RGA2.out _ h8; omega) | (have q9 := RGB2.out _ h8; omega)) o
  have hg4_1 := fun o => fr4.frozen (b := w2.heap.size) (by first | omega | (simp <;> omega)) (fun h => by rcases h with h8 | h8 <;> first | (have q9 := RGA2.out _ h8; omega) | (have q9 := RGB2.out _ h8; omega)) o
  have RDA1_4 := Lib.hid (Rd.fr (RDA1.out.below HLA1.out (by repeat (first | exact Below.refl _ _ | assumption | (refine bstep ?_ (below_drewN _ _)) | exact bstep (by assumption) (by assumption) | (refine bstep ?_ (below_alloc _ _)) | (refine bstep ?_ (by assumption)) | (refine Below.setCell ?_ (by simp <;> omega) _) | refine Below.drew ?_))) (lt_below HLA1.out (by repeat (first | exact Below.refl _ _ | assumption | (refine bstep ?_ (below_drewN _ _)) | exact bstep (by assumption) (by assumption) | (refine bstep ?_ (below_alloc _ _)) | (refine bstep ?_ (by assumption)) | (refine Below.setCell ?_ (by simp <;> omega) _) | refine Below.drew ?_))) fr4 (fun k h1 h2 => by have q1 := RGA1.out k h1; rcases h2 with h8 | h8 <;> first | (have q9 := RGA2.out _ h8; omega) | (have q9 := RGB2.out _ h8; omega)))
  have HLA1_4 := Lib.hid (lt_fr (lt_below HLA1.out (by repeat (first | exact Below.refl _ _ | assumption | (refine bstep ?_ (below_drewN _ _)) | exact bstep (by assumption) (by assumption) | (refine bstep ?_ (below_alloc _ _)) | (refine bstep ?_ (by assumption)) | (refine Below.setCell ?_ (by simp <;> omega) _) | refine Below.drew ?_))) fr4)
  have WRA1_4 := Lib.hid (Wr.fr ((own_wr2 OWA1.out).below (by repeat (first | exact Below.refl _ _ | assumption | (refine bstep ?_ (below_drewN _ _)) | exact bstep (by assumption) (by assumption) | (refine bstep ?_ (below_alloc _ _)) | (refine bstep ?_ (by assumption)) | (refine Below.setCell ?_ (by simp <;> omega) _) | refine Below.drew ?_))) fr4 (fun k h1 h2 => by have q1 := RGA1.out k h1; rcases h2 with h8 | h8 <;> first | (have q9 := RGA2.out _ h8; omega) | (have q9 := RGB2.out _ h8; omega)))
  have RDB1_4 := Lib.hid (Rd.fr (RDB1.out.below HLB1.out (by repeat (first | exact Below.refl _ _ | assumption | (refine bstep ?_ (below_drewN _ _)) | exact bstep (by assumption) (by assumption) | (refine bstep ?_ (below_alloc _ _)) | (refine bstep ?_ (by assumption)) | (refine Below.setCell ?_ (by simp <;> omega) _) | refine Below.drew ?_))) (lt_below HLB1.out (by repeat (first | exact Below.refl _ _ | assumption | (refine bstep ?_ (below_drewN _ _)) | exact bstep (by assumption) (by assumption) | (refine bstep ?_ (below_alloc _ _)) | (refine bstep ?_ (by assumption)) | (refine Below.setCell ?_ (by simp <;> omega) _) | refine Below.drew ?_))) fr4 (fun k h1 h2 => by have q1 := RGB1.out k h1; rcases h2 with h8 | h8 <;> first | (have q9 := RGA2.out _ h8; omega) | (have q9 := RGB2.out _ h8; omega)))
  have HLB1_4 := Lib.hid (lt_fr (lt_below HLB1.out (by repeat (first | exact Below.refl _ _ | assumption | (refine bstep ?_ (below_drewN _ _)) | exact bstep (by assumption) (by assumption) | (refine bstep ?_ (below_alloc _ _)) | (refine bstep ?_ (by assumption)) | (refine Below.setCell ?_ (by simp <;> omega) _) | refine Below.drew ?_))) fr4)
  have WRB1_4 := Lib.hid (Wr.fr ((own_wr2 OWB1.out).below (by repeat (first | exact Below.refl _ _ | assumption | (refine bstep ?_ (below_drewN _ _)) | exact bstep (by assumption) (by assumption) | (refine bstep ?_ (below_alloc _ _)) | (refine bstep ?_ (by assumption)) | (refine Below.setCell ?_ (by simp <;> omega) _) | refine Below.drew ?_))) fr4 (fun k h1 h2 => by have q1 := RGB1.out k h1; rcases h2 with h8 | h8 <;> first | (have q9 := RGA2.out _ h8; omega) | (have q9 := RGB2.out _ h8; omega)))
  have RMA2 := Lib.hid rda4
  have HLA2_4 := Lib.hid (lt_fr (lt_below HLA2.out (by repeat (first | exact Below.refl _ _ | assumption | (refine bstep ?_ (below_drewN _ _)) | exact bstep (by assumption) (by assumption) | (refine bstep ?_ (below_alloc _ _)) | (refine bstep ?_ (by assumption)) | (refine Below.setCell ?_ (by simp <;> omega) _) | refine Below.drew ?_))) fr4)
  clear rda4
  have RMB2 := Lib.hid rdb4
  have HLB2_4 := Lib.hid (lt_fr (lt_below HLB2.out (by repeat (first | exact Below.refl _ _ | assumption | (refine bstep ?_ (below_drewN _ _)) | exact bstep (by assumption) (by assumption) | (refine bstep ?_ (below_alloc _ _)) | (refine bstep ?_ (by assumption)) | (refine Below.setCell ?_ (by simp <;> omega) _) | refine Below.drew ?_))) fr4)
  clear rdb4
  go_wp2_with fail
  refine (heldTopo_any A2 B2 _ c2 _ d2 _ HLE.out HLN.out (RMA2.out.below HLA2_4.out (by repeat (first | exact Below.refl _ _ | assumption | (refine bstep ?_ (below_drewN _ _)) | exact bstep (by assumption) (by assumption) | (refine bstep ?_ (below_alloc _ _)) | (refine bstep ?_ (by assumption)) | (refine Below.setCell ?_ (by simp <;> omega) _) | refine Below.drew ?_))) (RMB2.out.below HLB2_4.out (by repeat (first | exact Below.refl _ _ | assumption | (refine bstep ?_ (below_drewN _ _)) | exact bstep (by assumption) (by assumption) | (refine bstep ?_ (below_alloc _ _)) | (refine bstep ?_ (by assumption)) | (refine Below.setCell ?_ (by simp <;> omega) _) | refine Below.drew ?_))) (lt_below HLA2_4.out (by repeat (first | exact Below.refl _ _ | assumption | (refine bstep ?_ (below_drewN _ _)) | exact bstep (by assumption) (by assumption) | (refine bstep ?_ (below_alloc _ _)) | (refine bstep ?_ (by assumption)) | (refine Below.setCell ?_ (by simp <;> omega) _) | refine Below.drew ?_))) (lt_below HLB2_4.out (by repeat (first | exact Below.refl _ _ | assumption | (refine bstep ?_ (below_drewN _ _)) | exact bstep (by assumption) (by assumption) | (refine bstep ?_ (below_alloc _ _)) | (refine bstep ?_ (by assumption)) | (refine Below.setCell ?_ (by simp <;> omega) _) | refine Below.drew ?_)))).mono ?_
  rintro e w5 ⟨rfl, hb5⟩
  have hs5 := hb5.size
  (try simp at hs5)
  have hy5_0 : w1.heap.size < w5.heap.size := by omega
  have hk5_0 := fun o => hb5.cell (p := ⟨w1.heap.size, o, none⟩) (by first | omega | (simp <;> omega))
  have hg5_0 := fun o => hb5.frozen (p := ⟨w1.heap.size, o, none⟩) (by first | omega | (simp <;> omega))
  have hy5_1 : w2.heap.size < w5.heap.size := by omega
  have hk5_1 := fun o => hb5.cell (p := ⟨w2.heap.size, o, none⟩) (by first | omega | (simp <;> omega))
  have hg5_1 := fun o => hb5.frozen (p := ⟨w2.heap.size, o, none⟩) (by first | omega | (simp <;> omega))
  go_wp2_with fail
  refine (C2.out _).mono ?_
  rintro e w6 ⟨u6, v6, rfl, own6a, own6b, hb6⟩
  have hs6 := hb6.size
  (try simp at hs6)
  have hy6_0 : w1.heap.size < w6.heap.size := by omega
  have hk6_0 := fun o => hb6.cell (p := ⟨w1.heap.size, o, none⟩) (by first | omega | (simp <;> omega))
  have hg6_0 := fun o => hb6.frozen (p := ⟨w1.heap.size, o, none⟩) (by first | omega | (simp <;> omega))
  have hy6_1 : w2.heap.size < w6.heap.size := by omega
  have hk6_1 := fun o => hb6.cell (p := ⟨w2.heap.size, o, none⟩) (by first | omega | (simp <;> omega))
  have hg6_1 := fun o => hb6.frozen (p := ⟨w2.heap.size, o, none⟩) (by first | omega | (simp <;> omega))
  obtain ⟨A6, c6, rfl, rd_A6⟩ := own_rd own6a
  have RDA6 := Lib.hid rd_A6
  have HLA6 := Lib.hid (own_blk own6a)
  have RGA6 : Hid (∀ k, atB A6 k → w5.heap.size ≤ k ∧ k < w6.heap.size) := Lib.hid (fun k hk => ⟨by have h9 := (own_rng own6a k hk).1; (try simp at h9); omega, (own_rng own6a k hk).2⟩)
  have OWA6 := Lib.hid own6a
  clear rd_A6 own6a
  obtain ⟨B6, d6, rfl, rd_B6⟩ := own_rd own6b
  have RDB6 := Lib.hid rd_B6
  have HLB6 := Lib.hid (own_blk own6b)
  have RGB6 : Hid (∀ k, atB B6 k → w5.heap.size ≤ k ∧ k < w6.heap.size) := Lib.hid (fun k hk => ⟨by have h9 := (own_rng own6b k hk).1; (try simp at h9); omega, (own_rng own6b k hk).2⟩)
  have OWB6 := Lib.hid own6b
  clear rd_B6 own6b
  have AP6 := Lib.hid (own_apart OWA6.out OWB6.out (by decide))
  go_wp2_with fail
  refine (eqTopo_any A6 A1 B6 B1 _ c6 c1 _ d6 d1 tp tn _ HLE.out HLN.out (RDA6.out.below HLA6.out (by repeat (first | exact Below.refl _ _ | assumption | (refine bstep ?_ (below_drewN _ _)) | exact bstep (by assumption) (by assumption) | (refine bstep ?_ (below_alloc _ _)) | (refine bstep ?_ (by assumption)) | (refine Below.setCell ?_ (by simp <;> omega) _) | refine Below.drew ?_))) (RDA1_4.out.below HLA1_4.out (by repeat (first | exact Below.refl _ _ | assumption | (refine bstep ?_ (below_drewN _ _)) | exact bstep (by assumption) (by assumption) | (refine bstep ?_ (below_alloc _ _)) | (refine bstep ?_ (by assumption)) | (refine Below.setCell ?_ (by simp <;> omega) _) | refine Below.drew ?_))) (RDB6.out.below HLB6.out (by repeat (first | exact Below.refl _ _ | assumption | (refine bstep ?_ (below_drewN _ _)) | exact bstep (by assumption) (by assumption) | (refine bstep ?_ (below_alloc _ _)) | (refine bstep ?_ (by assumption)) | (refine Below.setCell ?_ (by simp <;> omega) _) | refine Below.drew ?_))) (RDB1_4.out.below HLB1_4.out (by repeat (first | exact Below.refl _ _ | assumption | (refine bstep ?_ (below_drewN _ _)) | exact bstep (by assumption) (by assumption) | (refine bstep ?_ (below_alloc _ _)) | (refine bstep ?_ (by assumption)) | (refine Below.setCell ?_ (by simp <;> omega) _) | refine Below.drew ?_))) (lt_below HLA6.out (by repeat (first | exact Below.refl _ _ | assumption | (refine bstep ?_ (below_drewN _ _)) | exact bstep (by assumption) (by assumption) | (refine bstep ?_ (below_alloc _ _)) | (refine bstep ?_ (by assumption)) | (refine Below.setCell ?_ (by simp <;> omega) _) | refine Below.drew ?_))) (lt_below HLA1_4.out (by repeat (first | exact Below.refl _ _ | assumption | (refine bstep ?_ (below_drewN _ _)) | exact bstep (by assumption) (by assumption) | (refine bstep ?_ (below_alloc _ _)) | (refine bstep ?_ (by assumption)) | (refine Below.setCell ?_ (by simp <;> omega) _) | refine Below.drew ?_))) (lt_below HLB6.out (by repeat (first | exact Below.refl _ _ | assumption | (refine bstep ?_ (below_drewN _ _)) | exact bstep (by assumption) (by assumption) | (refine bstep ?_ (below_alloc _ _)) | (refine bstep ?_ (by assumption)) | (refine Below.setCell ?_ (by simp <;> omega) _) | refine Below.drew ?_))) (lt_below HLB1_4.out (by repeat (first | exact Below.refl _ _ | assumption | (refine bstep ?_ (below_drewN _ _)) | exact bstep (by assumption) (by assumption) | (refine bstep ?_ (below_alloc _ _)) | (refine bstep ?_ (by assumption)) | (refine Below.setCell ?_ (by simp <;> omega) _) | refine Below.drew ?_)))).mono ?_
  rintro e w7 ⟨rfl, hb7⟩
  have hs7 := hb7.size
  (try simp at hs7)
  have hy7_0 : w1.heap.size < w7.heap.size := by omega
  have hk7_0 := fun o => hb7.cell (p := ⟨w1.heap.size, o, none⟩) (by first | omega | (simp <;> omega))
  have hg7_0 := fun o => hb7.frozen (p := ⟨w1.heap.size, o, none⟩) (by first | omega | (simp <;> omega))
  have hy7_1 : w2.heap.size < w7.heap.size := by omega
  have hk7_1 := fun o => hb7.cell (p := ⟨w2.heap.size, o, none⟩) (by first | omega | (simp <;> omega))
  have hg7_1 := fun o => hb7.frozen (p := ⟨w2.heap.size, o, none⟩) (by first | omega | (simp <;> omega))
  have hy7_2 : w6.heap.size < w7.heap.size := by omega
  have hk7_2 := fun o => hb7.cell (p := ⟨w6.heap.size, o, none⟩) (by first | omega | (simp <;> omega))
  have hg7_2 := fun o => hb7.frozen (p := ⟨w6.heap.size, o, none⟩) (by first | omega | (simp <;> omega))
  go_wp2_with fail
  refine (heldTopo_any A2 B2 _ c2 _ d2 _ HLE.out HLN.out (RMA2.out.below HLA2_4.out (by repeat (first | exact Below.refl _ _ | assumption | (refine bstep ?_ (below_drewN _ _)) | exact bstep (by assumption) (by assumption) | (refine bstep ?_ (below_alloc _ _)) | (refine bstep ?_ (by assumption)) | (refine Below.setCell ?_ (by simp <;> omega) _) | refine Below.drew ?_))) (RMB2.out.below HLB2_4.out (by repeat (first | exact Below.refl _ _ | assumption | (refine bstep ?_ (below_drewN _ _)) | exact bstep (by assumption) (by assumption) | (refine bstep ?_ (below_alloc _ _)) | (refine bstep ?_ (by assumption)) | (refine Below.setCell ?_ (by simp <;> omega) _) | refine Below.drew ?_))) (lt_below HLA2_4.out (by repeat (first | exact Below.refl _ _ | assumption | (refine bstep ?_ (below_drewN _ _)) | exact bstep (by assumption) (by assumption) | (refine bstep ?_ (below_alloc _ _)) | (refine bstep ?_ (by assumption)) | (refine Below.setCell ?_ (by simp <;> omega) _) | refine Below.drew ?_))) (lt_below HLB2_4.out (by repeat (first | exact Below.refl _ _ | assumption | (refine bstep ?_ (below_drewN _ _)) | exact bstep (by assumption) (by assumption) | (refine bstep ?_ (below_alloc _ _)) | (refine bstep ?_ (by assumption)) | (refine Below.setCell ?_ (by simp <;> omega) _) | refine Below.drew ?_)))).mono ?_
  rintro e w8 ⟨rfl, hb8⟩
  have hs8 := hb8.size
  (try simp at hs8)
  have hy8_0 : w1.heap.size < w8.heap.size := by omega
  have hk8_0 := fun o => hb8.cell (p := ⟨w1.heap.size, o, none⟩) (by first | omega | (simp <;> omega))
  have hg8_0 := fun o => hb8.frozen (p := ⟨w1.heap.size, o, none⟩) (by first | omega | (simp <;> omega))
  have hy8_1 : w2.heap.size < w8.heap.size := by omega
  have hk8_1 := fun o => hb8.cell (p := ⟨w2.heap.size, o, none⟩) (by first | omega | (simp <;> omega))
  have hg8_1 := fun o => hb8.frozen (p := ⟨w2.heap.size, o, none⟩) (by first | omega | (simp <;> omega))
  have hy8_2 : w6.heap.size < w8.heap.size := by omega
  have hk8_2 := fun o => hb8.cell (p := ⟨w6.heap.size, o, none⟩) (by first | omega | (simp <;> omega))
  have hg8_2 := fun o => hb8.frozen (p := ⟨w6.heap.size, o, none⟩) (by first | omega | (simp <;> omega))
  go_wp2
  go_ret
  exact ⟨rfl, (by repeat (first | exact Below.refl _ _ | assumption | (refine bstep ?_ (below_drewN _ _)) | exact bstep (by assumption) (by assumption) | (refine bstep ?_ (below_alloc _ _)) | (refine bstep ?_ (by assumption)) | (refine Below.setCell ?_ (by simp <;> omega) _) | refine Below.drew ?_ | (refine Below.trans ?_ (by assumption))))⟩
theorem law_textTopo (s : ByteArray) (w : World) (hs : s.size ≤ maxLen) :
    Calls Try.prog 24 #[.string s] w fun e w' => e = .returned (.bool true) ∧ Below w.heap.size w w' := by
  by_cases h : s.size ≤ 1048576
  · exact law_textTopo_small s w h
  · have h' : (1048576 : Int) < s.size := by omega
    unfold maxLen at hs
    go_enter Try.func24, Try.ntmps24
    go_wp2
    go_ret
    exact ⟨rfl, Below.refl _ _⟩
end Go.Proofs.Ytjnfdcojccgfoaa
