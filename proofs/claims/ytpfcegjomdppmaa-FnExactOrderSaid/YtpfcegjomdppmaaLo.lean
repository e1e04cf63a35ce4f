/-
  The law of Order.
-/
import Derived.Test.YtpfcegjomdppmaaOp
import Derived.Test.YtpfcegjomdppmaaOq
import Derived.Test.YtpfcegjomdppmaaOh
import Derived.Test.YtpfcegjomdppmaaA3
import Derived.Test.YtpfcegjomdppmaaA0
namespace Go.Proofs.Ytpfcegjomdppmaa
set_option linter.unusedSimpArgs false
set_option linter.unusedVariables false
set_option linter.unnecessarySimpa false
open Go.RowKit
theorem OrderV_len (js : List J) : (OrderV js).length ≤ 1048577 := by
  unfold OrderV
  split
  · rename_i h; have := (queue_parts h).1; rw [orderV_len]; omega
  · simp

set_option maxHeartbeats 2000000 in
theorem Order_any (A : Option Addr) (n c lo : Nat) (js : List J) (w : World) (hn : n ≤ 1048576) (ho : w.ownsRow lo 118 11 (.slice A n c) n (jflat js)) :
    Calls Try.prog 31 #[.slice A n c] w fun e w' => ∃ v, e = .returned v ∧ w'.ownsRow w.heap.size 118 11 v (OrderV js).length (jflat (OrderV js)) ∧ Below w.heap.size w w' := by
  have hf : n ≤ c ∧ c ≤ 9223372036854775807 ∧ ((A = none ∧ n = 0 ∧ c = 0) ∨ ∃ g, A = some ⟨g, 0, none⟩ ∧ g < w.heap.size) := by
    rcases ho.2 with ⟨h0, h1⟩ | ⟨g, cap, cur, hv, hg, hh, h1, h2, _⟩
    · cases h0; exact ⟨Nat.le_refl _, by omega, Or.inl ⟨rfl, rfl, rfl⟩⟩
    · cases hv; exact ⟨h1, by unfold maxLen at h2; omega, Or.inr ⟨g, rfl, heap_lt hh⟩⟩
  obtain ⟨hnc, hc9, hA⟩ := hf
  have HN := Lib.hid hn
  have HO := Lib.hid ho
  have HC1 := Lib.hid hnc
  have HC2 := Lib.hid hc9
  have HA := Lib.hid hA
  have hjl := (own_rdd' ho).jlen
  have HJ := Lib.hid hjl
  clear hn ho hnc hc9 hA hjl
  cases hq : queueB js
  · have HE : Hid (OrderV js = []) := Lib.hid (by unfold OrderV; rw [hq]; rfl)
    have HQ := Lib.hid hq
    clear hq
    go_enter Try.func31, Try.ntmps31
    go_wp2_with fail
    refine (queueOk_any A n c js _ HN.out (own_rdd' HO.out) (own_blk HO.out) HC1.out HC2.out).mono ?_
    rintro e w1 ⟨rfl, hb1⟩
    have hs1 := hb1.size
    (try simp at hs1)
    rw [HQ.out]
    go_wp2
    go_ret
    exact ⟨_, rfl, by rw [HE.out]; exact own_nil _ _ _ _, (by repeat (first | exact Below.refl _ _ | assumption | (refine bstep ?_ (below_drewN _ _)) | exact bstep (by assumption) (by assumption) | (refine bstep ?_ (below_alloc _ _)) | (refine bstep ?_ (by assumption)) | (refine Below.setCell ?_ (by simp <;> omega) _) | refine Below.drew ?_))⟩
  · have HE : Hid (OrderV js = orderV js) := Lib.hid (by unfold OrderV; rw [hq]; rfl)
    have hp := queue_parts hq
    have h60 : n ≤ 60 := by have := hp.1; have := HJ.out; omega
    have H60 := Lib.hid h60
    have HP := Lib.hid hp
    have HQ := Lib.hid hq
    clear hq hp h60
    go_enter Try.func31, Try.ntmps31
    go_wp2_with fail
    refine (queueOk_any A n c js _ HN.out (own_rdd' HO.out) (own_blk HO.out) HC1.out HC2.out).mono ?_
    rintro e w1 ⟨rfl, hb1⟩
    have hs1 := hb1.size
    (try simp at hs1)
    rw [HQ.out]
    have HA1 : Hid ((A = none ∧ n = 0 ∧ c = 0) ∨ ∃ g, A = some ⟨g, 0, none⟩ ∧ g < w1.heap.size) := Lib.hid (by
      rcases HA.out with h | ⟨g, h1, h2⟩
      · exact Or.inl h
      · exact Or.inr ⟨g, h1, by omega⟩)
    go_wp2_with fail
    refine (order_any A n c js _ H60.out (own_rdd' (own_bel HO.out hb1)) HA1.out HP.out.2.1 HP.out.2.2).mono ?_
    rintro e w2 ⟨v2, rfl, own2, hb2⟩
    have hs2 := hb2.size
    have HO2 := Lib.hid own2
    clear own2
    obtain ⟨X2, c2, rfl, _⟩ := own_rd HO2.out
    go_wp2
    go_ret
    exact ⟨_, rfl, by rw [HE.out]; exact own_mono HO2.out (by omega), (by repeat (first | exact Below.refl _ _ | assumption | (refine bstep ?_ (below_drewN _ _)) | exact bstep (by assumption) (by assumption) | (refine bstep ?_ (below_alloc _ _)) | (refine bstep ?_ (by assumption)) | (refine Below.setCell ?_ (by simp <;> omega) _) | refine Below.drew ?_))⟩

set_option maxHeartbeats 4000000 in
theorem law_order_big (A : Option Addr) (n c : Nat) (w : World) (hn : n ≤ maxLen) (hb : ¬ n ≤ 1048576) :
    Calls Try.prog 5 #[.slice A n c] w fun e w' => e = .returned (.bool true) ∧ Below w.heap.size w w' := by
  have hz : szOf 1048576 n = -1 := if_neg (by omega)
  have HN := Lib.hid hn
  have HZ := Lib.hid hz
  clear hn hb hz
  go_enter Try.func5, Try.ntmps5
  go_wp2_with fail
  refine (szJobS_any A n c 1048576 _ (by omega) (by omega) HN.out).mono ?_
  rintro e w1 ⟨rfl, hw1⟩
  have hb1 := below_same hw1
  clear hw1
  rw [HZ.out]
  go_wp2
  go_ret
  exact ⟨rfl, (by repeat (first | exact Below.refl _ _ | assumption | (refine bstep ?_ (below_drewN _ _)) | exact bstep (by assumption) (by assumption) | (refine bstep ?_ (below_alloc _ _)) | (refine bstep ?_ (by assumption)) | (refine Below.setCell ?_ (by simp <;> omega) _) | refine Below.drew ?_))⟩
set_option maxHeartbeats 8000000 in
theorem law_order_small (A : Option Addr) (n c : Nat) (js : List J) (w : World) (hn : n ≤ 1048576) (hr : RdJ w A n js) :
    Calls Try.prog 5 #[.slice A n c] w fun e w' => e = .returned (.bool true) ∧ Below w.heap.size w w' := by
  have hz : ¬ szOf 1048576 n < 0 := by unfold szOf; split <;> omega
  obtain ⟨OV, hOV⟩ : ∃ y, y = OrderV js := ⟨_, rfl⟩
  have hlen : OV.length ≤ 1048577 := by rw [hOV]; exact OrderV_len js
  have HLE := Lib.hid hlen
  have HN := Lib.hid hn
  have HR := Lib.hid hr
  have HSC : Hid (∀ (A' : Option Addr) (c' : Nat) (W : World), Rd W A' n 11 (jflat js) → (∀ g, A' = some ⟨g, 0, none⟩ → g < W.heap.size) → Calls Try.prog 29 #[.slice A' n c'] W fun e W' => ∃ v, e = .returned v ∧ W'.ownsRow W.heap.size 118 11 v OV.length (jflat OV) ∧ Below W.heap.size W W') := Lib.hid (fun A' c' W h1 h2 => by rw [hOV]; exact sorder_any A' n c' js W HN.out h1 h2)
  have HIC : Hid (∀ (A' : Option Addr) (c' lo : Nat) (W : World), W.ownsRow lo 118 11 (.slice A' n c') n (jflat js) → Calls Try.prog 31 #[.slice A' n c'] W fun e W' => ∃ v, e = .returned v ∧ W'.ownsRow W.heap.size 118 11 v OV.length (jflat OV) ∧ Below W.heap.size W W') := Lib.hid (fun A' c' lo W h1 => by rw [hOV]; exact Order_any A' n c' lo js W HN.out h1)
  clear hn hr hOV hlen
  go_enter Try.func5, Try.ntmps5
  go_wp2_with fail
  refine (szJobS_any A n c 1048576 _ (by omega) (by omega) (Nat.le_trans HN.out (by decide))).mono ?_
  rintro e w1 ⟨rfl, hw1⟩
  have hb1 := below_same hw1
  clear hw1
  have hs1 := hb1.size
  (try simp at hs1)
  go_wp2_with fail
  refine (toJobS_any A n c js _ HN.out (HR.out.below (by repeat (first | exact Below.refl _ _ | assumption | (refine bstep ?_ (below_drewN _ _)) | exact bstep (by assumption) (by assumption) | (refine bstep ?_ (below_alloc _ _)) | (refine bstep ?_ (by assumption)) | (refine Below.setCell ?_ (by simp <;> omega) _) | refine Below.drew ?_ | (refine Below.trans ?_ (by assumption)))))).mono ?_
  rintro e w2 ⟨v2, rfl, own2, hb2⟩
  have hs2 := hb2.size
  (try simp at hs2)
  obtain ⟨A2, c2, rfl, rd_A2⟩ := own_rd own2
  have RDA2 := Lib.hid rd_A2
  have HLA2 := Lib.hid (own_blk own2)
  have RGA2 : Hid (∀ k, atB A2 k → w1.heap.size ≤ k ∧ k < w2.heap.size) := Lib.hid (fun k hk => ⟨by have h9 := (own_rng own2 k hk).1; (try simp at h9); omega, (own_rng own2 k hk).2⟩)
  have OWA2 := Lib.hid own2
  clear rd_A2 own2
  go_wp2_with fail
  refine (HSC.out A2 c2 _ RDA2.out HLA2.out).mono ?_
  rintro e w3 ⟨v3, rfl, own3, hb3⟩
  have hs3 := hb3.size
  (try simp at hs3)
  obtain ⟨A3, c3, rfl, rd_A3⟩ := own_rd own3
  have RDA3 := Lib.hid rd_A3
  have HLA3 := Lib.hid (own_blk own3)
  have RGA3 : Hid (∀ k, atB A3 k → w2.heap.size ≤ k ∧ k < w3.heap.size) := Lib.hid (fun k hk => ⟨by have h9 := (own_rng own3 k hk).1; (try simp at h9); omega, (own_rng own3 k hk).2⟩)
  have OWA3 := Lib.hid own3
  clear rd_A3 own3
  go_wp2_with fail
  refine (toJobS_any A n c js _ HN.out (HR.out.below (by repeat (first | exact Below.refl _ _ | assumption | (refine bstep ?_ (below_drewN _ _)) | exact bstep (by assumption) (by assumption) | (refine bstep ?_ (below_alloc _ _)) | (refine bstep ?_ (by assumption)) | (refine Below.setCell ?_ (by simp <;> omega) _) | refine Below.drew ?_ | (refine Below.trans ?_ (by assumption)))))).mono ?_
  rintro e w4 ⟨v4, rfl, own4, hb4⟩
  have hs4 := hb4.size
  (try simp at hs4)
  obtain ⟨A4, c4, rfl, rd_A4⟩ := own_rd own4
  have RDA4 := Lib.hid rd_A4
  have HLA4 := Lib.hid (own_blk own4)
  have RGA4 : Hid (∀ k, atB A4 k → w3.heap.size ≤ k ∧ k < w4.heap.size) := Lib.hid (fun k hk => ⟨by have h9 := (own_rng own4 k hk).1; (try simp at h9); omega, (own_rng own4 k hk).2⟩)
  have OWA4 := Lib.hid own4
  clear rd_A4 own4
  go_wp2_with fail
  refine (HIC.out A4 c4 _ _ OWA4.out).mono ?_
  rintro e w5 ⟨v5, rfl, own5, hb5⟩
  have hs5 := hb5.size
  (try simp at hs5)
  obtain ⟨A5, c5, rfl, rd_A5⟩ := own_rd own5
  have RDA5 := Lib.hid rd_A5
  have HLA5 := Lib.hid (own_blk own5)
  have RGA5 : Hid (∀ k, atB A5 k → w4.heap.size ≤ k ∧ k < w5.heap.size) := Lib.hid (fun k hk => ⟨by have h9 := (own_rng own5 k hk).1; (try simp at h9); omega, (own_rng own5 k hk).2⟩)
  have OWA5 := Lib.hid own5
  clear rd_A5 own5
  go_wp2_with fail
  refine (eqJobS_any A5 A3 _ c5 c3 (OV) _ HLE.out (RDA5.out.below HLA5.out (by repeat (first | exact Below.refl _ _ | assumption | (refine bstep ?_ (below_drewN _ _)) | exact bstep (by assumption) (by assumption) | (refine bstep ?_ (below_alloc _ _)) | (refine bstep ?_ (by assumption)) | (refine Below.setCell ?_ (by simp <;> omega) _) | refine Below.drew ?_))) (RDA3.out.below HLA3.out (by repeat (first | exact Below.refl _ _ | assumption | (refine bstep ?_ (below_drewN _ _)) | exact bstep (by assumption) (by assumption) | (refine bstep ?_ (below_alloc _ _)) | (refine bstep ?_ (by assumption)) | (refine Below.setCell ?_ (by simp <;> omega) _) | refine Below.drew ?_))) (lt_below HLA5.out (by repeat (first | exact Below.refl _ _ | assumption | (refine bstep ?_ (below_drewN _ _)) | exact bstep (by assumption) (by assumption) | (refine bstep ?_ (below_alloc _ _)) | (refine bstep ?_ (by assumption)) | (refine Below.setCell ?_ (by simp <;> omega) _) | refine Below.drew ?_))) (lt_below HLA3.out (by repeat (first | exact Below.refl _ _ | assumption | (refine bstep ?_ (below_drewN _ _)) | exact bstep (by assumption) (by assumption) | (refine bstep ?_ (below_alloc _ _)) | (refine bstep ?_ (by assumption)) | (refine Below.setCell ?_ (by simp <;> omega) _) | refine Below.drew ?_)))).mono ?_
  rintro e w6 ⟨rfl, hb6⟩
  have hs6 := hb6.size
  (try simp at hs6)
  go_wp2_with fail
  refine (toJobS_any A n c js _ HN.out (HR.out.below (by repeat (first | exact Below.refl _ _ | assumption | (refine bstep ?_ (below_drewN _ _)) | exact bstep (by assumption) (by assumption) | (refine bstep ?_ (below_alloc _ _)) | (refine bstep ?_ (by assumption)) | (refine Below.setCell ?_ (by simp <;> omega) _) | refine Below.drew ?_ | (refine Below.trans ?_ (by assumption)))))).mono ?_
  rintro e w7 ⟨v7, rfl, own7, hb7⟩
  have hs7 := hb7.size
  (try simp at hs7)
  obtain ⟨A7, c7, rfl, rd_A7⟩ := own_rd own7
  have RDA7 := Lib.hid rd_A7
  have HLA7 := Lib.hid (own_blk own7)
  have RGA7 : Hid (∀ k, atB A7 k → w6.heap.size ≤ k ∧ k < w7.heap.size) := Lib.hid (fun k hk => ⟨by have h9 := (own_rng own7 k hk).1; (try simp at h9); omega, (own_rng own7 k hk).2⟩)
  have OWA7 := Lib.hid own7
  clear rd_A7 own7
  go_wp2_with fail
  refine (eqJobS_any A4 A7 n c4 c7 (js) _ (Nat.le_succ_of_le HN.out) (RDA4.out.below HLA4.out (by repeat (first | exact Below.refl _ _ | assumption | (refine bstep ?_ (below_drewN _ _)) | exact bstep (by assumption) (by assumption) | (refine bstep ?_ (below_alloc _ _)) | (refine bstep ?_ (by assumption)) | (refine Below.setCell ?_ (by simp <;> omega) _) | refine Below.drew ?_))) (RDA7.out.below HLA7.out (by repeat (first | exact Below.refl _ _ | assumption | (refine bstep ?_ (below_drewN _ _)) | exact bstep (by assumption) (by assumption) | (refine bstep ?_ (below_alloc _ _)) | (refine bstep ?_ (by assumption)) | (refine Below.setCell ?_ (by simp <;> omega) _) | refine Below.drew ?_))) (lt_below HLA4.out (by repeat (first | exact Below.refl _ _ | assumption | (refine bstep ?_ (below_drewN _ _)) | exact bstep (by assumption) (by assumption) | (refine bstep ?_ (below_alloc _ _)) | (refine bstep ?_ (by assumption)) | (refine Below.setCell ?_ (by simp <;> omega) _) | refine Below.drew ?_))) (lt_below HLA7.out (by repeat (first | exact Below.refl _ _ | assumption | (refine bstep ?_ (below_drewN _ _)) | exact bstep (by assumption) (by assumption) | (refine bstep ?_ (below_alloc _ _)) | (refine bstep ?_ (by assumption)) | (refine Below.setCell ?_ (by simp <;> omega) _) | refine Below.drew ?_)))).mono ?_
  rintro e w8 ⟨rfl, hb8⟩
  have hs8 := hb8.size
  (try simp at hs8)
  go_wp2_with fail
  refine (markJobF A4 n c4 _ 1 _ (Nat.le_succ_of_le HN.out) (by omega) (by omega) ((own_wr2 OWA4.out).below (by repeat (first | exact Below.refl _ _ | assumption | (refine bstep ?_ (below_drewN _ _)) | exact bstep (by assumption) (by assumption) | (refine bstep ?_ (below_alloc _ _)) | (refine bstep ?_ (by assumption)) | (refine Below.setCell ?_ (by simp <;> omega) _) | refine Below.drew ?_)))).mono ?_
  rintro e w9 ⟨rfl, rd9, fr9⟩
  have hs9 := fr9.size
  (try simp at hs9)
  have hB9 : Below w.heap.size _ w9 := fr9.below (fun k hk => by have q9 := RGA4.out _ hk; omega) (by first | omega | (simp <;> omega))
  have RDA3_9 := Lib.hid (Rd.fr (RDA3.out.below HLA3.out (by repeat (first | exact Below.refl _ _ | assumption | (refine bstep ?_ (below_drewN _ _)) | exact bstep (by assumption) (by assumption) | (refine bstep ?_ (below_alloc _ _)) | (refine bstep ?_ (by assumption)) | (refine Below.setCell ?_ (by simp <;> omega) _) | refine Below.drew ?_))) (lt_below HLA3.out (by repeat (first | exact Below.refl _ _ | assumption | (refine bstep ?_ (below_drewN _ _)) | exact bstep (by assumption) (by assumption) | (refine bstep ?_ (below_alloc _ _)) | (refine bstep ?_ (by assumption)) | (refine Below.setCell ?_ (by simp <;> omega) _) | refine Below.drew ?_))) fr9 (fun k h1 h2 => by have q1 := RGA3.out k h1; have q9 := RGA4.out _ h2; omega))
  have HLA3_9 := Lib.hid (lt_fr (lt_below HLA3.out (by repeat (first | exact Below.refl _ _ | assumption | (refine bstep ?_ (below_drewN _ _)) | exact bstep (by assumption) (by assumption) | (refine bstep ?_ (below_alloc _ _)) | (refine bstep ?_ (by assumption)) | (refine Below.setCell ?_ (by simp <;> omega) _) | refine Below.drew ?_))) fr9)
  have WRA3_9 := Lib.hid (Wr.fr ((own_wr2 OWA3.out).below (by repeat (first | exact Below.refl _ _ | assumption | (refine bstep ?_ (below_drewN _ _)) | exact bstep (by assumption) (by assumption) | (refine bstep ?_ (below_alloc _ _)) | (refine bstep ?_ (by assumption)) | (refine Below.setCell ?_ (by simp <;> omega) _) | refine Below.drew ?_))) fr9 (fun k h1 h2 => by have q1 := RGA3.out k h1; have q9 := RGA4.out _ h2; omega))
  have RDA5_9 := Lib.hid (Rd.fr (RDA5.out.below HLA5.out (by repeat (first | exact Below.refl _ _ | assumption | (refine bstep ?_ (below_drewN _ _)) | exact bstep (by assumption) (by assumption) | (refine bstep ?_ (below_alloc _ _)) | (refine bstep ?_ (by assumption)) | (refine Below.setCell ?_ (by simp <;> omega) _) | refine Below.drew ?_))) (lt_below HLA5.out (by repeat (first | exact Below.refl _ _ | assumption | (refine bstep ?_ (below_drewN _ _)) | exact bstep (by assumption) (by assumption) | (refine bstep ?_ (below_alloc _ _)) | (refine bstep ?_ (by assumption)) | (refine Below.setCell ?_ (by simp <;> omega) _) | refine Below.drew ?_))) fr9 (fun k h1 h2 => by have q1 := RGA5.out k h1; have q9 := RGA4.out _ h2; omega))
  have HLA5_9 := Lib.hid (lt_fr (lt_below HLA5.out (by repeat (first | exact Below.refl _ _ | assumption | (refine bstep ?_ (below_drewN _ _)) | exact bstep (by assumption) (by assumption) | (refine bstep ?_ (below_alloc _ _)) | (refine bstep ?_ (by assumption)) | (refine Below.setCell ?_ (by simp <;> omega) _) | refine Below.drew ?_))) fr9)
  have WRA5_9 := Lib.hid (Wr.fr ((own_wr2 OWA5.out).below (by repeat (first | exact Below.refl _ _ | assumption | (refine bstep ?_ (below_drewN _ _)) | exact bstep (by assumption) (by assumption) | (refine bstep ?_ (below_alloc _ _)) | (refine bstep ?_ (by assumption)) | (refine Below.setCell ?_ (by simp <;> omega) _) | refine Below.drew ?_))) fr9 (fun k h1 h2 => by have q1 := RGA5.out k h1; have q9 := RGA4.out _ h2; omega))
  have RMA4 := Lib.hid rd9
  have HLA4_9 := Lib.hid (lt_fr (lt_below HLA4.out (by repeat (first | exact Below.refl _ _ | assumption | (refine bstep ?_ (below_drewN _ _)) | exact bstep (by assumption) (by assumption) | (refine bstep ?_ (below_alloc _ _)) | (refine bstep ?_ (by assumption)) | (refine Below.setCell ?_ (by simp <;> omega) _) | refine Below.drew ?_))) fr9)
  clear rd9
  go_wp2_with fail
  refine (eqJobS_any A5 A3 _ c5 c3 (OV) _ HLE.out (RDA5_9.out.below HLA5_9.out (by repeat (first | exact Below.refl _ _ | assumption | (refine bstep ?_ (below_drewN _ _)) | exact bstep (by assumption) (by assumption) | (refine bstep ?_ (below_alloc _ _)) | (refine bstep ?_ (by assumption)) | (refine Below.setCell ?_ (by simp <;> omega) _) | refine Below.drew ?_))) (RDA3_9.out.below HLA3_9.out (by repeat (first | exact Below.refl _ _ | assumption | (refine bstep ?_ (below_drewN _ _)) | exact bstep (by assumption) (by assumption) | (refine bstep ?_ (below_alloc _ _)) | (refine bstep ?_ (by assumption)) | (refine Below.setCell ?_ (by simp <;> omega) _) | refine Below.drew ?_))) (lt_below HLA5_9.out (by repeat (first | exact Below.refl _ _ | assumption | (refine bstep ?_ (below_drewN _ _)) | exact bstep (by assumption) (by assumption) | (refine bstep ?_ (below_alloc _ _)) | (refine bstep ?_ (by assumption)) | (refine Below.setCell ?_ (by simp <;> omega) _) | refine Below.drew ?_))) (lt_below HLA3_9.out (by repeat (first | exact Below.refl _ _ | assumption | (refine bstep ?_ (below_drewN _ _)) | exact bstep (by assumption) (by assumption) | (refine bstep ?_ (below_alloc _ _)) | (refine bstep ?_ (by assumption)) | (refine Below.setCell ?_ (by simp <;> omega) _) | refine Below.drew ?_)))).mono ?_
  rintro e w10 ⟨rfl, hb10⟩
  have hs10 := hb10.size
  (try simp at hs10)
  go_wp2_with fail
  refine (markJobF A5 _ c5 _ 1 _ HLE.out (by omega) (by omega) ((WRA5_9.out).below (by repeat (first | exact Below.refl _ _ | assumption | (refine bstep ?_ (below_drewN _ _)) | exact bstep (by assumption) (by assumption) | (refine bstep ?_ (below_alloc _ _)) | (refine bstep ?_ (by assumption)) | (refine Below.setCell ?_ (by simp <;> omega) _) | refine Below.drew ?_)))).mono ?_
  rintro e w11 ⟨rfl, rd11, fr11⟩
  have hs11 := fr11.size
  (try simp at hs11)
  have hB11 : Below w.heap.size _ w11 := fr11.below (fun k hk => by have q9 := RGA5.out _ hk; omega) (by first | omega | (simp <;> omega))
  have RDA3_11 := Lib.hid (Rd.fr (RDA3_9.out.below HLA3_9.out (by repeat (first | exact Below.refl _ _ | assumption | (refine bstep ?_ (below_drewN _ _)) | exact bstep (by assumption) (by assumption) | (refine bstep ?_ (below_alloc _ _)) | (refine bstep ?_ (by assumption)) | (refine Below.setCell ?_ (by simp <;> omega) _) | refine Below.drew ?_))) (lt_below HLA3_9.out (by repeat (first | exact Below.refl _ _ | assumption | (refine bstep ?_ (below_drewN _ _)) | exact bstep (by assumption) (by assumption) | (refine bstep ?_ (below_alloc _ _)) | (refine bstep ?_ (by assumption)) | (refine Below.setCell ?_ (by simp <;> omega) _) | refine Below.drew ?_))) fr11 (fun k h1 h2 => by have q1 := RGA3.out k h1; have q9 := RGA5.out _ h2; omega))
  have HLA3_11 := Lib.hid (lt_fr (lt_below HLA3_9.out (by repeat (first | exact Below.refl _ _ | assumption | (refine bstep ?_ (below_drewN _ _)) | exact bstep (by assumption) (by assumption) | (refine bstep ?_ (below_alloc _ _)) | (refine bstep ?_ (by assumption)) | (refine Below.setCell ?_ (by simp <;> omega) _) | refine Below.drew ?_))) fr11)
  have WRA3_11 := Lib.hid (Wr.fr ((WRA3_9.out).below (by repeat (first | exact Below.refl _ _ | assumption | (refine bstep ?_ (below_drewN _ _)) | exact bstep (by assumption) (by assumption) | (refine bstep ?_ (below_alloc _ _)) | (refine bstep ?_ (by assumption)) | (refine Below.setCell ?_ (by simp <;> omega) _) | refine Below.drew ?_))) fr11 (fun k h1 h2 => by have q1 := RGA3.out k h1; have q9 := RGA5.out _ h2; omega))
  have RMA5 := Lib.hid rd11
  have HLA5_11 := Lib.hid (lt_fr (lt_below HLA5_9.out (by repeat (first | exact Below.refl _ _ | assumption | (refine bstep ?_ (below_drewN _ _)) | exact bstep (by assumption) (by assumption) | (refine bstep ?_ (below_alloc _ _)) | (refine bstep ?_ (by assumption)) | (refine Below.setCell ?_ (by simp <;> omega) _) | refine Below.drew ?_))) fr11)
  clear rd11
  go_wp2_with fail
  refine (heldJob_any A5 _ c5 1 _ HLE.out (by omega) (by omega) (RMA5.out.below HLA5_11.out (by repeat (first | exact Below.refl _ _ | assumption | (refine bstep ?_ (below_drewN _ _)) | exact bstep (by assumption) (by assumption) | (refine bstep ?_ (below_alloc _ _)) | (refine bstep ?_ (by assumption)) | (refine Below.setCell ?_ (by simp <;> omega) _) | refine Below.drew ?_)))).mono ?_
  rintro e w12 ⟨rfl, hw12⟩
  have hb12 := below_same hw12
  clear hw12
  have hs12 := hb12.size
  (try simp at hs12)
  go_wp2_with fail
  refine (toJobS_any A n c js _ HN.out (HR.out.below (by repeat (first | exact Below.refl _ _ | assumption | (refine bstep ?_ (below_drewN _ _)) | exact bstep (by assumption) (by assumption) | (refine bstep ?_ (below_alloc _ _)) | (refine bstep ?_ (by assumption)) | (refine Below.setCell ?_ (by simp <;> omega) _) | refine Below.drew ?_ | (refine Below.trans ?_ (by assumption)))))).mono ?_
  rintro e w13 ⟨v13, rfl, own13, hb13⟩
  have hs13 := hb13.size
  (try simp at hs13)
  obtain ⟨A13, c13, rfl, rd_A13⟩ := own_rd own13
  have RDA13 := Lib.hid rd_A13
  have HLA13 := Lib.hid (own_blk own13)
  have RGA13 : Hid (∀ k, atB A13 k → w12.heap.size ≤ k ∧ k < w13.heap.size) := Lib.hid (fun k hk => ⟨by have h9 := (own_rng own13 k hk).1; (try simp at h9); omega, (own_rng own13 k hk).2⟩)
  have OWA13 := Lib.hid own13
  clear rd_A13 own13
  go_wp2_with fail
  refine (HIC.out A13 c13 _ _ OWA13.out).mono ?_
  rintro e w14 ⟨v14, rfl, own14, hb14⟩
  have hs14 := hb14.size
  (try simp at hs14)
  obtain ⟨A14, c14, rfl, rd_A14⟩ := own_rd own14
  have RDA14 := Lib.hid rd_A14
  have HLA14 := Lib.hid (own_blk own14)
  have RGA14 : Hid (∀ k, atB A14 k → w13.heap.size ≤ k ∧ k < w14.heap.size) := Lib.hid (fun k hk => ⟨by have h9 := (own_rng own14 k hk).1; (try simp at h9); omega, (own_rng own14 k hk).2⟩)
  have OWA14 := Lib.hid own14
  clear rd_A14 own14
  go_wp2_with fail
  refine (eqJobS_any A14 A3 _ c14 c3 (OV) _ HLE.out (RDA14.out.below HLA14.out (by repeat (first | exact Below.refl _ _ | assumption | (refine bstep ?_ (below_drewN _ _)) | exact bstep (by assumption) (by assumption) | (refine bstep ?_ (below_alloc _ _)) | (refine bstep ?_ (by assumption)) | (refine Below.setCell ?_ (by simp <;> omega) _) | refine Below.drew ?_))) (RDA3_11.out.below HLA3_11.out (by repeat (first | exact Below.refl _ _ | assumption | (refine bstep ?_ (below_drewN _ _)) | exact bstep (by assumption) (by assumption) | (refine bstep ?_ (below_alloc _ _)) | (refine bstep ?_ (by assumption)) | (refine Below.setCell ?_ (by simp <;> omega) _) | refine Below.drew ?_))) (lt_below HLA14.out (by repeat (first | exact Below.refl _ _ | assumption | (refine bstep ?_ (below_drewN _ _)) | exact bstep (by assumption) (by assumption) | (refine bstep ?_ (below_alloc _ _)) | (refine bstep ?_ (by assumption)) | (refine Below.setCell ?_ (by simp <;> omega) _) | refine Below.drew ?_))) (lt_below HLA3_11.out (by repeat (first | exact Below.refl _ _ | assumption | (refine bstep ?_ (below_drewN _ _)) | exact bstep (by assumption) (by assumption) | (refine bstep ?_ (below_alloc _ _)) | (refine bstep ?_ (by assumption)) | (refine Below.setCell ?_ (by simp <;> omega) _) | refine Below.drew ?_)))).mono ?_
  rintro e w15 ⟨rfl, hb15⟩
  have hs15 := hb15.size
  (try simp at hs15)
  go_wp2_with fail
  refine (heldJob_any A5 _ c5 1 _ HLE.out (by omega) (by omega) (RMA5.out.below HLA5_11.out (by repeat (first | exact Below.refl _ _ | assumption | (refine bstep ?_ (below_drewN _ _)) | exact bstep (by assumption) (by assumption) | (refine bstep ?_ (below_alloc _ _)) | (refine bstep ?_ (by assumption)) | (refine Below.setCell ?_ (by simp <;> omega) _) | refine Below.drew ?_)))).mono ?_
  rintro e w16 ⟨rfl, hw16⟩
  have hb16 := below_same hw16
  clear hw16
  have hs16 := hb16.size
  (try simp at hs16)
  go_wp2
  go_ret
  exact ⟨rfl, (by repeat (first | exact Below.refl _ _ | assumption | (refine bstep ?_ (below_drewN _ _)) | exact bstep (by assumption) (by assumption) | (refine bstep ?_ (below_alloc _ _)) | (refine bstep ?_ (by assumption)) | (refine Below.setCell ?_ (by simp <;> omega) _) | refine Below.drew ?_ | (refine Below.trans ?_ (by assumption))))⟩
theorem law_order (A : Option Addr) (n c : Nat) (js : List J) (w : World) (hn : n ≤ maxLen) (hr : RdJ w A n js) :
    Calls Try.prog 5 #[.slice A n c] w fun e w' => e = .returned (.bool true) ∧ Below w.heap.size w w' := by
  by_cases h : n ≤ 1048576
  · exact law_order_small A n c js w h hr
  · exact law_order_big A n c w hn h
end Go.Proofs.Ytpfcegjomdppmaa
