/-
  The law of Choose.
-/
import Derived.Test.YtdppjjdhidkjoaaCk
import Derived.Test.YtdppjjdhidkjoaaA6
import Derived.Test.YtdppjjdhidkjoaaA3
namespace Go.Proofs.Ytdppjjdhidkjoaa
set_option linter.unusedSimpArgs false
set_option linter.unusedVariables false
set_option linter.unnecessarySimpa false
open Go.RowKit
theorem chLs_len (ps : List Int) (ns : List Q) (nd : List Int) (nn most : Int) (h : nd.length ≤ 1048576) : (chL_ ps ns nd nn most).length ≤ 1048577 := by
  unfold chL_
  cases hc : ChooseV ps ns nd nn most with
  | none => simp
  | some out =>
    unfold ChooseV at hc
    split at hc
    · rename_i hg
      unfold chooseV at hc
      split at hc
      · cases hc
      · have hn : nd.Nodup := asc_nodup hg
        injection hc with hc
        subst hc
        have h1 : (undr ps ns nd (bestN ps ns nd nn.toNat most ps.length).toNat).Nodup := hn.filter _
        have h2 := undr_len ps ns nd (bestN ps ns nd nn.toNat most ps.length).toNat
        unfold outV
        simp only [Option.getD_some]
        rw [riseAll_len, List.length_take, flatG_len h1 (sortL_isL _ _)]
        omega
    · cases hc

set_option maxHeartbeats 4000000 in
theorem law_choose_long (A B : Option Addr) (n c m d : Nat) (D : Option Addr) (k e : Nat) (nn most : Int)  (w : World) (hk : ¬ (k : Int) ≤ 1048576) (hk9 : k ≤ maxLen) :
    Calls Try.prog 4 #[.agg #[.slice A n c, .slice B m d], .slice D k e, .int .i64 nn, .int .i64 most] w fun e w' => e = .returned (.bool true) ∧ Below w.heap.size w w' := by
  have hk' : 1048576 < (k : Int) := by omega
  unfold maxLen at hk9
  clear hk
  go_enter Try.func4, Try.ntmps4
  go_wp2
  go_ret
  exact ⟨rfl, (by repeat (first | exact Below.refl _ _ | assumption | (refine bstep ?_ (below_drewN _ _)) | exact bstep (by assumption) (by assumption) | (refine bstep ?_ (below_alloc _ _)) | (refine bstep ?_ (by assumption)) | (refine Below.setCell ?_ (by simp <;> omega) _) | refine Below.drew ?_))⟩
set_option maxHeartbeats 4000000 in
theorem law_choose_big (A B : Option Addr) (n c m d : Nat) (D : Option Addr) (k e : Nat) (nn most : Int)  (w : World) (hk : (k : Int) ≤ 1048576) (hn : n ≤ maxLen) (hm : m ≤ maxLen) (hz : szT n m = -1) :
    Calls Try.prog 4 #[.agg #[.slice A n c, .slice B m d], .slice D k e, .int .i64 nn, .int .i64 most] w fun e w' => e = .returned (.bool true) ∧ Below w.heap.size w w' := by
  have HN := Lib.hid hn
  have HM := Lib.hid hm
  have HZ := Lib.hid hz
  clear hn hm hz
  go_enter Try.func4, Try.ntmps4
  go_wp2_with fail
  refine (szTopo_any A B n c m d _ HN.out HM.out).mono ?_
  rintro e w1 ⟨rfl, hb1⟩
  rw [HZ.out]
  go_wp2
  go_ret
  exact ⟨rfl, (by repeat (first | exact Below.refl _ _ | assumption | (refine bstep ?_ (below_drewN _ _)) | exact bstep (by assumption) (by assumption) | (refine bstep ?_ (below_alloc _ _)) | (refine bstep ?_ (by assumption)) | (refine Below.setCell ?_ (by simp <;> omega) _) | refine Below.drew ?_))⟩
set_option maxHeartbeats 8000000 in
theorem law_choose_small (A B : Option Addr) (n c m d : Nat) (ps : List Int) (ns : List Q) (D : Option Addr) (k e : Nat) (nd : List Int) (nn most : Int)  (w : World) (hk : (k : Int) ≤ 1048576) (hz : 0 ≤ szT n m) (hn : n ≤ 1048576) (hm : m ≤ 1048576) (hr : RdI w A n ps) (hq : RdE w B m ns) (hd : RdI w D k nd) :
    Calls Try.prog 4 #[.agg #[.slice A n c, .slice B m d], .slice D k e, .int .i64 nn, .int .i64 most] w fun e w' => e = .returned (.bool true) ∧ Below w.heap.size w w' := by
  have hz' : ¬ szT n m < 0 := by omega
  obtain ⟨OL, hOL⟩ : ∃ y, y = chL_ ps ns nd nn most := ⟨_, rfl⟩
  obtain ⟨OB, hOB⟩ : ∃ y, y = chB_ ps ns nd nn most := ⟨_, rfl⟩
  have hlen : OL.length ≤ 1048577 := by rw [hOL]; exact chLs_len ps ns nd nn most (by have := hd.1; omega)
  have hq1 : 0 ≤ 1 + 1 * (OL.length : Int) := by omega
  have hq3 : 0 ≤ 1 + (OL.length : Int) := by omega
  have hq4 : 0 ≤ 1 + 1 * (n : Int) + 4 * (m : Int) + 1 * (k : Int) := by omega
  have hq5 : ¬ 1 + 1 * (n : Int) + 4 * (m : Int) + 1 * (k : Int) < 0 := by omega
  have HLE := Lib.hid hlen
  have HN := Lib.hid hn
  have HM := Lib.hid hm
  have HR := Lib.hid hr
  have HQ := Lib.hid hq
  clear hn hm hr hq hlen
  have HK : Hid (k ≤ 1048576) := Lib.hid (by omega)
  have HD := Lib.hid hd
  clear hd
  have HSC : Hid (∀ (A' B' D' : Option Addr) (c' d' e' : Nat) (W : World), Rd W A' n 1 (ints ps) → Rd W B' m 4 (flat ns) → (∀ g, A' = some ⟨g, 0, none⟩ → g < W.heap.size) → (∀ g, B' = some ⟨g, 0, none⟩ → g < W.heap.size) → Rd W D' k 1 (ints nd) → (∀ g, D' = some ⟨g, 0, none⟩ → g < W.heap.size) → Calls Try.prog 7 #[.agg #[.slice A' n c', .slice B' m d'], .slice D' k e', .int .i64 nn, .int .i64 most] W fun e W' => ∃ v, e = .returned (.tuple #[v, .bool OB]) ∧ W'.ownsRow W.heap.size 3 1 v OL.length (ints OL) ∧ Below W.heap.size W W') := Lib.hid (fun A' B' D' c' d' e' W h1 h2 h3 h4 h5 h6 => by rw [hOL, hOB]; exact sChoose_any A' B' n c' m d' ps ns D' k e' nd nn most W HN.out HM.out h1 h2 h3 h4 HK.out h5 h6)
  have HIC : Hid (∀ (A' B' D' : Option Addr) (c' d' e' : Nat) (W : World), Rd W A' n 1 (ints ps) → Rd W B' m 4 (flat ns) → (∀ g, A' = some ⟨g, 0, none⟩ → g < W.heap.size) → (∀ g, B' = some ⟨g, 0, none⟩ → g < W.heap.size) → Rd W D' k 1 (ints nd) → (∀ g, D' = some ⟨g, 0, none⟩ → g < W.heap.size) → Calls Try.prog 6 #[.agg #[.slice A' n c', .slice B' m d'], .slice D' k e', .int .i64 nn, .int .i64 most] W fun e W' => ∃ v, e = .returned (.tuple #[v, .bool OB]) ∧ W'.ownsRow W.heap.size 3 1 v OL.length (ints OL) ∧ Below W.heap.size W W') := Lib.hid (fun A' B' D' c' d' e' W h1 h2 h3 h4 h5 h6 => by rw [hOL, hOB]; exact Choose_any A' B' n c' m d' ps ns D' k e' nd nn most W HN.out HM.out h1 h2 h3 h4 HK.out h5 h6)
  clear hOL hOB
  go_enter Try.func4, Try.ntmps4
  go_wp2_with fail
  refine (szTopo_any A B n c m d _ (Nat.le_trans HN.out (by decide)) (Nat.le_trans HM.out (by decide))).mono ?_
  rintro e w1 ⟨rfl, hb1⟩
  have hs1 := hb1.size
  (try simp at hs1)
  have hy1_0 : w.heap.size < w1.heap.size := by omega
  have hk1_0 := fun o => hb1.cell (p := ⟨w.heap.size, o, none⟩) (by first | omega | (simp <;> omega))
  have hg1_0 := fun o => hb1.frozen (p := ⟨w.heap.size, o, none⟩) (by first | omega | (simp <;> omega))
  go_wp2_with fail
  refine (toTopo_any A B n c m d ps ns _ HN.out HM.out (HR.out.below (by repeat (first | exact Below.refl _ _ | assumption | (refine bstep ?_ (below_drewN _ _)) | exact bstep (by assumption) (by assumption) | (refine bstep ?_ (below_alloc _ _)) | (refine bstep ?_ (by assumption)) | (refine Below.setCell ?_ (by simp <;> omega) _) | refine Below.drew ?_ | (refine Below.trans ?_ (by assumption))))) (HQ.out.below (by repeat (first | exact Below.refl _ _ | assumption | (refine bstep ?_ (below_drewN _ _)) | exact bstep (by assumption) (by assumption) | (refine bstep ?_ (below_alloc _ _)) | (refine bstep ?_ (by assumption)) | (refine Below.setCell ?_ (by simp <;> omega) _) | refine Below.drew ?_ | (refine Below.trans ?_ (by assumption)))))).mono ?_
  rintro e w2 ⟨u2, v2, rfl, owa2, owb2, hb2⟩
  have hs2 := hb2.size
  (try simp at hs2)
  have hy2_0 : w.heap.size < w2.heap.size := by omega
  have hk2_0 := fun o => hb2.cell (p := ⟨w.heap.size, o, none⟩) (by first | omega | (simp <;> omega))
  have hg2_0 := fun o => hb2.frozen (p := ⟨w.heap.size, o, none⟩) (by first | omega | (simp <;> omega))
  obtain ⟨A2, c2, rfl, rd_A2⟩ := own_rd owa2
  have RDA2 := Lib.hid rd_A2
  have HLA2 := Lib.hid (own_blk owa2)
  have RGA2 : Hid (∀ k, atB A2 k → w1.heap.size ≤ k ∧ k < w2.heap.size) := Lib.hid (fun k hk => ⟨by have h9 := (own_rng owa2 k hk).1; (try simp at h9); omega, (own_rng owa2 k hk).2⟩)
  have OWA2 := Lib.hid owa2
  clear rd_A2 owa2
  obtain ⟨B2, d2, rfl, rd_B2⟩ := own_rd owb2
  have RDB2 := Lib.hid rd_B2
  have HLB2 := Lib.hid (own_blk owb2)
  have RGB2 : Hid (∀ k, atB B2 k → w1.heap.size ≤ k ∧ k < w2.heap.size) := Lib.hid (fun k hk => ⟨by have h9 := (own_rng owb2 k hk).1; (try simp at h9); omega, (own_rng owb2 k hk).2⟩)
  have OWB2 := Lib.hid owb2
  clear rd_B2 owb2
  go_wp2_with fail
  refine (toIntS_any D k e nd _ HK.out (HD.out.below (by repeat (first | exact Below.refl _ _ | assumption | (refine bstep ?_ (below_drewN _ _)) | exact bstep (by assumption) (by assumption) | (refine bstep ?_ (below_alloc _ _)) | (refine bstep ?_ (by assumption)) | (refine Below.setCell ?_ (by simp <;> omega) _) | refine Below.drew ?_ | (refine Below.trans ?_ (by assumption)))))).mono ?_
  rintro e w3 ⟨v3, rfl, own3, hb3⟩
  have hs3 := hb3.size
  (try simp at hs3)
  have hy3_0 : w.heap.size < w3.heap.size := by omega
  have hk3_0 := fun o => hb3.cell (p := ⟨w.heap.size, o, none⟩) (by first | omega | (simp <;> omega))
  have hg3_0 := fun o => hb3.frozen (p := ⟨w.heap.size, o, none⟩) (by first | omega | (simp <;> omega))
  obtain ⟨D3, e3, rfl, rd_D3⟩ := own_rd own3
  have RDD3 := Lib.hid rd_D3
  have HLD3 := Lib.hid (own_blk own3)
  have RGD3 : Hid (∀ k, atB D3 k → w2.heap.size ≤ k ∧ k < w3.heap.size) := Lib.hid (fun k hk => ⟨by have h9 := (own_rng own3 k hk).1; (try simp at h9); omega, (own_rng own3 k hk).2⟩)
  have OWD3 := Lib.hid own3
  clear rd_D3 own3
  go_wp2_with fail
  refine (HSC.out A2 B2 D3 c2 d2 e3 _ (RDA2.out.below HLA2.out (by repeat (first | exact Below.refl _ _ | assumption | (refine bstep ?_ (below_drewN _ _)) | exact bstep (by assumption) (by assumption) | (refine bstep ?_ (below_alloc _ _)) | (refine bstep ?_ (by assumption)) | (refine Below.setCell ?_ (by simp <;> omega) _) | refine Below.drew ?_))) (RDB2.out.below HLB2.out (by repeat (first | exact Below.refl _ _ | assumption | (refine bstep ?_ (below_drewN _ _)) | exact bstep (by assumption) (by assumption) | (refine bstep ?_ (below_alloc _ _)) | (refine bstep ?_ (by assumption)) | (refine Below.setCell ?_ (by simp <;> omega) _) | refine Below.drew ?_))) (lt_below HLA2.out (by repeat (first | exact Below.refl _ _ | assumption | (refine bstep ?_ (below_drewN _ _)) | exact bstep (by assumption) (by assumption) | (refine bstep ?_ (below_alloc _ _)) | (refine bstep ?_ (by assumption)) | (refine Below.setCell ?_ (by simp <;> omega) _) | refine Below.drew ?_))) (lt_below HLB2.out (by repeat (first | exact Below.refl _ _ | assumption | (refine bstep ?_ (below_drewN _ _)) | exact bstep (by assumption) (by assumption) | (refine bstep ?_ (below_alloc _ _)) | (refine bstep ?_ (by assumption)) | (refine Below.setCell ?_ (by simp <;> omega) _) | refine Below.drew ?_))) (RDD3.out.below HLD3.out (by repeat (first | exact Below.refl _ _ | assumption | (refine bstep ?_ (below_drewN _ _)) | exact bstep (by assumption) (by assumption) | (refine bstep ?_ (below_alloc _ _)) | (refine bstep ?_ (by assumption)) | (refine Below.setCell ?_ (by simp <;> omega) _) | refine Below.drew ?_))) (lt_below HLD3.out (by repeat (first | exact Below.refl _ _ | assumption | (refine bstep ?_ (below_drewN _ _)) | exact bstep (by assumption) (by assumption) | (refine bstep ?_ (below_alloc _ _)) | (refine bstep ?_ (by assumption)) | (refine Below.setCell ?_ (by simp <;> omega) _) | refine Below.drew ?_)))).mono ?_
  rintro e w4 ⟨v4, rfl, own4, hb4⟩
  have hs4 := hb4.size
  (try simp at hs4)
  have hy4_0 : w.heap.size < w4.heap.size := by omega
  have hk4_0 := fun o => hb4.cell (p := ⟨w.heap.size, o, none⟩) (by first | omega | (simp <;> omega))
  have hg4_0 := fun o => hb4.frozen (p := ⟨w.heap.size, o, none⟩) (by first | omega | (simp <;> omega))
  obtain ⟨G4, h4, rfl, rd_G4⟩ := own_rd own4
  have RDG4 := Lib.hid rd_G4
  have HLG4 := Lib.hid (own_blk own4)
  have RGG4 : Hid (∀ k, atB G4 k → w3.heap.size ≤ k ∧ k < w4.heap.size) := Lib.hid (fun k hk => ⟨by have h9 := (own_rng own4 k hk).1; (try simp at h9); omega, (own_rng own4 k hk).2⟩)
  have OWG4 := Lib.hid own4
  clear rd_G4 own4
  go_wp2_with fail
  refine (toTopo_any A B n c m d ps ns _ HN.out HM.out (HR.out.below (by repeat (first | exact Below.refl _ _ | assumption | (refine bstep ?_ (below_drewN _ _)) | exact bstep (by assumption) (by assumption) | (refine bstep ?_ (below_alloc _ _)) | (refine bstep ?_ (by assumption)) | (refine Below.setCell ?_ (by simp <;> omega) _) | refine Below.drew ?_ | (refine Below.trans ?_ (by assumption))))) (HQ.out.below (by repeat (first | exact Below.refl _ _ | assumption | (refine bstep ?_ (below_drewN _ _)) | exact bstep (by assumption) (by assumption) | (refine bstep ?_ (below_alloc _ _)) | (refine bstep ?_ (by assumption)) | (refine Below.setCell ?_ (by simp <;> omega) _) | refine Below.drew ?_ | (refine Below.trans ?_ (by assumption)))))).mono ?_
  rintro e w5 ⟨u5, v5, rfl, owa5, owb5, hb5⟩
  have hs5 := hb5.size
  (try simp at hs5)
  have hy5_0 : w.heap.size < w5.heap.size := by omega
  have hk5_0 := fun o => hb5.cell (p := ⟨w.heap.size, o, none⟩) (by first | omega | (simp <;> omega))
  have hg5_0 := fun o => hb5.frozen (p := ⟨w.heap.size, o, none⟩) (by first | omega | (simp <;> omega))
  obtain ⟨A5, c5, rfl, rd_A5⟩ := own_rd owa5
  have RDA5 := Lib.hid rd_A5
  have HLA5 := Lib.hid (own_blk owa5)
  have RGA5 : Hid (∀ k, atB A5 k → w4.heap.size ≤ k ∧ k < w5.heap.size) := Lib.hid (fun k hk => ⟨by have h9 := (own_rng owa5 k hk).1; (try simp at h9); omega, (own_rng owa5 k hk).2⟩)
  have OWA5 := Lib.hid owa5
  clear rd_A5 owa5
  obtain ⟨B5, d5, rfl, rd_B5⟩ := own_rd owb5
  have RDB5 := Lib.hid rd_B5
  have HLB5 := Lib.hid (own_blk owb5)
  have RGB5 : Hid (∀ k, atB B5 k → w4.heap.size ≤ k ∧ k < w5.heap.size) := Lib.hid (fun k hk => ⟨by have h9 := (own_rng owb5 k hk).1; (try simp at h9); omega, (own_rng owb5 k hk).2⟩)
  have OWB5 := Lib.hid owb5
  clear rd_B5 owb5
  go_wp2_with fail
  refine (toIntS_any D k e nd _ HK.out (HD.out.below (by repeat (first | exact Below.refl _ _ | assumption | (refine bstep ?_ (below_drewN _ _)) | exact bstep (by assumption) (by assumption) | (refine bstep ?_ (below_alloc _ _)) | (refine bstep ?_ (by assumption)) | (refine Below.setCell ?_ (by simp <;> omega) _) | refine Below.drew ?_ | (refine Below.trans ?_ (by assumption)))))).mono ?_
  rintro e w6 ⟨v6, rfl, own6, hb6⟩
  have hs6 := hb6.size
  (try simp at hs6)
  have hy6_0 : w.heap.size < w6.heap.size := by omega
  have hk6_0 := fun o => hb6.cell (p := ⟨w.heap.size, o, none⟩) (by first | omega | (simp <;> omega))
  have hg6_0 := fun o => hb6.frozen (p := ⟨w.heap.size, o, none⟩) (by first | omega | (simp <;> omega))
  have hy6_1 : w5.heap.size < w6.heap.size := by omega
  have hk6_1 := fun o => hb6.cell (p := ⟨w5.heap.size, o, none⟩) (by first | omega | (simp <;> omega))
  have hg6_1 := fun o => hb6.frozen (p := ⟨w5.heap.size, o, none⟩) (by first | omega | (simp <;> omega))
  obtain ⟨D6, e6, rfl, rd_D6⟩ := own_rd own6
  have RDD6 := Lib.hid rd_D6
  have HLD6 := Lib.hid (own_blk own6)
  have RGD6 : Hid (∀ k, atB D6 k → w5.heap.size + 1 ≤ k ∧ k < w6.heap.size) := Lib.hid (fun k hk => ⟨by have h9 := (own_rng own6 k hk).1; (try simp at h9); omega, (own_rng own6 k hk).2⟩)
  have OWD6 := Lib.hid own6
  clear rd_D6 own6
  go_wp2_with fail
  refine (HIC.out A5 B5 D6 c5 d5 e6 _ (RDA5.out.below HLA5.out (by repeat (first | exact Below.refl _ _ | assumption | (refine bstep ?_ (below_drewN _ _)) | exact bstep (by assumption) (by assumption) | (refine bstep ?_ (below_alloc _ _)) | (refine bstep ?_ (by assumption)) | (refine Below.setCell ?_ (by simp <;> omega) _) | refine Below.drew ?_))) (RDB5.out.below HLB5.out (by repeat (first | exact Below.refl _ _ | assumption | (refine bstep ?_ (below_drewN _ _)) | exact bstep (by assumption) (by assumption) | (refine bstep ?_ (below_alloc _ _)) | (refine bstep ?_ (by assumption)) | (refine Below.setCell ?_ (by simp <;> omega) _) | refine Below.drew ?_))) (lt_below HLA5.out (by repeat (first | exact Below.refl _ _ | assumption | (refine bstep ?_ (below_drewN _ _)) | exact bstep (by assumption) (by assumption) | (refine bstep ?_ (below_alloc _ _)) | (refine bstep ?_ (by assumption)) | (refine Below.setCell ?_ (by simp <;> omega) _) | refine Below.drew ?_))) (lt_below HLB5.out (by repeat (first | exact Below.refl _ _ | assumption | (refine bstep ?_ (below_drewN _ _)) | exact bstep (by assumption) (by assumption) | (refine bstep ?_ (below_alloc _ _)) | (refine bstep ?_ (by assumption)) | (refine Below.setCell ?_ (by simp <;> omega) _) | refine Below.drew ?_))) (RDD6.out.below HLD6.out (by repeat (first | exact Below.refl _ _ | assumption | (refine bstep ?_ (below_drewN _ _)) | exact bstep (by assumption) (by assumption) | (refine bstep ?_ (below_alloc _ _)) | (refine bstep ?_ (by assumption)) | (refine Below.setCell ?_ (by simp <;> omega) _) | refine Below.drew ?_))) (lt_below HLD6.out (by repeat (first | exact Below.refl _ _ | assumption | (refine bstep ?_ (below_drewN _ _)) | exact bstep (by assumption) (by assumption) | (refine bstep ?_ (below_alloc _ _)) | (refine bstep ?_ (by assumption)) | (refine Below.setCell ?_ (by simp <;> omega) _) | refine Below.drew ?_)))).mono ?_
  rintro e w7 ⟨v7, rfl, own7, hb7⟩
  have hs7 := hb7.size
  (try simp at hs7)
  have hy7_0 : w.heap.size < w7.heap.size := by omega
  have hk7_0 := fun o => hb7.cell (p := ⟨w.heap.size, o, none⟩) (by first | omega | (simp <;> omega))
  have hg7_0 := fun o => hb7.frozen (p := ⟨w.heap.size, o, none⟩) (by first | omega | (simp <;> omega))
  have hy7_1 : w5.heap.size < w7.heap.size := by omega
  have hk7_1 := fun o => hb7.cell (p := ⟨w5.heap.size, o, none⟩) (by first | omega | (simp <;> omega))
  have hg7_1 := fun o => hb7.frozen (p := ⟨w5.heap.size, o, none⟩) (by first | omega | (simp <;> omega))
  obtain ⟨G7, h7, rfl, rd_G7⟩ := own_rd own7
  have RDG7 := Lib.hid rd_G7
  have HLG7 := Lib.hid (own_blk own7)
  have RGG7 : Hid (∀ k, atB G7 k → w6.heap.size ≤ k ∧ k < w7.heap.size) := Lib.hid (fun k hk => ⟨by have h9 := (own_rng own7 k hk).1; (try simp at h9); omega, (own_rng own7 k hk).2⟩)
  have OWG7 := Lib.hid own7
  clear rd_G7 own7
  go_wp2_with fail
  refine (eqIntS_any G7 G4 _ h7 h4 (OL) _ HLE.out (RDG7.out.below HLG7.out (by repeat (first | exact Below.refl _ _ | assumption | (refine bstep ?_ (below_drewN _ _)) | exact bstep (by assumption) (by assumption) | (refine bstep ?_ (below_alloc _ _)) | (refine bstep ?_ (by assumption)) | (refine Below.setCell ?_ (by simp <;> omega) _) | refine Below.drew ?_))) (RDG4.out.below HLG4.out (by repeat (first | exact Below.refl _ _ | assumption | (refine bstep ?_ (below_drewN _ _)) | exact bstep (by assumption) (by assumption) | (refine bstep ?_ (below_alloc _ _)) | (refine bstep ?_ (by assumption)) | (refine Below.setCell ?_ (by simp <;> omega) _) | refine Below.drew ?_)))).mono ?_
  rintro e w8 ⟨rfl, k8, hw8⟩
  have hb8 := below_eqN hw8
  clear hw8
  have hs8 := hb8.size
  (try simp at hs8)
  have hy8_0 : w.heap.size < w8.heap.size := by omega
  have hk8_0 := fun o => hb8.cell (p := ⟨w.heap.size, o, none⟩) (by first | omega | (simp <;> omega))
  have hg8_0 := fun o => hb8.frozen (p := ⟨w.heap.size, o, none⟩) (by first | omega | (simp <;> omega))
  have hy8_1 : w5.heap.size < w8.heap.size := by omega
  have hk8_1 := fun o => hb8.cell (p := ⟨w5.heap.size, o, none⟩) (by first | omega | (simp <;> omega))
  have hg8_1 := fun o => hb8.frozen (p := ⟨w5.heap.size, o, none⟩) (by first | omega | (simp <;> omega))
  go_wp2_with fail
  go_region_held3 (fun w' => w'.cell? ⟨w.heap.size, 0, none⟩ = some (.slice A n c) ∧ w'.cell? ⟨w.heap.size, 1, none⟩ = some (.slice B m d) ∧ w'.cell? ⟨w5.heap.size, 0, none⟩ = some (.slice A5 n c5) ∧ w'.cell? ⟨w5.heap.size, 1, none⟩ = some (.slice B5 m d5)) (simp [go_sem, *, World.cell?_alloc_some, World.cell?_setCell_far, Nat.lt_add_right, Nat.ne_of_gt]) (first | (go_at_call 14; refine (toTopo_any A B n c m d ps ns _ HN.out HM.out (HR.out.below (by repeat (first | exact Below.refl _ _ | assumption | (refine bstep ?_ (below_drewN _ _)) | exact bstep (by assumption) (by assumption) | (refine bstep ?_ (below_alloc _ _)) | (refine bstep ?_ (by assumption)) | (refine Below.setCell ?_ (by simp <;> omega) _) | refine Below.drew ?_ | (refine Below.trans ?_ (by assumption))))) (HQ.out.below (by repeat (first | exact Below.refl _ _ | assumption | (refine bstep ?_ (below_drewN _ _)) | exact bstep (by assumption) (by assumption) | (refine bstep ?_ (below_alloc _ _)) | (refine bstep ?_ (by assumption)) | (refine Below.setCell ?_ (by simp <;> omega) _) | refine Below.drew ?_ | (refine Below.trans ?_ (by assumption)))))).mono ?_; rintro e w9 ⟨u9, v9, rfl, owa9, owb9, hb9⟩; have hs9 := hb9.size; (try simp at hs9); have hy9_0 : w.heap.size < w9.heap.size := (by omega); have hk9_0 := fun o => hb9.cell (p := ⟨w.heap.size, o, none⟩) (by first | omega | (simp <;> omega)); have hg9_0 := fun o => hb9.frozen (p := ⟨w.heap.size, o, none⟩) (by first | omega | (simp <;> omega)); have hy9_1 : w5.heap.size < w9.heap.size := (by omega); have hk9_1 := fun o => hb9.cell (p := ⟨w5.heap.size, o, none⟩) (by first | omega | (simp <;> omega)); have hg9_1 := fun o => hb9.frozen (p := ⟨w5.heap.size, o, none⟩) (by first | omega | (simp <;> omega)); obtain ⟨A9, c9, rfl, rd_A9⟩ := own_rd owa9; have RDA9 := Lib.hid rd_A9; have HLA9 := Lib.hid (own_blk owa9); have OWA9 := Lib.hid owa9; clear rd_A9 owa9; obtain ⟨B9, d9, rfl, rd_B9⟩ := own_rd owb9; have RDB9 := Lib.hid rd_B9; have HLB9 := Lib.hid (own_blk owb9); have OWB9 := Lib.hid owb9; clear rd_B9 owb9) | (go_at_call 17; refine (eqTopo_any A5 A9 B5 B9 n c5 c9 m d5 d9 ps ns _ (Nat.le_succ_of_le HN.out) (Nat.le_succ_of_le HM.out) (RDA5.out.below HLA5.out (by repeat (first | exact Below.refl _ _ | assumption | (refine bstep ?_ (below_drewN _ _)) | exact bstep (by assumption) (by assumption) | (refine bstep ?_ (below_alloc _ _)) | (refine bstep ?_ (by assumption)) | (refine Below.setCell ?_ (by simp <;> omega) _) | refine Below.drew ?_))) RDA9.out (RDB5.out.below HLB5.out (by repeat (first | exact Below.refl _ _ | assumption | (refine bstep ?_ (below_drewN _ _)) | exact bstep (by assumption) (by assumption) | (refine bstep ?_ (below_alloc _ _)) | (refine bstep ?_ (by assumption)) | (refine Below.setCell ?_ (by simp <;> omega) _) | refine Below.drew ?_))) RDB9.out (lt_below HLA5.out (by repeat (first | exact Below.refl _ _ | assumption | (refine bstep ?_ (below_drewN _ _)) | exact bstep (by assumption) (by assumption) | (refine bstep ?_ (below_alloc _ _)) | (refine bstep ?_ (by assumption)) | (refine Below.setCell ?_ (by simp <;> omega) _) | refine Below.drew ?_))) HLA9.out (lt_below HLB5.out (by repeat (first | exact Below.refl _ _ | assumption | (refine bstep ?_ (below_drewN _ _)) | exact bstep (by assumption) (by assumption) | (refine bstep ?_ (below_alloc _ _)) | (refine bstep ?_ (by assumption)) | (refine Below.setCell ?_ (by simp <;> omega) _) | refine Below.drew ?_))) HLB9.out).mono ?_; rintro e w10 ⟨rfl, hb10⟩; have hs10 := hb10.size; (try simp at hs10); have hy10_0 : w.heap.size < w10.heap.size := (by omega); have hk10_0 := fun o => hb10.cell (p := ⟨w.heap.size, o, none⟩) (by first | omega | (simp <;> omega)); have hg10_0 := fun o => hb10.frozen (p := ⟨w.heap.size, o, none⟩) (by first | omega | (simp <;> omega)); have hy10_1 : w5.heap.size < w10.heap.size := (by omega); have hk10_1 := fun o => hb10.cell (p := ⟨w5.heap.size, o, none⟩) (by first | omega | (simp <;> omega)); have hg10_1 := fun o => hb10.frozen (p := ⟨w5.heap.size, o, none⟩) (by first | omega | (simp <;> omega))))
  go_wp2_with fail
  refine (toIntS_any D k e nd _ HK.out (HD.out.below (by repeat (first | exact Below.refl _ _ | assumption | (refine bstep ?_ (below_drewN _ _)) | exact bstep (by assumption) (by assumption) | (refine bstep ?_ (below_alloc _ _)) | (refine bstep ?_ (by assumption)) | (refine Below.setCell ?_ (by simp <;> omega) _) | refine Below.drew ?_ | (refine Below.trans ?_ (by assumption)))))).mono ?_
  rintro e w11 ⟨v11, rfl, own11, hb11⟩
  have hs11 := hb11.size
  (try simp at hs11)
  have hy11_0 : w.heap.size < w11.heap.size := by omega
  have hk11_0 := fun o => hb11.cell (p := ⟨w.heap.size, o, none⟩) (by first | omega | (simp <;> omega))
  have hg11_0 := fun o => hb11.frozen (p := ⟨w.heap.size, o, none⟩) (by first | omega | (simp <;> omega))
  have hy11_1 : w5.heap.size < w11.heap.size := by omega
  have hk11_1 := fun o => hb11.cell (p := ⟨w5.heap.size, o, none⟩) (by first | omega | (simp <;> omega))
  have hg11_1 := fun o => hb11.frozen (p := ⟨w5.heap.size, o, none⟩) (by first | omega | (simp <;> omega))
  obtain ⟨D11, e11, rfl, rd_D11⟩ := own_rd own11
  have RDD11 := Lib.hid rd_D11
  have HLD11 := Lib.hid (own_blk own11)
  have RGD11 : Hid (∀ k, atB D11 k → w10.heap.size ≤ k ∧ k < w11.heap.size) := Lib.hid (fun k hk => ⟨by have h9 := (own_rng own11 k hk).1; (try simp at h9); omega, (own_rng own11 k hk).2⟩)
  have OWD11 := Lib.hid own11
  clear rd_D11 own11
  go_wp2_with fail
  refine (eqIntS_any D6 D11 k e6 e11 nd _ (Nat.le_succ_of_le HK.out) (RDD6.out.below HLD6.out (by repeat (first | exact Below.refl _ _ | assumption | (refine bstep ?_ (below_drewN _ _)) | exact bstep (by assumption) (by assumption) | (refine bstep ?_ (below_alloc _ _)) | (refine bstep ?_ (by assumption)) | (refine Below.setCell ?_ (by simp <;> omega) _) | refine Below.drew ?_))) (RDD11.out.below HLD11.out (by repeat (first | exact Below.refl _ _ | assumption | (refine bstep ?_ (below_drewN _ _)) | exact bstep (by assumption) (by assumption) | (refine bstep ?_ (below_alloc _ _)) | (refine bstep ?_ (by assumption)) | (refine Below.setCell ?_ (by simp <;> omega) _) | refine Below.drew ?_)))).mono ?_
  rintro e w12 ⟨rfl, k12, hw12⟩
  have hb12 := below_eqN hw12
  clear hw12
  have hs12 := hb12.size
  (try simp at hs12)
  have hy12_0 : w.heap.size < w12.heap.size := by omega
  have hk12_0 := fun o => hb12.cell (p := ⟨w.heap.size, o, none⟩) (by first | omega | (simp <;> omega))
  have hg12_0 := fun o => hb12.frozen (p := ⟨w.heap.size, o, none⟩) (by first | omega | (simp <;> omega))
  have hy12_1 : w5.heap.size < w12.heap.size := by omega
  have hk12_1 := fun o => hb12.cell (p := ⟨w5.heap.size, o, none⟩) (by first | omega | (simp <;> omega))
  have hg12_1 := fun o => hb12.frozen (p := ⟨w5.heap.size, o, none⟩) (by first | omega | (simp <;> omega))
  have HNE : Hid (∀ k, atB A5 k → ¬ atB B5 k) := Lib.hid (own_apart OWA5.out OWB5.out (by decide))
  go_wp2_with fail
  refine (markTopo_any A5 B5 n c5 m d5 _ _ _ (Nat.le_succ_of_le HN.out) (Nat.le_succ_of_le HM.out) ((own_wr2 OWA5.out).below (by repeat (first | exact Below.refl _ _ | assumption | (refine bstep ?_ (below_drewN _ _)) | exact bstep (by assumption) (by assumption) | (refine bstep ?_ (below_alloc _ _)) | (refine bstep ?_ (by assumption)) | (refine Below.setCell ?_ (by simp <;> omega) _) | refine Below.drew ?_))) ((own_wr2 OWB5.out).below (by repeat (first | exact Below.refl _ _ | assumption | (refine bstep ?_ (below_drewN _ _)) | exact bstep (by assumption) (by assumption) | (refine bstep ?_ (below_alloc _ _)) | (refine bstep ?_ (by assumption)) | (refine Below.setCell ?_ (by simp <;> omega) _) | refine Below.drew ?_))) HNE.out (fun k hk => by have q9 := RGA5.out k hk; omega)).mono ?_
  rintro e w13 ⟨rfl, fr13⟩
  have hs13 := fr13.size
  (try simp at hs13)
  have hB13 : Below w.heap.size _ w13 := fr13.below (fun k hk => by rcases hk with h8 | h8 <;> first | (have q9 := RGA5.out _ h8; omega) | (have q9 := RGB5.out _ h8; omega)) (by first | omega | (simp <;> omega))
  have hy13_0 : w.heap.size < w13.heap.size := by omega
  have hk13_0 := fun o => fr13.cell (b := w.heap.size) (by first | omega | (simp <;> omega)) (fun h => by rcases h with h8 | h8 <;> first | (have q9 := RGA5.out _ h8; omega) | (have q9 := RGB5.out _ h8; omega)) o
  have hg13_0 := fun o => fr13.frozen (b := w.heap.size) (by first | omega | (simp <;> omega)) (fun h => by rcases h with h8 | h8 <;> first | (have q9 := RGA5.out _ h8; omega) | (have q9 := RGB5.out _ h8; omega)) o
  have hy13_1 : w5.heap.size < w13.heap.size := by omega
  have hk13_1 := fun o => fr13.cell (b := w5.heap.size) (by first | omega | (simp <;> omega)) (fun h => by rcases h with h8 | h8 <;> first | (have q9 := RGA5.out _ h8; omega) | (have q9 := RGB5.out _ h8; omega)) o
  have hg13_1 := fun o => fr13.frozen (b := w5.heap.size) (by first | omega | (simp <;> omega)) (fun h => by rcases h with h8 | h8 <;> first | (have q9 := RGA5.out _ h8; omega) | (have q9 := RGB5.out _ h8; omega)) o
  have RDG4_13 := Lib.hid (Rd.fr (RDG4.out.below HLG4.out (by repeat (first | exact Below.refl _ _ | assumption | (refine bstep ?_ (below_drewN _ _)) | exact bstep (by assumption) (by assumption) | (refine bstep ?_ (below_alloc _ _)) | (refine bstep ?_ (by assumption)) | (refine Below.setCell ?_ (by simp <;> omega) _) | refine Below.drew ?_))) (lt_below HLG4.out (by repeat (first | exact Below.refl _ _ | assumption | (refine bstep ?_ (below_drewN _ _)) | exact bstep (by assumption) (by assumption) | (refine bstep ?_ (below_alloc _ _)) | (refine bstep ?_ (by assumption)) | (refine Below.setCell ?_ (by simp <;> omega) _) | refine Below.drew ?_))) fr13 (fun k h1 h2 => by have q1 := RGG4.out k h1; rcases h2 with h8 | h8 <;> first | (have q9 := RGA5.out _ h8; omega) | (have q9 := RGB5.out _ h8; omega)))
  have HLG4_13 := Lib.hid (lt_fr (lt_below HLG4.out (by repeat (first | exact Below.refl _ _ | assumption | (refine bstep ?_ (below_drewN _ _)) | exact bstep (by assumption) (by assumption) | (refine bstep ?_ (below_alloc _ _)) | (refine bstep ?_ (by assumption)) | (refine Below.setCell ?_ (by simp <;> omega) _) | refine Below.drew ?_))) fr13)
  have WRG4_13 := Lib.hid (Wr.fr ((own_wr2 OWG4.out).below (by repeat (first | exact Below.refl _ _ | assumption | (refine bstep ?_ (below_drewN _ _)) | exact bstep (by assumption) (by assumption) | (refine bstep ?_ (below_alloc _ _)) | (refine bstep ?_ (by assumption)) | (refine Below.setCell ?_ (by simp <;> omega) _) | refine Below.drew ?_))) fr13 (fun k h1 h2 => by have q1 := RGG4.out k h1; rcases h2 with h8 | h8 <;> first | (have q9 := RGA5.out _ h8; omega) | (have q9 := RGB5.out _ h8; omega)))
  have RDD6_13 := Lib.hid (Rd.fr (RDD6.out.below HLD6.out (by repeat (first | exact Below.refl _ _ | assumption | (refine bstep ?_ (below_drewN _ _)) | exact bstep (by assumption) (by assumption) | (refine bstep ?_ (below_alloc _ _)) | (refine bstep ?_ (by assumption)) | (refine Below.setCell ?_ (by simp <;> omega) _) | refine Below.drew ?_))) (lt_below HLD6.out (by repeat (first | exact Below.refl _ _ | assumption | (refine bstep ?_ (below_drewN _ _)) | exact bstep (by assumption) (by assumption) | (refine bstep ?_ (below_alloc _ _)) | (refine bstep ?_ (by assumption)) | (refine Below.setCell ?_ (by simp <;> omega) _) | refine Below.drew ?_))) fr13 (fun k h1 h2 => by have q1 := RGD6.out k h1; rcases h2 with h8 | h8 <;> first | (have q9 := RGA5.out _ h8; omega) | (have q9 := RGB5.out _ h8; omega)))
  have HLD6_13 := Lib.hid (lt_fr (lt_below HLD6.out (by repeat (first | exact Below.refl _ _ | assumption | (refine bstep ?_ (below_drewN _ _)) | exact bstep (by assumption) (by assumption) | (refine bstep ?_ (below_alloc _ _)) | (refine bstep ?_ (by assumption)) | (refine Below.setCell ?_ (by simp <;> omega) _) | refine Below.drew ?_))) fr13)
  have WRD6_13 := Lib.hid (Wr.fr ((own_wr2 OWD6.out).below (by repeat (first | exact Below.refl _ _ | assumption | (refine bstep ?_ (below_drewN _ _)) | exact bstep (by assumption) (by assumption) | (refine bstep ?_ (below_alloc _ _)) | (refine bstep ?_ (by assumption)) | (refine Below.setCell ?_ (by simp <;> omega) _) | refine Below.drew ?_))) fr13 (fun k h1 h2 => by have q1 := RGD6.out k h1; rcases h2 with h8 | h8 <;> first | (have q9 := RGA5.out _ h8; omega) | (have q9 := RGB5.out _ h8; omega)))
  have RDG7_13 := Lib.hid (Rd.fr (RDG7.out.below HLG7.out (by repeat (first | exact Below.refl _ _ | assumption | (refine bstep ?_ (below_drewN _ _)) | exact bstep (by assumption) (by assumption) | (refine bstep ?_ (below_alloc _ _)) | (refine bstep ?_ (by assumption)) | (refine Below.setCell ?_ (by simp <;> omega) _) | refine Below.drew ?_))) (lt_below HLG7.out (by repeat (first | exact Below.refl _ _ | assumption | (refine bstep ?_ (below_drewN _ _)) | exact bstep (by assumption) (by assumption) | (refine bstep ?_ (below_alloc _ _)) | (refine bstep ?_ (by assumption)) | (refine Below.setCell ?_ (by simp <;> omega) _) | refine Below.drew ?_))) fr13 (fun k h1 h2 => by have q1 := RGG7.out k h1; rcases h2 with h8 | h8 <;> first | (have q9 := RGA5.out _ h8; omega) | (have q9 := RGB5.out _ h8; omega)))
  have HLG7_13 := Lib.hid (lt_fr (lt_below HLG7.out (by repeat (first | exact Below.refl _ _ | assumption | (refine bstep ?_ (below_drewN _ _)) | exact bstep (by assumption) (by assumption) | (refine bstep ?_ (below_alloc _ _)) | (refine bstep ?_ (by assumption)) | (refine Below.setCell ?_ (by simp <;> omega) _) | refine Below.drew ?_))) fr13)
  have WRG7_13 := Lib.hid (Wr.fr ((own_wr2 OWG7.out).below (by repeat (first | exact Below.refl _ _ | assumption | (refine bstep ?_ (below_drewN _ _)) | exact bstep (by assumption) (by assumption) | (refine bstep ?_ (below_alloc _ _)) | (refine bstep ?_ (by assumption)) | (refine Below.setCell ?_ (by simp <;> omega) _) | refine Below.drew ?_))) fr13 (fun k h1 h2 => by have q1 := RGG7.out k h1; rcases h2 with h8 | h8 <;> first | (have q9 := RGA5.out _ h8; omega) | (have q9 := RGB5.out _ h8; omega)))
  go_wp2_with fail
  refine (markIntF D6 _ e6 _ _ _ (Nat.le_succ_of_le HK.out) (by have := HN.out; have := HM.out; omega) (by have := HN.out; have := HM.out; omega) ((WRD6_13.out).below (by repeat (first | exact Below.refl _ _ | assumption | (refine bstep ?_ (below_drewN _ _)) | exact bstep (by assumption) (by assumption) | (refine bstep ?_ (below_alloc _ _)) | (refine bstep ?_ (by assumption)) | (refine Below.setCell ?_ (by simp <;> omega) _) | refine Below.drew ?_)))).mono ?_
  rintro e w14 ⟨rfl, rd14, fr14⟩
  have hs14 := fr14.size
  (try simp at hs14)
  have hB14 : Below w.heap.size _ w14 := fr14.below (fun k hk => by have q9 := RGD6.out _ hk; omega) (by first | omega | (simp <;> omega))
  have hy14_0 : w.heap.size < w14.heap.size := by omega
  have hk14_0 := fun o => fr14.cell (b := w.heap.size) (by first | omega | (simp <;> omega)) (fun h => by have q9 := RGD6.out _ h; omega) o
  have hg14_0 := fun o => fr14.frozen (b := w.heap.size) (by first | omega | (simp <;> omega)) (fun h => by have q9 := RGD6.out _ h; omega) o
  have hy14_1 : w5.heap.size < w14.heap.size := by omega
  have hk14_1 := fun o => fr14.cell (b := w5.heap.size) (by first | omega | (simp <;> omega)) (fun h => by have q9 := RGD6.out _ h; omega) o
  have hg14_1 := fun o => fr14.frozen (b := w5.heap.size) (by first | omega | (simp <;> omega)) (fun h => by have q9 := RGD6.out _ h; omega) o
  have RDG4_14 := Lib.hid (Rd.fr (RDG4_13.out.below HLG4_13.out (by repeat (first | exact Below.refl _ _ | assumption | (refine bstep ?_ (below_drewN _ _)) | exact bstep (by assumption) (by assumption) | (refine bstep ?_ (below_alloc _ _)) | (refine bstep ?_ (by assumption)) | (refine Below.setCell ?_ (by simp <;> omega) _) | refine Below.drew ?_))) (lt_below HLG4_13.out (by repeat (first | exact Below.refl _ _ | assumption | (refine bstep ?_ (below_drewN _ _)) | exact bstep (by assumption) (by assumption) | (refine bstep ?_ (below_alloc _ _)) | (refine bstep ?_ (by assumption)) | (refine Below.setCell ?_ (by simp <;> omega) _) | refine Below.drew ?_))) fr14 (fun k h1 h2 => by have q1 := RGG4.out k h1; have q9 := RGD6.out _ h2; omega))
  have HLG4_14 := Lib.hid (lt_fr (lt_below HLG4_13.out (by repeat (first | exact Below.refl _ _ | assumption | (refine bstep ?_ (below_drewN _ _)) | exact bstep (by assumption) (by assumption) | (refine bstep ?_ (below_alloc _ _)) | (refine bstep ?_ (by assumption)) | (refine Below.setCell ?_ (by simp <;> omega) _) | refine Below.drew ?_))) fr14)
  have WRG4_14 := Lib.hid (Wr.fr ((WRG4_13.out).below (by repeat (first | exact Below.refl _ _ | assumption | (refine bstep ?_ (below_drewN _ _)) | exact bstep (by assumption) (by assumption) | (refine bstep ?_ (below_alloc _ _)) | (refine bstep ?_ (by assumption)) | (refine Below.setCell ?_ (by simp <;> omega) _) | refine Below.drew ?_))) fr14 (fun k h1 h2 => by have q1 := RGG4.out k h1; have q9 := RGD6.out _ h2; omega))
  have RDG7_14 := Lib.hid (Rd.fr (RDG7_13.out.below HLG7_13.out (by repeat (first | exact Below.refl _ _ | assumption | (refine bstep ?_ (below_drewN _ _)) | exact bstep (by assumption) (by assumption) | (refine bstep ?_ (below_alloc _ _)) | (refine bstep ?_ (by assumption)) | (refine Below.setCell ?_ (by simp <;> omega) _) | refine Below.drew ?_))) (lt_below HLG7_13.out (by repeat (first | exact Below.refl _ _ | assumption | (refine bstep ?_ (below_drewN _ _)) | exact bstep (by assumption) (by assumption) | (refine bstep ?_ (below_alloc _ _)) | (refine bstep ?_ (by assumption)) | (refine Below.setCell ?_ (by simp <;> omega) _) | refine Below.drew ?_))) fr14 (fun k h1 h2 => by have q1 := RGG7.out k h1; have q9 := RGD6.out _ h2; omega))
  have HLG7_14 := Lib.hid (lt_fr (lt_below HLG7_13.out (by repeat (first | exact Below.refl _ _ | assumption | (refine bstep ?_ (below_drewN _ _)) | exact bstep (by assumption) (by assumption) | (refine bstep ?_ (below_alloc _ _)) | (refine bstep ?_ (by assumption)) | (refine Below.setCell ?_ (by simp <;> omega) _) | refine Below.drew ?_))) fr14)
  have WRG7_14 := Lib.hid (Wr.fr ((WRG7_13.out).below (by repeat (first | exact Below.refl _ _ | assumption | (refine bstep ?_ (below_drewN _ _)) | exact bstep (by assumption) (by assumption) | (refine bstep ?_ (below_alloc _ _)) | (refine bstep ?_ (by assumption)) | (refine Below.setCell ?_ (by simp <;> omega) _) | refine Below.drew ?_))) fr14 (fun k h1 h2 => by have q1 := RGG7.out k h1; have q9 := RGD6.out _ h2; omega))
  have RMD6 := Lib.hid rd14
  have HLD6_14 := Lib.hid (lt_fr (lt_below HLD6_13.out (by repeat (first | exact Below.refl _ _ | assumption | (refine bstep ?_ (below_drewN _ _)) | exact bstep (by assumption) (by assumption) | (refine bstep ?_ (below_alloc _ _)) | (refine bstep ?_ (by assumption)) | (refine Below.setCell ?_ (by simp <;> omega) _) | refine Below.drew ?_))) fr14)
  clear rd14
  go_wp2_with fail
  refine (eqIntS_any G7 G4 _ h7 h4 (OL) _ HLE.out (RDG7_14.out.below HLG7_14.out (by repeat (first | exact Below.refl _ _ | assumption | (refine bstep ?_ (below_drewN _ _)) | exact bstep (by assumption) (by assumption) | (refine bstep ?_ (below_alloc _ _)) | (refine bstep ?_ (by assumption)) | (refine Below.setCell ?_ (by simp <;> omega) _) | refine Below.drew ?_))) (RDG4_14.out.below HLG4_14.out (by repeat (first | exact Below.refl _ _ | assumption | (refine bstep ?_ (below_drewN _ _)) | exact bstep (by assumption) (by assumption) | (refine bstep ?_ (below_alloc _ _)) | (refine bstep ?_ (by assumption)) | (refine Below.setCell ?_ (by simp <;> omega) _) | refine Below.drew ?_)))).mono ?_
  rintro e w15 ⟨rfl, k15, hw15⟩
  have hb15 := below_eqN hw15
  clear hw15
  have hs15 := hb15.size
  (try simp at hs15)
  have hy15_0 : w.heap.size < w15.heap.size := by omega
  have hk15_0 := fun o => hb15.cell (p := ⟨w.heap.size, o, none⟩) (by first | omega | (simp <;> omega))
  have hg15_0 := fun o => hb15.frozen (p := ⟨w.heap.size, o, none⟩) (by first | omega | (simp <;> omega))
  have hy15_1 : w5.heap.size < w15.heap.size := by omega
  have hk15_1 := fun o => hb15.cell (p := ⟨w5.heap.size, o, none⟩) (by first | omega | (simp <;> omega))
  have hg15_1 := fun o => hb15.frozen (p := ⟨w5.heap.size, o, none⟩) (by first | omega | (simp <;> omega))
  go_wp2_with fail
  refine (markIntF G7 _ h7 _ 1 _ HLE.out (by omega) (by omega) ((WRG7_14.out).below (by repeat (first | exact Below.refl _ _ | assumption | (refine bstep ?_ (below_drewN _ _)) | exact bstep (by assumption) (by assumption) | (refine bstep ?_ (below_alloc _ _)) | (refine bstep ?_ (by assumption)) | (refine Below.setCell ?_ (by simp <;> omega) _) | refine Below.drew ?_)))).mono ?_
  rintro e w16 ⟨rfl, rd16, fr16⟩
  have hs16 := fr16.size
  (try simp at hs16)
  have hB16 : Below w.heap.size _ w16 := fr16.below (fun k hk => by have q9 := RGG7.out _ hk; omega) (by first | omega | (simp <;> omega))
  have hy16_0 : w.heap.size < w16.heap.size := by omega
  have hk16_0 := fun o => fr16.cell (b := w.heap.size) (by first | omega | (simp <;> omega)) (fun h => by have q9 := RGG7.out _ h; omega) o
  have hg16_0 := fun o => fr16.frozen (b := w.heap.size) (by first | omega | (simp <;> omega)) (fun h => by have q9 := RGG7.out _ h; omega) o
  have hy16_1 : w5.heap.size < w16.heap.size := by omega
  have hk16_1 := fun o => fr16.cell (b := w5.heap.size) (by first | omega | (simp <;> omega)) (fun h => by have q9 := RGG7.out _ h; omega) o
  have hg16_1 := fun o => fr16.frozen (b := w5.heap.size) (by first | omega | (simp <;> omega)) (fun h => by have q9 := RGG7.out _ h; omega) o
  have RDG4_16 := Lib.hid (Rd.fr (RDG4_14.out.below HLG4_14.out (by repeat (first | exact Below.refl _ _ | assumption | (refine bstep ?_ (below_drewN _ _)) | exact bstep (by assumption) (by assumption) | (refine bstep ?_ (below_alloc _ _)) | (refine bstep ?_ (by assumption)) | (refine Below.setCell ?_ (by simp <;> omega) _) | refine Below.drew ?_))) (lt_below HLG4_14.out (by repeat (first | exact Below.refl _ _ | assumption | (refine bstep ?_ (below_drewN _ _)) | exact bstep (by assumption) (by assumption) | (refine bstep ?_ (below_alloc _ _)) | (refine bstep ?_ (by assumption)) | (refine Below.setCell ?_ (by simp <;> omega) _) | refine Below.drew ?_))) fr16 (fun k h1 h2 => by have q1 := RGG4.out k h1; have q9 := RGG7.out _ h2; omega))
  have HLG4_16 := Lib.hid (lt_fr (lt_below HLG4_14.out (by repeat (first | exact Below.refl _ _ | assumption | (refine bstep ?_ (below_drewN _ _)) | exact bstep (by assumption) (by assumption) | (refine bstep ?_ (below_alloc _ _)) | (refine bstep ?_ (by assumption)) | (refine Below.setCell ?_ (by simp <;> omega) _) | refine Below.drew ?_))) fr16)
  have WRG4_16 := Lib.hid (Wr.fr ((WRG4_14.out).below (by repeat (first | exact Below.refl _ _ | assumption | (refine bstep ?_ (below_drewN _ _)) | exact bstep (by assumption) (by assumption) | (refine bstep ?_ (below_alloc _ _)) | (refine bstep ?_ (by assumption)) | (refine Below.setCell ?_ (by simp <;> omega) _) | refine Below.drew ?_))) fr16 (fun k h1 h2 => by have q1 := RGG4.out k h1; have q9 := RGG7.out _ h2; omega))
  have RMG7 := Lib.hid rd16
  have HLG7_16 := Lib.hid (lt_fr (lt_below HLG7_14.out (by repeat (first | exact Below.refl _ _ | assumption | (refine bstep ?_ (below_drewN _ _)) | exact bstep (by assumption) (by assumption) | (refine bstep ?_ (below_alloc _ _)) | (refine bstep ?_ (by assumption)) | (refine Below.setCell ?_ (by simp <;> omega) _) | refine Below.drew ?_))) fr16)
  clear rd16
  go_wp2_with fail
  refine (heldInt_any G7 _ h7 1 _ HLE.out (by omega) (by omega) (RMG7.out.below HLG7_16.out (by repeat (first | exact Below.refl _ _ | assumption | (refine bstep ?_ (below_drewN _ _)) | exact bstep (by assumption) (by assumption) | (refine bstep ?_ (below_alloc _ _)) | (refine bstep ?_ (by assumption)) | (refine Below.setCell ?_ (by simp <;> omega) _) | refine Below.drew ?_)))).mono ?_
  rintro e w17 ⟨rfl, hw17⟩
  have hb17 := below_same hw17
  clear hw17
  have hs17 := hb17.size
  (try simp at hs17)
  have hy17_0 : w.heap.size < w17.heap.size := by omega
  have hk17_0 := fun o => hb17.cell (p := ⟨w.heap.size, o, none⟩) (by first | omega | (simp <;> omega))
  have hg17_0 := fun o => hb17.frozen (p := ⟨w.heap.size, o, none⟩) (by first | omega | (simp <;> omega))
  have hy17_1 : w5.heap.size < w17.heap.size := by omega
  have hk17_1 := fun o => hb17.cell (p := ⟨w5.heap.size, o, none⟩) (by first | omega | (simp <;> omega))
  have hg17_1 := fun o => hb17.frozen (p := ⟨w5.heap.size, o, none⟩) (by first | omega | (simp <;> omega))
  go_wp2_with fail
  refine (toTopo_any A B n c m d ps ns _ HN.out HM.out (HR.out.below (by repeat (first | exact Below.refl _ _ | assumption | (refine bstep ?_ (below_drewN _ _)) | exact bstep (by assumption) (by assumption) | (refine bstep ?_ (below_alloc _ _)) | (refine bstep ?_ (by assumption)) | (refine Below.setCell ?_ (by simp <;> omega) _) | refine Below.drew ?_ | (refine Below.trans ?_ (by assumption))))) (HQ.out.below (by repeat (first | exact Below.refl _ _ | assumption | (refine bstep ?_ (below_drewN _ _)) | exact bstep (by assumption) (by assumption) | (refine bstep ?_ (below_alloc _ _)) | (refine bstep ?_ (by assumption)) | (refine Below.setCell ?_ (by simp <;> omega) _) | refine Below.drew ?_ | (refine Below.trans ?_ (by assumption)))))).mono ?_
  rintro e w18 ⟨u18, v18, rfl, owa18, owb18, hb18⟩
  have hs18 := hb18.size
  (try simp at hs18)
  have hy18_0 : w.heap.size < w18.heap.size := by omega
  have hk18_0 := fun o => hb18.cell (p := ⟨w.heap.size, o, none⟩) (by first | omega | (simp <;> omega))
  have hg18_0 := fun o => hb18.frozen (p := ⟨w.heap.size, o, none⟩) (by first | omega | (simp <;> omega))
  have hy18_1 : w5.heap.size < w18.heap.size := by omega
  have hk18_1 := fun o => hb18.cell (p := ⟨w5.heap.size, o, none⟩) (by first | omega | (simp <;> omega))
  have hg18_1 := fun o => hb18.frozen (p := ⟨w5.heap.size, o, none⟩) (by first | omega | (simp <;> omega))
  obtain ⟨A18, c18, rfl, rd_A18⟩ := own_rd owa18
  have RDA18 := Lib.hid rd_A18
  have HLA18 := Lib.hid (own_blk owa18)
  have RGA18 : Hid (∀ k, atB A18 k → w17.heap.size ≤ k ∧ k < w18.heap.size) := Lib.hid (fun k hk => ⟨by have h9 := (own_rng owa18 k hk).1; (try simp at h9); omega, (own_rng owa18 k hk).2⟩)
  have OWA18 := Lib.hid owa18
  clear rd_A18 owa18
  obtain ⟨B18, d18, rfl, rd_B18⟩ := own_rd owb18
  have RDB18 := Lib.hid rd_B18
  have HLB18 := Lib.hid (own_blk owb18)
  have RGB18 : Hid (∀ k, atB B18 k → w17.heap.size ≤ k ∧ k < w18.heap.size) := Lib.hid (fun k hk => ⟨by have h9 := (own_rng owb18 k hk).1; (try simp at h9); omega, (own_rng owb18 k hk).2⟩)
  have OWB18 := Lib.hid owb18
  clear rd_B18 owb18
  go_wp2_with fail
  refine (toIntS_any D k e nd _ HK.out (HD.out.below (by repeat (first | exact Below.refl _ _ | assumption | (refine bstep ?_ (below_drewN _ _)) | exact bstep (by assumption) (by assumption) | (refine bstep ?_ (below_alloc _ _)) | (refine bstep ?_ (by assumption)) | (refine Below.setCell ?_ (by simp <;> omega) _) | refine Below.drew ?_ | (refine Below.trans ?_ (by assumption)))))).mono ?_
  rintro e w19 ⟨v19, rfl, own19, hb19⟩
  have hs19 := hb19.size
  (try simp at hs19)
  have hy19_0 : w.heap.size < w19.heap.size := by omega
  have hk19_0 := fun o => hb19.cell (p := ⟨w.heap.size, o, none⟩) (by first | omega | (simp <;> omega))
  have hg19_0 := fun o => hb19.frozen (p := ⟨w.heap.size, o, none⟩) (by first | omega | (simp <;> omega))
  have hy19_1 : w5.heap.size < w19.heap.size := by omega
  have hk19_1 := fun o => hb19.cell (p := ⟨w5.heap.size, o, none⟩) (by first | omega | (simp <;> omega))
  have hg19_1 := fun o => hb19.frozen (p := ⟨w5.heap.size, o, none⟩) (by first | omega | (simp <;> omega))
  obtain ⟨D19, e19, rfl, rd_D19⟩ := own_rd own19
  have RDD19 := Lib.hid rd_D19
  have HLD19 := Lib.hid (own_blk own19)
  have RGD19 : Hid (∀ k, atB D19 k → w18.heap.size ≤ k ∧ k < w19.heap.size) := Lib.hid (fun k hk => ⟨by have h9 := (own_rng own19 k hk).1; (try simp at h9); omega, (own_rng own19 k hk).2⟩)
  have OWD19 := Lib.hid own19
  clear rd_D19 own19
  go_wp2_with fail
  refine (HIC.out A18 B18 D19 c18 d18 e19 _ (RDA18.out.below HLA18.out (by repeat (first | exact Below.refl _ _ | assumption | (refine bstep ?_ (below_drewN _ _)) | exact bstep (by assumption) (by assumption) | (refine bstep ?_ (below_alloc _ _)) | (refine bstep ?_ (by assumption)) | (refine Below.setCell ?_ (by simp <;> omega) _) | refine Below.drew ?_))) (RDB18.out.below HLB18.out (by repeat (first | exact Below.refl _ _ | assumption | (refine bstep ?_ (below_drewN _ _)) | exact bstep (by assumption) (by assumption) | (refine bstep ?_ (below_alloc _ _)) | (refine bstep ?_ (by assumption)) | (refine Below.setCell ?_ (by simp <;> omega) _) | refine Below.drew ?_))) (lt_below HLA18.out (by repeat (first | exact Below.refl _ _ | assumption | (refine bstep ?_ (below_drewN _ _)) | exact bstep (by assumption) (by assumption) | (refine bstep ?_ (below_alloc _ _)) | (refine bstep ?_ (by assumption)) | (refine Below.setCell ?_ (by simp <;> omega) _) | refine Below.drew ?_))) (lt_below HLB18.out (by repeat (first | exact Below.refl _ _ | assumption | (refine bstep ?_ (below_drewN _ _)) | exact bstep (by assumption) (by assumption) | (refine bstep ?_ (below_alloc _ _)) | (refine bstep ?_ (by assumption)) | (refine Below.setCell ?_ (by simp <;> omega) _) | refine Below.drew ?_))) (RDD19.out.below HLD19.out (by repeat (first | exact Below.refl _ _ | assumption | (refine bstep ?_ (below_drewN _ _)) | exact bstep (by assumption) (by assumption) | (refine bstep ?_ (below_alloc _ _)) | (refine bstep ?_ (by assumption)) | (refine Below.setCell ?_ (by simp <;> omega) _) | refine Below.drew ?_))) (lt_below HLD19.out (by repeat (first | exact Below.refl _ _ | assumption | (refine bstep ?_ (below_drewN _ _)) | exact bstep (by assumption) (by assumption) | (refine bstep ?_ (below_alloc _ _)) | (refine bstep ?_ (by assumption)) | (refine Below.setCell ?_ (by simp <;> omega) _) | refine Below.drew ?_)))).mono ?_
  rintro e w20 ⟨v20, rfl, own20, hb20⟩
  have hs20 := hb20.size
  (try simp at hs20)
  have hy20_0 : w.heap.size < w20.heap.size := by omega
  have hk20_0 := fun o => hb20.cell (p := ⟨w.heap.size, o, none⟩) (by first | omega | (simp <;> omega))
  have hg20_0 := fun o => hb20.frozen (p := ⟨w.heap.size, o, none⟩) (by first | omega | (simp <;> omega))
  have hy20_1 : w5.heap.size < w20.heap.size := by omega
  have hk20_1 := fun o => hb20.cell (p := ⟨w5.heap.size, o, none⟩) (by first | omega | (simp <;> omega))
  have hg20_1 := fun o => hb20.frozen (p := ⟨w5.heap.size, o, none⟩) (by first | omega | (simp <;> omega))
  obtain ⟨G20, h20, rfl, rd_G20⟩ := own_rd own20
  have RDG20 := Lib.hid rd_G20
  have HLG20 := Lib.hid (own_blk own20)
  have RGG20 : Hid (∀ k, atB G20 k → w19.heap.size ≤ k ∧ k < w20.heap.size) := Lib.hid (fun k hk => ⟨by have h9 := (own_rng own20 k hk).1; (try simp at h9); omega, (own_rng own20 k hk).2⟩)
  have OWG20 := Lib.hid own20
  clear rd_G20 own20
  go_wp2_with fail
  refine (eqIntS_any G20 G4 _ h20 h4 (OL) _ HLE.out (RDG20.out.below HLG20.out (by repeat (first | exact Below.refl _ _ | assumption | (refine bstep ?_ (below_drewN _ _)) | exact bstep (by assumption) (by assumption) | (refine bstep ?_ (below_alloc _ _)) | (refine bstep ?_ (by assumption)) | (refine Below.setCell ?_ (by simp <;> omega) _) | refine Below.drew ?_))) (RDG4_16.out.below HLG4_16.out (by repeat (first | exact Below.refl _ _ | assumption | (refine bstep ?_ (below_drewN _ _)) | exact bstep (by assumption) (by assumption) | (refine bstep ?_ (below_alloc _ _)) | (refine bstep ?_ (by assumption)) | (refine Below.setCell ?_ (by simp <;> omega) _) | refine Below.drew ?_)))).mono ?_
  rintro e w21 ⟨rfl, k21, hw21⟩
  have hb21 := below_eqN hw21
  clear hw21
  have hs21 := hb21.size
  (try simp at hs21)
  have hy21_0 : w.heap.size < w21.heap.size := by omega
  have hk21_0 := fun o => hb21.cell (p := ⟨w.heap.size, o, none⟩) (by first | omega | (simp <;> omega))
  have hg21_0 := fun o => hb21.frozen (p := ⟨w.heap.size, o, none⟩) (by first | omega | (simp <;> omega))
  have hy21_1 : w5.heap.size < w21.heap.size := by omega
  have hk21_1 := fun o => hb21.cell (p := ⟨w5.heap.size, o, none⟩) (by first | omega | (simp <;> omega))
  have hg21_1 := fun o => hb21.frozen (p := ⟨w5.heap.size, o, none⟩) (by first | omega | (simp <;> omega))
  go_wp2_with fail
  refine (heldInt_any G7 _ h7 1 _ HLE.out (by omega) (by omega) (RMG7.out.below HLG7_16.out (by repeat (first | exact Below.refl _ _ | assumption | (refine bstep ?_ (below_drewN _ _)) | exact bstep (by assumption) (by assumption) | (refine bstep ?_ (below_alloc _ _)) | (refine bstep ?_ (by assumption)) | (refine Below.setCell ?_ (by simp <;> omega) _) | refine Below.drew ?_)))).mono ?_
  rintro e w22 ⟨rfl, hw22⟩
  have hb22 := below_same hw22
  clear hw22
  have hs22 := hb22.size
  (try simp at hs22)
  have hy22_0 : w.heap.size < w22.heap.size := by omega
  have hk22_0 := fun o => hb22.cell (p := ⟨w.heap.size, o, none⟩) (by first | omega | (simp <;> omega))
  have hg22_0 := fun o => hb22.frozen (p := ⟨w.heap.size, o, none⟩) (by first | omega | (simp <;> omega))
  have hy22_1 : w5.heap.size < w22.heap.size := by omega
  have hk22_1 := fun o => hb22.cell (p := ⟨w5.heap.size, o, none⟩) (by first | omega | (simp <;> omega))
  have hg22_1 := fun o => hb22.frozen (p := ⟨w5.heap.size, o, none⟩) (by first | omega | (simp <;> omega))
  go_wp2
  go_ret
  exact ⟨rfl, (by repeat (first | exact Below.refl _ _ | assumption | (refine bstep ?_ (below_drewN _ _)) | exact bstep (by assumption) (by assumption) | (refine bstep ?_ (below_alloc _ _)) | (refine bstep ?_ (by assumption)) | (refine Below.setCell ?_ (by simp <;> omega) _) | refine Below.drew ?_ | (refine Below.trans ?_ (by assumption))))⟩
theorem law_choose (A B : Option Addr) (n c m d : Nat) (ps : List Int) (ns : List Q) (D : Option Addr) (k e : Nat) (nd : List Int) (nn most : Int)  (w : World) (hn : n ≤ maxLen) (hm : m ≤ maxLen) (hk : k ≤ maxLen) (hr : RdI w A n ps) (hq : RdE w B m ns) (hd : RdI w D k nd) :
    Calls Try.prog 4 #[.agg #[.slice A n c, .slice B m d], .slice D k e, .int .i64 nn, .int .i64 most] w fun e w' => e = .returned (.bool true) ∧ Below w.heap.size w w' := by
  by_cases hk9 : (k : Int) ≤ 1048576
  · rcases szT_cases n m with h | ⟨h, h1, h2⟩
    · exact law_choose_big A B n c m d D k e nn most w hk9 hn hm h
    · exact law_choose_small A B n c m d ps ns D k e nd nn most w hk9 h h1 h2 hr hq hd
  · exact law_choose_long A B n c m d D k e nn most w hk9 hk
end Go.Proofs.Ytdppjjdhidkjoaa
