/-
  FnChoose: what is chosen is so many of the nodes, below a switch of the least level that does.
-/
import Derived.Test.YtdppjjdhidkjoaaDch
import Derived.Test.YtdppjjdhidkjoaaCk
import Derived.Test.YtdppjjdhidkjoaaA13
import Derived.Deep.RegionHeld3
namespace Go.Proofs.Ytdppjjdhidkjoaa
set_option linter.unusedSimpArgs false
set_option linter.unusedVariables false
set_option linter.unnecessarySimpa false
open Go.RowKit
theorem chF_no {ps : List Int} {ns : List Q} {nd : List Int} {nn most : Int} (h : chB_ ps ns nd nn most = false) : chL_ ps ns nd nn most = [] := by
  unfold chB_ at h
  unfold chL_
  cases hc : ChooseV ps ns nd nn most with
  | none => rfl
  | some o => rw [hc] at h; cases h
theorem chF_yes {ps : List Int} {ns : List Q} {nd : List Int} {nn most : Int} (h : chB_ ps ns nd nn most = true) :
    ∃ (q b : Nat), nn = q ∧ 1 ≤ q ∧ (chL_ ps ns nd nn most).length = q ∧ (chL_ ps ns nd nn most).Pairwise (· < ·) ∧ (∀ x ∈ chL_ ps ns nd nn most, hasZ nd x = true) ∧ areB ps ns nd = true ∧ nd.Nodup ∧ topoOkB ps ns = true ∧
      lowestV ps ns (chL_ ps ns nd nn most) = b ∧ b < ps.length ∧ lev ps b ≤ most ∧ (∀ s, s < ps.length → q ≤ (undr ps ns nd s).length → lev ps b ≤ lev ps s) ∧ leavesV ps ns (chL_ ps ns nd nn most) ≤ q := by
  unfold chB_ at h
  unfold chL_
  cases hc : ChooseV ps ns nd nn most with
  | none => rw [hc] at h; cases h
  | some out =>
    simp only [Option.getD_some]
    unfold ChooseV at hc
    split at hc
    · rename_i hg
      have hnd := asc_nodup hg
      simp only [Bool.and_eq_true, decide_eq_true_eq] at hg
      obtain ⟨⟨ha, _⟩, h1⟩ := hg
      obtain ⟨q, rfl⟩ : ∃ q : Nat, nn = q := ⟨nn.toNat, by omega⟩
      rw [Int.toNat_natCast] at hc
      obtain ⟨b', _, _, _, hlen, hasc, hmem⟩ := choose_some hnd hc
      obtain ⟨ho, b, hb1, hb2, hb3, hb4⟩ := choose_low ha hnd (by omega) hc
      refine ⟨q, b, rfl, by omega, hlen, hasc, fun x hx => hasZ_iff.2 (List.mem_filter.1 (hmem x hx)).1, ha, hnd, ?_, hb1, hb2, hb3, hb4, ?_⟩
      · simp only [areB, Bool.and_eq_true] at ha; exact ha.2
      · unfold leavesV
        rw [if_pos ho]
        have := dist_len (lfN ns) out
        omega
    · cases hc
theorem chF_len9 (ps : List Int) (ns : List Q) (nd : List Int) (nn most : Int) (h : nd.length ≤ 1048576) : (chL_ ps ns nd nn most).length ≤ 1048576 := by
  unfold chL_
  cases hc : ChooseV ps ns nd nn most with
  | none => simp
  | some out =>
    unfold ChooseV at hc
    split at hc
    · rename_i hg
      unfold chooseV at hc
      split at hc
      · cases hc
      · have hn : nd.Nodup := asc_nodup hg
        injection hc with hc
        subst hc
        have h1 : (undr ps ns nd (bestN ps ns nd nn.toNat most ps.length).toNat).Nodup := hn.filter _
        have h2 := undr_len ps ns nd (bestN ps ns nd nn.toNat most ps.length).toNat
        unfold outV
        simp only [Option.getD_some]
        rw [riseAll_len, List.length_take, flatG_len h1 (sortL_isL _ _)]
        omega
    · cases hc
theorem fc_blen {ps : List Int} {ns : List Q} (h : ns.length ≤ 1048576) (b : Int) : (belowV ps ns b).length ≤ 1048576 := by
  unfold belowV
  split
  · unfold preI; rw [List.length_map]; have := belowN_len ps ns b.toNat ns.length; omega
  · simp
/-- How many of a row's first nodes are among some nodes. -/
def cntH (nd L : List Int) : Nat := (L.filter fun x => hasZ nd x).length
theorem cntH_snoc (nd L : List Int) (x : Int) : cntH nd (L ++ [x]) = if hasZ nd x then cntH nd L + 1 else cntH nd L := by
  unfold cntH
  rw [List.filter_append]
  cases h : hasZ nd x <;> simp [h]
theorem cntH_len (nd L : List Int) : cntH nd L ≤ L.length := List.length_filter_le _ _
theorem cntH_undr {ps : List Int} {ns : List Q} {nd : List Int} {s : Nat} (ha : areB ps ns nd = true) (hn : nd.Nodup) (hs : s < ps.length) : cntH nd (belowV ps ns (s : Int)) = (undr ps ns nd s).length := by
  simp only [areB, Bool.and_eq_true] at ha
  have hB : hasB ps ns (s : Int) = true := by unfold hasB; rw [ha.2]; simp; omega
  unfold cntH belowV
  rw [hB, if_pos rfl, Int.toNat_natCast]
  have h1 : (preI (belowN ps ns s ns.length)).Nodup := by
    have h0 : (belowN ps ns s ns.length).Nodup := List.nodup_range.filter _
    unfold preI
    rw [List.nodup_iff_pairwise_ne, List.pairwise_map]
    exact (List.nodup_iff_pairwise_ne.1 h0).imp (fun {a b} hab e => hab (by omega))
  have h2 : (undr ps ns nd s).Nodup := hn.filter _
  refine ((List.perm_ext_iff_of_nodup (h1.filter _) h2).2 fun x => ?_).length_eq
  rw [List.mem_filter, hasZ_iff]
  unfold undr preI belowN
  rw [List.mem_filter, List.mem_map]
  constructor
  · rintro ⟨⟨i, hi, rfl⟩, hx⟩
    rw [List.mem_filter] at hi
    exact ⟨hx, hi.2⟩
  · rintro ⟨hx, hu⟩
    obtain ⟨x0, x1⟩ := inNodes_iff.1 ha.1 x hx
    refine ⟨⟨x.toNat, ?_, by omega⟩, hx⟩
    rw [List.mem_filter]
    refine ⟨List.mem_range.2 (by omega), ?_⟩
    rwa [show ((x.toNat : Nat) : Int) = x by omega]

set_option maxHeartbeats 8000000 in
set_option maxRecDepth 20000 in
theorem law_fchoose_go (A0 : Option Addr) (n c0 : Nat) (w : World) (hn : n ≤ 1048576) (h : ByIn w A0 n) :
    Calls Try.prog 3 #[.slice A0 n c0] w fun e w' => e = .returned (.bool true) ∧ Below w.heap.size w w' := by
  have HB := Lib.hid h
  have HN := Lib.hid hn
  have hn' : ¬ (1048576 : Int) < n := by omega
  clear h hn
  go_enter Try.func3, Try.ntmps3
  go_wp2_with fail
  refine (drawChoose_any A0 n c0 _ HN.out HB.out).mono ?_
  rintro e w1 ⟨A, B, D, c, d, e9, ps, ns, nd, nn, most, rfl, hp, hn2, hnd, oa, ob, od, hb1⟩
  have hs1 := hb1.size
  (try simp at hs1)
  have OA := Lib.hid oa
  have OB := Lib.hid ob
  have OD := Lib.hid od
  clear oa ob od
  obtain ⟨OL, hOL⟩ : ∃ y, y = chL_ ps ns nd nn most := ⟨_, rfl⟩
  obtain ⟨OB_, hOB⟩ : ∃ y, y = chB_ ps ns nd nn most := ⟨_, rfl⟩
  go_wp2_with fail
  refine (Choose_any A B ps.length c ns.length d ps ns D nd.length e9 nd nn most _ (by omega) (by omega) (own_rdd' (own_bel OA.out (below_alloc _ _))) (own_rdd' (own_bel OB.out (below_alloc _ _))) (own_blk (own_bel OA.out (below_alloc _ _))) (own_blk (own_bel OB.out (below_alloc _ _))) (by omega) (own_rdd' (own_bel OD.out (below_alloc _ _))) (own_blk (own_bel OD.out (below_alloc _ _)))).mono ?_
  rintro e w2 ⟨v2, rfl, own2, hb2⟩
  have hs2 := hb2.size
  (try simp at hs2)
  have hy20 : w1.heap.size < w2.heap.size := by omega
  have hk20 := fun o => hb2.cell (p := ⟨w1.heap.size, o, none⟩) (by first | omega | (simp <;> omega))
  have hg20 := fun o => hb2.frozen (p := ⟨w1.heap.size, o, none⟩) (by first | omega | (simp <;> omega))
  rw [← hOL] at own2
  rw [← hOB]
  obtain ⟨G2, h2, rfl, _⟩ := own_rd own2
  have OG2 := Lib.hid own2
  have OA2 := Lib.hid (own_bel (own_bel OA.out (below_alloc _ _)) hb2)
  have OB2 := Lib.hid (own_bel (own_bel OB.out (below_alloc _ _)) hb2)
  have OD2 := Lib.hid (own_bel (own_bel OD.out (below_alloc _ _)) hb2)
  clear OA OB OD own2
  have HOL := Lib.hid hOL
  have HOB := Lib.hid hOB
  clear hOL hOB
  go_wp2_with fail
  refine (sChoose_any A B ps.length c ns.length d ps ns D nd.length e9 nd nn most _ (by omega) (by omega) (own_rdd' (own_bel OA2.out (Below.refl _ _))) (own_rdd' (own_bel OB2.out (Below.refl _ _))) (own_blk (own_bel OA2.out (Below.refl _ _))) (own_blk (own_bel OB2.out (Below.refl _ _))) (by omega) (own_rdd' (own_bel OD2.out (Below.refl _ _))) (own_blk (own_bel OD2.out (Below.refl _ _)))).mono ?_
  rintro e w3 ⟨v3, rfl, own3, hb3⟩
  have hs3 := hb3.size
  (try simp at hs3)
  have hy30 : w1.heap.size < w3.heap.size := by omega
  have hk30 := fun o => hb3.cell (p := ⟨w1.heap.size, o, none⟩) (by first | omega | (simp <;> omega))
  have hg30 := fun o => hb3.frozen (p := ⟨w1.heap.size, o, none⟩) (by first | omega | (simp <;> omega))
  rw [← HOB.out]
  obtain ⟨G3, h3, rfl, _⟩ := own_rd own3
  clear own3
  have OG3 := Lib.hid (own_bel OG2.out hb3)
  have OA3 := Lib.hid (own_bel OA2.out hb3)
  have OB3 := Lib.hid (own_bel OB2.out hb3)
  have OD3 := Lib.hid (own_bel OD2.out hb3)
  clear OA2 OB2 OD2 OG2
  have B3 := Lib.hid (show Below w.heap.size w w3 from (by repeat (first | exact Below.refl _ _ | assumption | (refine bstep ?_ (below_drewN _ _)) | exact bstep (by assumption) (by assumption) | (refine bstep ?_ (below_alloc _ _)) | (refine bstep ?_ (by assumption)) | (refine Below.setCell ?_ (by simp <;> omega) _) | refine Below.drew ?_)))
  cases OB_
  · have hl : OL = [] := by rw [HOL.out]; exact chF_no HOB.out.symm
    subst hl
    go_wp2
    go_ret
    exact ⟨rfl, B3.out⟩
  · obtain ⟨q, b, hnn, hq1, hlen, hasc, hin, har, hnod, htop, hlow, hbp, hmost, hbest, hleav⟩ := chF_yes HOB.out.symm
    rw [← HOL.out] at hlen hasc hin hlow hleav
    subst hnn
    have hB : hasB ps ns (b : Int) = true := by unfold hasB; rw [htop]; simp; omega
    have hlev : levelV ps ns (b : Int) = lev ps b := by unfold levelV; rw [hB]; simp
    have HASC := Lib.hid hasc
    have HIN := Lib.hid hin
    have HBEST := Lib.hid hbest
    have HLOW := Lib.hid hlow
    have HLEAV := Lib.hid hleav
    have HCU : Hid (∀ s, s < ps.length → cntH nd (belowV ps ns (s : Int)) = (undr ps ns nd s).length) := Lib.hid (fun s hs => cntH_undr har hnod hs)
    have HT := Lib.hid htop
    have hlq : OL.length ≤ 1048576 := by
      have h1 := chF_len9 ps ns nd (q : Int) most (by omega)
      rw [← HOL.out] at h1; omega
    have k0 : w3.cell? ⟨w1.heap.size, 0, none⟩ = some (.slice A ps.length c) := by simp [go_sem, *]
    have k1 : w3.cell? ⟨w1.heap.size, 1, none⟩ = some (.slice B ns.length d) := by simp [go_sem, *]
    have hlk : w1.heap.size < w3.heap.size := by omega
    obtain ⟨k3, hk3⟩ : ∃ k, k = w1.heap.size := ⟨_, rfl⟩
    have HLQ := Lib.hid hlen
    clear hlen
    clear hb1 hb2 hb3 hk20 hg20 hk30 hg30 hy20 hy30 hasc hin hbest hlow hleav htop har hnod hB HOL HOB
    rw [← hk3] at k0 k1 hlk ⊢
    clear hk3 hs1 hs2 hs3
    go_wp2
    go_loopw [54] (fun i wr => ∃ k : Nat, k ≤ OL.length ∧ i = .int .i64 k ∧ Below w3.heap.size w3 wr) (fun i _ => OL.length - (intOf i).toNat)
    case atStart => exact ⟨0, Nat.zero_le _, rfl, Below.refl _ _⟩
    case round =>
      obtain ⟨k, hk, rfl, hbw⟩ := hrel
      have HBW := Lib.hid hbw
      have OAr := Lib.hid (own_bel OA3.out hbw)
      have OBr := Lib.hid (own_bel OB3.out hbw)
      have ODr := Lib.hid (own_bel OD3.out hbw)
      have OGr := Lib.hid (own_bel OG3.out hbw)
      have k0r := (hbw.cell (p := ⟨k3, 0, none⟩) hlk).trans k0
      have k1r := (hbw.cell (p := ⟨k3, 1, none⟩) hlk).trans k1
      have hlr : k3 < wr.heap.size := Nat.lt_of_lt_of_le hlk hbw.size
      clear hbw k0 k1 OA3 OB3 OD3 OG3
      by_cases hlt : k < OL.length
      · have hlt' : (k : Int) < OL.length := by omega
        obtain ⟨g1, x, rfl, hx, cx⟩ := Rd.int (own_rdd' OGr.out) hlt
        have hxz := HIN.out x (List.mem_of_getElem? hx)
        have HXZ := Lib.hid hxz
        clear hxz
        cases k with
        | zero =>
          clear hx
          go_wp2_with fail
          refine (lhas_any D nd.length e9 nd x _ (by omega) (own_rdd' ODr.out)).mono ?_
          rintro e w5 ⟨rfl, rfl⟩
          rw [HXZ.out]
          go_wp2
          go_roundw
          case rel => exact ⟨1, by omega, by go_num, HBW.out⟩
          case measure => simp [intOf]; omega
        | succ m' =>
          obtain ⟨g1', x0, hg9, hx0, cx0⟩ := Rd.int (own_rdd' OGr.out) (show m' < OL.length by omega)
          cases hg9
          have hlt9 : x0 < x := by
            have h1 := List.getElem?_eq_some_iff.1 hx0
            have h2 := List.getElem?_eq_some_iff.1 hx
            have := List.pairwise_iff_getElem.1 HASC.out m' (m' + 1) h1.1 h2.1 (by omega)
            rw [h1.2, h2.2] at this; exact this
          have hx9 : ¬ x ≤ x0 := by omega
          clear hx hx0
          have hm1 : (0 : Int) < (m' : Int) + 1 := by omega
          have hm4 : IntKind.i64.wrap ((m' : Int) + 1 - 1) = (m' : Int) := by rw [IntWalk.i64_in _ (by omega)]; omega
          have hm4' : IntKind.i64.wrap (m' : Int) = (m' : Int) := IntWalk.i64_in _ (by omega)
          have hm5 : (0 : Int) ≤ (m' : Int) := by omega
          have hm6 : (m' : Int) < OL.length := by omega
          go_wp2_with fail
          refine (lhas_any D nd.length e9 nd x _ (by omega) (own_rdd' ODr.out)).mono ?_
          rintro e w5 ⟨rfl, rfl⟩
          rw [HXZ.out]
          go_wp2
          go_roundw
          case rel => exact ⟨m' + 2, by omega, by go_num, HBW.out⟩
          case measure => simp [intOf]; omega
      · have hlt' : ¬ (k : Int) < OL.length := by omega
        have Br := Lib.hid (bstep B3.out HBW.out)
        clear HBW hlt hk
        go_wp2_with fail
        go_region_held3 (fun w' => w'.cell? ⟨k3, 0, none⟩ = some (.slice A ps.length c) ∧ w'.cell? ⟨k3, 1, none⟩ = some (.slice B ns.length d)) (simp [go_sem, *, World.cell?_alloc_some, World.cell?_setCell_far, Nat.lt_add_right, Nat.ne_of_gt]) (first | (go_at_call 10; (with_reducible refine (lowest_any A B ps.length c ns.length d ps ns G2 OL.length h2 OL _ (by omega) (by omega) (own_rdd' (own_bel OAr.out ((Below.refl wr.heap.size wr).drew))) (own_rdd' (own_bel OBr.out ((Below.refl wr.heap.size wr).drew))) (own_blk (own_bel OAr.out ((Below.refl wr.heap.size wr).drew))) (own_blk (own_bel OBr.out ((Below.refl wr.heap.size wr).drew))) hlq (own_rdd' (own_bel OGr.out ((Below.refl wr.heap.size wr).drew))) (own_blk (own_bel OGr.out ((Below.refl wr.heap.size wr).drew)))).mono ?_); rintro e w31 ⟨rfl, hb31⟩; have hs31 := hb31.size; (try simp at hs31); have hy310 : k3 < w31.heap.size := (by omega); have hk310 := fun o => hb31.cell (p := ⟨k3, o, none⟩) (by first | omega | (simp <;> omega)); have BW31 : Below wr.heap.size wr w31 := bstep ((Below.refl _ _).drew) hb31; rw [HLOW.out]) | (go_at_call 9; (with_reducible refine (Level_any A B ps.length c ns.length d ps ns (b : Int) _ (by omega) (by omega) (own_rdd' (own_bel OAr.out BW31)) (own_rdd' (own_bel OBr.out BW31)) (own_blk (own_bel OAr.out BW31)) (own_blk (own_bel OBr.out BW31))).mono ?_); rintro e w32 ⟨rfl, hb32⟩; have hs32 := hb32.size; (try simp at hs32); have hy320 : k3 < w32.heap.size := (by omega); have hk320 := fun o => hb32.cell (p := ⟨k3, o, none⟩) (by first | omega | (simp <;> omega)); have BW32 := bstep BW31 hb32; rw [hlev]))
        skip
        have BQ := Lib.hid (bstep Br.out BW32)
        have OA4 := Lib.hid (own_bel OAr.out BW32)
        have OB4 := Lib.hid (own_bel OBr.out BW32)
        have OD4 := Lib.hid (own_bel ODr.out BW32)
        have OG4 := Lib.hid (own_bel OGr.out BW32)
        have k04 := (BW32.cell (p := ⟨k3, 0, none⟩) hlr).trans k0r
        have k14 := (BW32.cell (p := ⟨k3, 1, none⟩) hlr).trans k1r
        have hl4 : k3 < w32.heap.size := Nat.lt_of_lt_of_le hlr BW32.size
        clear BW31 BW32 hb31 hb32 OAr OBr ODr OGr k0r k1r hlr Br hk310 hk320 hy310 hy320
        obtain ⟨LB, hLB⟩ : ∃ x, x = lev ps b := ⟨_, rfl⟩
        rw [← hLB] at hmost ⊢
        have HLB := Lib.hid hLB
        clear hLB
        go_wp2
        go_loopw [85] (fun i wi => ∃ s : Nat, s ≤ ps.length ∧ i = .int .i64 s ∧ Below w32.heap.size w32 wi) (fun i _ => ps.length - (intOf i).toNat)
        case atStart => exact ⟨0, Nat.zero_le _, rfl, Below.refl _ _⟩
        case round =>
          obtain ⟨s, hs, rfl, hbw⟩ := hrel
          obtain ⟨wo, rfl⟩ : ∃ x, x = wr := ⟨wr, rfl⟩
          have HBW := Lib.hid hbw
          have OAr := Lib.hid (own_bel OA4.out hbw)
          have OBr := Lib.hid (own_bel OB4.out hbw)
          have ODr := Lib.hid (own_bel OD4.out hbw)
          have OGr := Lib.hid (own_bel OG4.out hbw)
          have k0r := (hbw.cell (p := ⟨k3, 0, none⟩) hl4).trans k04
          have k1r := (hbw.cell (p := ⟨k3, 1, none⟩) hl4).trans k14
          have hlr : k3 < wo.heap.size := Nat.lt_of_lt_of_le hl4 hbw.size
          clear hbw k04 k14 OA4 OB4 OD4 OG4
          by_cases hsl : s < ps.length
          · have hsl' : (s : Int) < ps.length := by omega
            go_wp2_with fail
            refine (Below_any A B ps.length c ns.length d ps ns (s : Int) _ (by omega) (by omega) (own_rdd' (own_bel OAr.out (Below.refl _ _))) (own_rdd' (own_bel OBr.out (Below.refl _ _))) (own_blk (own_bel OAr.out (Below.refl _ _))) (own_blk (own_bel OBr.out (Below.refl _ _)))).mono ?_
            rintro e w5 ⟨v5, rfl, own5, hb5⟩
            obtain ⟨V5, d5, rfl, _⟩ := own_rd own5
            obtain ⟨BV, hBV⟩ : ∃ y, y = belowV ps ns (s : Int) := ⟨_, rfl⟩
            rw [← hBV] at own5
            have O5 := Lib.hid own5
            have HBV := Lib.hid hBV
            have OA5 := Lib.hid (own_bel OAr.out hb5)
            have OB5 := Lib.hid (own_bel OBr.out hb5)
            have OD5 := Lib.hid (own_bel ODr.out hb5)
            have B5 := Lib.hid (bstep HBW.out hb5)
            have k05 := (hb5.cell (p := ⟨k3, 0, none⟩) hlr).trans k0r
            have k15 := (hb5.cell (p := ⟨k3, 1, none⟩) hlr).trans k1r
            have hl5 : k3 < w5.heap.size := Nat.lt_of_lt_of_le hlr hb5.size
            have hbl : BV.length ≤ 1048576 := by rw [hBV]; exact fc_blen (by omega) _
            rw [← hBV]
            clear own5 hb5 hBV OAr OBr ODr k0r k1r hlr HBW OGr
            go_wp2
            go_loopw [15, 92] (fun kv i wi => ∃ ii : Nat, ii ≤ BV.length ∧ i = .int .i64 ii ∧ kv = .int .i64 (cntH nd (BV.take ii) : Nat) ∧ wi = w5) (fun _ i _ => BV.length - (intOf i).toNat)
            case atStart => exact ⟨0, Nat.zero_le _, rfl, rfl, rfl⟩
            case round =>
              obtain ⟨ii, hii, rfl, rfl, rfl⟩ := hrel
              obtain ⟨ck, hck⟩ : ∃ y, y = cntH nd (BV.take ii) := ⟨_, rfl⟩
              have hck9 : ck ≤ 1048576 := by rw [hck]; have := cntH_len nd (BV.take ii); rw [List.length_take] at this; omega
              rw [← hck]
              have HCK := Lib.hid hck
              clear hck
              by_cases hil : ii < BV.length
              · have hil' : (ii : Int) < BV.length := by omega
                obtain ⟨g6, x6, rfl, hx6, cx6⟩ := Rd.int (own_rdd' O5.out) hil
                have HTK := Lib.hid (take_snoc' hx6)
                clear hx6
                have wr1 : IntKind.i64.wrap ((ck : Int) + 1) = (ck : Int) + 1 := IntWalk.i64_in _ (by omega)
                cases hz : hasZ nd x6
                · have HZ := Lib.hid hz
                  have HC : Hid (ck = cntH nd (BV.take (ii + 1))) := Lib.hid (by rw [HTK.out, cntH_snoc, hz]; simpa using HCK.out)
                  clear hz
                  go_wp2_with fail
                  refine (lhas_any D nd.length e9 nd x6 _ (by omega) (own_rdd' OD5.out)).mono ?_
                  rintro e w7 ⟨rfl, rfl⟩
                  rw [HZ.out]
                  go_wp2
                  go_roundw
                  case rel => exact ⟨ii + 1, by omega, by go_num, by rw [← HC.out], by first | trivial | rfl⟩
                  case measure => simp [intOf]; omega
                · have HZ := Lib.hid hz
                  have HC : Hid (ck + 1 = cntH nd (BV.take (ii + 1))) := Lib.hid (by rw [HTK.out, cntH_snoc, hz, if_pos rfl, ← HCK.out])
                  clear hz
                  go_wp2_with fail
                  refine (lhas_any D nd.length e9 nd x6 _ (by omega) (own_rdd' OD5.out)).mono ?_
                  rintro e w7 ⟨rfl, rfl⟩
                  rw [HZ.out]
                  go_wp2
                  go_roundw
                  case rel => exact ⟨ii + 1, by omega, by go_num, by rw [← HC.out]; rfl, by first | trivial | rfl⟩
                  case measure => simp [intOf]; omega
              · have hil' : ¬ (ii : Int) < BV.length := by omega
                have HC : Hid (ck = (undr ps ns nd s).length) := Lib.hid (by
                  have h1 := HCK.out
                  rw [List.take_of_length_le (by omega), HBV.out, HCU.out s hsl] at h1; exact h1)
                by_cases hqk : q ≤ ck
                · have hqk' : (q : Int) ≤ ck := by omega
                  have hle : LB ≤ lev ps s := by rw [HLB.out]; exact HBEST.out s hsl (by rw [← HC.out]; exact hqk)
                  have HLV : Hid (levelV ps ns (s : Int) = lev ps s) := Lib.hid (by
                    have hB : hasB ps ns (s : Int) = true := by unfold hasB; rw [HT.out]; simp; omega
                    unfold levelV; rw [hB]; simp)
                  have hnl : ¬ lev ps s < LB := by omega
                  go_wp2_with fail
                  refine (Level_any A B ps.length c ns.length d ps ns (s : Int) _ (by omega) (by omega) (own_rdd' (own_bel OA5.out (Below.refl _ _))) (own_rdd' (own_bel OB5.out (Below.refl _ _))) (own_blk (own_bel OA5.out (Below.refl _ _))) (own_blk (own_bel OB5.out (Below.refl _ _)))).mono ?_
                  rintro e w7 ⟨rfl, hb7⟩
                  rw [HLV.out]
                  go_wp2
                  go_roundw
                  case rel => exact ⟨s + 1, by omega, by go_num, bstep B5.out hb7⟩
                  case measure => simp [intOf]; omega
                · have hqk' : ¬ (q : Int) ≤ ck := by omega
                  go_wp2
                  go_roundw
                  case rel => exact ⟨s + 1, by omega, by go_num, B5.out⟩
                  case measure => simp [intOf]; omega
          · have hsl' : ¬ (s : Int) < ps.length := by omega
            obtain ⟨lvs, hlvs⟩ : ∃ y, y = leavesV ps ns OL := ⟨_, rfl⟩
            have hle : lvs ≤ q := by rw [hlvs]; exact HLEAV.out
            have HLS := Lib.hid hlvs
            have hlen' : (OL.length : Int) = q := by have := HLQ.out; omega
            clear hlvs
            have HLEN := Lib.hid hlen'
            clear hlen'
            go_wp2_with fail
            refine (leaves_any A B ps.length c ns.length d ps ns G2 OL.length h2 OL _ (by omega) (by omega) (own_rdd' (own_bel OAr.out (Below.refl _ _))) (own_rdd' (own_bel OBr.out (Below.refl _ _))) (own_blk (own_bel OAr.out (Below.refl _ _))) (own_blk (own_bel OBr.out (Below.refl _ _))) hlq (own_rdd' (own_bel OGr.out (Below.refl _ _))) (own_blk (own_bel OGr.out (Below.refl _ _)))).mono ?_
            rintro e w7 ⟨rfl, hb7⟩
            rw [← HLS.out]
            have hfin := bstep (bstep BQ.out HBW.out) hb7
            have HLEN9 := HLEN.out
            go_wp2
            go_ret
            exact ⟨by simp [*], hfin⟩
theorem law_fchoose (A : Option Addr) (n c : Nat) (w : World) (hn : n ≤ maxLen) (h : ByIn w A n) :
    Calls Try.prog 3 #[.slice A n c] w fun e w' => e = .returned (.bool true) ∧ Below w.heap.size w w' := by
  by_cases hs : n ≤ 1048576
  · exact law_fchoose_go A n c w hs h
  · have hs' : (1048576 : Int) < n := by omega
    unfold maxLen at hn
    go_enter Try.func3, Try.ntmps3
    go_wp2
    go_ret
    exact ⟨rfl, Below.refl _ _⟩
end Go.Proofs.Ytdppjjdhidkjoaa
