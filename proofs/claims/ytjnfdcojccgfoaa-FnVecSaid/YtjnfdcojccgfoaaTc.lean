import Derived.Test.YtjnfdcojccgfoaaTb
namespace Go.Proofs.Ytjnfdcojccgfoaa
set_option linter.unusedSimpArgs false
set_option linter.unusedVariables false
set_option linter.unnecessarySimpa false
open Go.RowKit
theorem lev_le {ps : List Int} (h : parOk ps) {s : Nat} (hs : s < ps.length) : -1 ≤ lev ps s ∧ lev ps s ≤ ps.length := by
  rcases lev_ge h hs with h0 | h0
  · obtain ⟨l, hl, hlf, hsl⟩ := leaf_below h _ s (Nat.le_refl _) hs
    have h1 := lev_dep h _ s (Nat.le_refl _) hs h0 l hl hlf hsl
    have h2 := dep_le h l hl
    omega
  · omega
/-- The level so far, behind k kids. -/
def stL (L : List Int) (k : Nat) : Int := if k = 0 then -1 else L.getD 0 0
def goodL (L : List Int) (k : Nat) : Prop := ∀ j, j < k → L.getD j 0 = L.getD 0 0 ∧ 0 ≤ L.getD 0 0
theorem comb_neg {L : List Int} {k : Nat} (hk : k < L.length) (hg : goodL L k) (h : L.getD k 0 < 0 ∨ (0 < k ∧ L.getD k 0 ≠ L.getD 0 0)) : comb L = -1 := by
  cases L with
  | nil => simp at hk
  | cons x r =>
    simp only [comb]
    split
    · rfl
    · rename_i hx
      rw [if_neg]
      intro hall
      rw [List.all_eq_true] at hall
      have key : (x :: r).getD k 0 = x := by
        cases k with
        | zero => simp
        | succ k =>
          have hk' : k < r.length := by simpa using hk
          have := hall r[k] (List.getElem_mem hk')
          simp only [beq_iff_eq] at this
          simp [hk', this]
      rcases h with h | ⟨_, h⟩
      · rw [key] at h; omega
      · rw [key] at h; exact h (by simp)
theorem comb_all {L : List Int} (hg : goodL L L.length) : comb L = stL L L.length + 1 := by
  cases L with
  | nil => simp [comb, stL]
  | cons x r =>
    have h0 := hg 0 (by simp)
    simp only [comb]
    have hx : 0 ≤ x := by simpa using h0.2
    rw [if_neg (by omega), if_pos]
    · simp [stL]
    · rw [List.all_eq_true]
      intro y hy
      obtain ⟨j, hj, rfl⟩ := List.getElem_of_mem hy
      have := (hg (j + 1) (by simpa using hj)).1
      simp [hj] at this
      simp [this]
theorem goodL_succ {L : List Int} {k : Nat} (hg : goodL L k) (h0 : 0 ≤ L.getD k 0) (h : k = 0 ∨ L.getD k 0 = L.getD 0 0) : goodL L (k + 1) := by
  intro j hj
  rcases Nat.lt_or_ge j k with h1 | h1
  · exact hg j h1
  · have : j = k := by omega
    subst this
    rcases h with rfl | h
    · exact ⟨rfl, h0⟩
    · exact ⟨h, by rw [← h]; exact h0⟩
theorem nvals_get {l : List Nat} {k : Nat} {x : Value} (h : (nvals l)[k]? = some x) : ∃ a, l[k]? = some a ∧ x = .int .i64 (a : Int) := by
  unfold nvals at h
  rw [List.getElem?_map] at h
  cases hl : l[k]? with
  | none => rw [hl] at h; cases h
  | some a => rw [hl] at h; simp at h; exact ⟨a, rfl, h.symm⟩

set_option maxHeartbeats 4000000 in
theorem slevel_any : ∀ (d0 : Nat) (A B : Option Addr) (n c m d : Nat) (ps : List Int) (s : Nat) (w : World), n - s ≤ d0 → n ≤ 1048576 → Rd w A n 1 (ints ps) → (∀ g, A = some ⟨g, 0, none⟩ → g < w.heap.size) → parOk ps → s < n →
    Calls Try.prog 130 #[.agg #[.slice A n c, .slice B m d], .int .i64 s] w fun e w' => e = .returned (.int .i64 (lev ps s)) ∧ Below w.heap.size w w' := by
  intro d0
  induction d0 with
  | zero => intro A B n c m d ps s w h1 _ _ _ _ h2; omega
  | succ d0 ih =>
    intro A B n c m d ps s w hd hn hr hl hok hs
    have hpl := hr.ilen
    have IH := Lib.hid ih
    have HN := Lib.hid hn
    have HR := Lib.hid hr
    have HP := Lib.hid hpl
    have HL := Lib.hid hl
    have HO := Lib.hid hok
    clear ih hn hr hpl hl hok
    go_enter Try.func130, Try.ntmps130
    go_wp2_with fail
    refine (kids_any A B n c m d ps s _ HN.out (HR.out.below HL.out (below_alloc _ _)) (lt_below HL.out (below_alloc _ _))).mono ?_
    rintro e w1 ⟨v1, rfl, own1, hb1⟩
    obtain ⟨A1, c1, rfl, rd1⟩ := own_rd own1
    have hl1 := own_blk own1
    have hz1 : w.heap.size < w1.heap.size := by have := hb1.size; simp at this; omega
    have hkl : (kids ps s).length ≤ n := by rw [← kidsN_all ps s n HP.out]; exact kidsN_len ps s n
    generalize hK : (kids ps s).length = K at *
    have HK := Lib.hid hK
    have RD1 := Lib.hid rd1
    have HL1 := Lib.hid hl1
    have B1 := Lib.hid hb1
    have hx0 := (hb1.cell (p := ⟨w.heap.size, 0, none⟩) (by simp)).trans (show _ = some (.slice A n c) by simp [go_sem])
    have hx1 := (hb1.cell (p := ⟨w.heap.size, 1, none⟩) (by simp)).trans (show _ = some (.slice B m d) by simp [go_sem])
    have hK9 : K ≤ 9223372036854775807 := by have := HN.out; omega
    clear hK rd1 hl1 own1
    go_wp2_with fail
    go_loopw [5, 13] (fun v i wr => ∃ k : Nat, k ≤ K ∧ i = .int .i64 k ∧ v = .int .i64 (stL ((kids ps s).map (lev ps)) k) ∧ goodL ((kids ps s).map (lev ps)) k ∧ Below w1.heap.size w1 wr) (fun _ i _ => K - (intOf i).toNat)
    case atStart => exact ⟨0, Nat.zero_le _, rfl, rfl, fun j hj => absurd hj (by omega), Below.refl _ _⟩
    case round =>
      obtain ⟨k, hk, rfl, rfl, hg, hb⟩ := hrel
      have HG := Lib.hid hg
      have HB := Lib.hid hb
      have bx0 := (hb.cell (p := ⟨w.heap.size, 0, none⟩) (by omega)).trans hx0
      have bx1 := (hb.cell (p := ⟨w.heap.size, 1, none⟩) (by omega)).trans hx1
      clear hg hb hb1 hx0 hx1
      by_cases hlt : k < K
      · have hlt' : (k : Int) < K := by omega
        obtain ⟨g, u, rfl, hu, du⟩ := RD1.out.at_ hlt
        obtain ⟨kd, hkd, rfl⟩ := nvals_get hu
        have D0 := (HB.out.cell (p := ⟨g, k, none⟩) (HL1.out g rfl)).trans du
        have hmem : kd ∈ kids ps s := List.mem_of_getElem? hkd
        have hgt := kid_gt HO.out hmem
        have hkn : kd < n := by have := (mem_kids.1 hmem).1; have := HP.out; omega
        have hlv : ((kids ps s).map (lev ps)).getD k 0 = lev ps kd := by simp [List.getD, hkd]
        have hkl2 : k < ((kids ps s).map (lev ps)).length := by rw [List.length_map, HK.out]; exact hlt
        have hLE := lev_le HO.out (show kd < ps.length by rw [HP.out]; exact hkn)
        have HLV := Lib.hid hlv
        have BB : Below w.heap.size w wr := bstep (bstep (below_alloc _ _) B1.out) HB.out
        have HBB := Lib.hid BB
        clear hu du hkd hmem hlv BB
        go_wp2_with fail
        refine (IH.out A B n c m d ps kd _ (by omega) HN.out (HR.out.below HL.out HBB.out) (lt_below HL.out HBB.out) HO.out hkn).mono ?_
        rintro e w2 ⟨rfl, hb2⟩
        have HB2 := Lib.hid hb2
        clear hb2
        by_cases hneg : lev ps kd < 0
        · go_wp2
          go_ret
          exact ⟨ret_int (by rw [lev_eq HO.out (by rw [HP.out]; exact hs)]; exact (comb_neg hkl2 HG.out (Or.inl (by rw [HLV.out]; exact hneg))).symm), bstep HBB.out HB2.out⟩
        · by_cases hk0 : k = 0
          · have hk0' : ¬ ((0 : Int) < k) := by omega
            have HK0 := Lib.hid hk0
            clear hk0
            go_wp2
            go_roundw
            case rel => exact ⟨k + 1, by omega, by go_num, by unfold stL; rw [if_neg (by omega), ← HLV.out, HK0.out], goodL_succ HG.out (by rw [HLV.out]; omega) (Or.inl HK0.out), bstep HB.out HB2.out⟩
            case measure => simp [intOf]; omega
          · have hk0' : (0 : Int) < k := by omega
            have hst : stL ((kids ps s).map (lev ps)) k = ((kids ps s).map (lev ps)).getD 0 0 := by unfold stL; rw [if_neg hk0]
            generalize stL ((kids ps s).map (lev ps)) k = st at *
            have HST := Lib.hid hst
            clear hst
            by_cases hne : lev ps kd = st
            · have hne' : (lev ps kd != st) = false := by simp [hne]
              have hne2 : (lev ps kd == st) = true := by simp [hne]
              have HNE := Lib.hid hne
              clear hne
              go_wp2
              go_roundw
              case rel => exact ⟨k + 1, by omega, by go_num, by unfold stL; rw [if_neg (by omega), ← HST.out, HNE.out], goodL_succ HG.out (by rw [HLV.out]; omega) (Or.inr (by rw [HLV.out, HNE.out, HST.out])), bstep HB.out HB2.out⟩
              case measure => simp [intOf]; omega
            · have hne' : (lev ps kd != st) = true := by simp [hne]
              have hne2 : (lev ps kd == st) = false := by simp [hne]
              go_wp2
              go_ret
              exact ⟨ret_int (by rw [lev_eq HO.out (by rw [HP.out]; exact hs)]; exact (comb_neg hkl2 HG.out (Or.inr ⟨by omega, by rw [HLV.out, ← HST.out]; exact hne⟩)).symm), bstep HBB.out HB2.out⟩
      · have hk9 : k = K := by omega
        subst hk9
        have hfin : lev ps s = stL ((kids ps s).map (lev ps)) k + 1 := by
          rw [lev_eq HO.out (by rw [HP.out]; exact hs)]
          have := comb_all (L := (kids ps s).map (lev ps)) (by rw [List.length_map, HK.out]; exact HG.out)
          rw [List.length_map, HK.out] at this
          exact this
        have hLE := lev_le HO.out (show s < ps.length by rw [HP.out]; exact hs)
        have hn2 : (ps.length : Int) ≤ 1048576 := by have := HN.out; have := HP.out; omega
        generalize stL ((kids ps s).map (lev ps)) k = st at *
        have HF := Lib.hid hfin
        have hst1 : -9223372036854775808 ≤ st + 1 := by omega
        have hst2 : st + 1 ≤ 9223372036854775807 := by omega
        clear hfin
        go_wp2
        go_ret
        exact ⟨ret_int HF.out.symm, bstep (bstep (below_alloc _ _) B1.out) HB.out⟩
end Go.Proofs.Ytjnfdcojccgfoaa
