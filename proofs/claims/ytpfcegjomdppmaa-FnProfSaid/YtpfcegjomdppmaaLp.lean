/-
  FnProf: what is taken from a profile is gone over the span and nowhere else, and given back it is there again.
-/
import Derived.Test.YtpfcegjomdppmaaDs
import Derived.Test.YtpfcegjomdppmaaPy
import Derived.Test.YtpfcegjomdppmaaPj
import Derived.Test.YtpfcegjomdppmaaQf
import Derived.Test.YtpfcegjomdppmaaA3
namespace Go.Proofs.Ytpfcegjomdppmaa
set_option linter.unusedSimpArgs false
set_option linter.unusedVariables false
set_option linter.unnecessarySimpa false
open Go.RowKit
theorem same_selfP {ps : List Q} (h : profOkB ps = true) : sameB ps ps = true := by
  unfold sameB; rw [h]
  have : eqL ps ps = true := eqL_self ps
  rw [this]; rfl
/-- What holds of a profile that something was taken from. -/
structure Tkn (ps TV : List Q) (lo hi : Int) (v : V) : Prop where
  lo0 : 0 ≤ lo
  lt : lo < hi
  hi1 : hi ≤ 1000000000
  ok : profOkB ps = true
  okT : profOkB TV = true
  len : TV.length ≤ 200
  giB : giveB TV lo hi v = true
  giV : gvV TV lo hi v = ps
  same : sameB ps ps = true
  ins : ∀ z, 0 ≤ z → z ≤ 1000000000 → lo ≤ z → z < hi → addB (atV z TV) v = true ∧ addV (atV z TV) v = atV z ps
  out : ∀ z, 0 ≤ z → z ≤ 1000000000 → ¬ (lo ≤ z ∧ z < hi) → atV z TV = atV z ps
theorem tkn_of {ps : List Q} {lo hi : Int} {v : V} (h : takeB ps lo hi v = true) : Tkn ps (tkV ps lo hi v) lo hi v := by
  obtain ⟨h1, h2, h3, h4⟩ := take_parts h
  obtain ⟨g1, g2⟩ := give_take h
  have e : tkV ps lo hi v = takeV ps lo hi v := by unfold tkV; rw [h]; rfl
  have hok := take_ok h
  obtain ⟨s0, s1, s2⟩ := span_parts h2
  have at_ : ∀ z, 0 ≤ z → z ≤ 1000000000 → ∀ qs, profOkB qs = true → atV z qs = freeV z qs := by
    intro z z0 z1 qs hq
    have : timeB z = true := by simp [timeB, inB]; omega
    unfold atV; rw [hq, this]; rfl
  rw [e]
  refine ⟨s0, s1, s2, h1, hok, h4, g1, ?_, same_selfP h1, ?_, ?_⟩
  · unfold gvV; rw [g1]; exact g2
  · intro z z0 z1 hl hh
    rw [at_ z z0 z1 _ hok, at_ z z0 z1 _ h1, take_free h z0, if_pos ⟨hl, hh⟩]
    exact add_sub (take_sub h hl hh)
  · intro z z0 z1 hn
    rw [at_ z z0 z1 _ hok, at_ z z0 z1 _ h1, take_free h z0, if_neg hn]
theorem tk_false {ps : List Q} {lo hi : Int} {v : V} (h : takeB ps lo hi v = false) : tkV ps lo hi v = [] := by unfold tkV; rw [h]; rfl

set_option maxHeartbeats 8000000 in
set_option maxRecDepth 20000 in
theorem law_prof_go (A0 : Option Addr) (n c0 : Nat) (w : World) (hn : n ≤ 1048576) (h : ByIn w A0 n) :
    Calls Try.prog 8 #[.slice A0 n c0] w fun e w' => e = .returned (.bool true) ∧ Below w.heap.size w w' := by
  have HB := Lib.hid h
  have HN := Lib.hid hn
  have hn' : ¬ (1048576 : Int) < n := by omega
  clear h hn
  go_enter Try.func8, Try.ntmps8
  go_wp2_with fail
  refine (drawProfTake_any A0 n c0 _ HN.out HB.out).mono ?_
  rintro e w1 ⟨A, c, ps, lo, hi, v, rfl, hp, i1, i2, j1, j2, j3, oa, hb1⟩
  have hs1 := hb1.size
  (try simp at hs1)
  have OA1 := Lib.hid oa
  clear oa
  obtain ⟨l0, l1⟩ := i1
  obtain ⟨m0, m1⟩ := i2
  have HP12 := Lib.hid hp
  obtain ⟨TV, hTV⟩ : ∃ y, y = tkV ps lo hi v := ⟨_, rfl⟩
  obtain ⟨TB, hTB⟩ : ∃ y, y = takeB ps lo hi v := ⟨_, rfl⟩
  have HSC : Hid (∀ (A' : Option Addr) (n' c' : Nat) (W : World), n' ≤ 1048576 → Rd W A' n' 4 (flat ps) → (∀ g, A' = some ⟨g, 0, none⟩ → g < W.heap.size) → Calls Try.prog 42 #[.agg #[.slice A' n' c'], .int .i64 lo, .int .i64 hi, .agg #[.int .i64 v.A, .int .i64 v.B, .int .i64 v.C]] W fun e W' => ∃ u, e = .returned (.tuple #[.agg #[u], .bool TB]) ∧ W'.ownsRow W.heap.size 138 4 u TV.length (flat TV) ∧ Below W.heap.size W W') := Lib.hid (fun A' n' c' W h0 h1 h2 => by rw [hTV, hTB]; exact stake_any A' n' c' ps lo hi v W h0 h1 h2)
  have HIC : Hid (∀ (A' : Option Addr) (n' c' : Nat) (W : World), n' ≤ 1048576 → Rd W A' n' 4 (flat ps) → (∀ g, A' = some ⟨g, 0, none⟩ → g < W.heap.size) → Calls Try.prog 43 #[.agg #[.slice A' n' c'], .int .i64 lo, .int .i64 hi, .agg #[.int .i64 v.A, .int .i64 v.B, .int .i64 v.C]] W fun e W' => ∃ u, e = .returned (.tuple #[.agg #[u], .bool TB]) ∧ W'.ownsRow W.heap.size 138 4 u TV.length (flat TV) ∧ Below W.heap.size W W') := Lib.hid (fun A' n' c' W h0 h1 h2 => by rw [hTV, hTB]; exact take_any A' n' c' ps lo hi v W h0 h1 h2)
  have HTK : Hid (TB = true → Tkn ps TV lo hi v) := Lib.hid (fun h => by rw [hTV]; exact tkn_of (by rw [← hTB]; exact h))
  have HTF : Hid (TB = false → TV = []) := Lib.hid (fun h => by rw [hTV]; exact tk_false (by rw [← hTB]; exact h))
  clear hTV hTB
  go_wp2_with fail
  refine (HIC.out A ps.length c _ (by have := HP12.out; omega) (own_rdd' (own_bel OA1.out (by repeat (first | exact Below.refl _ _ | assumption | (refine bstep ?_ (below_drewN _ _)) | exact bstep (by assumption) (by assumption) | (refine bstep ?_ (below_alloc _ _)) | (refine bstep ?_ (by assumption)) | (refine Below.setCell ?_ (by simp <;> omega) _) | refine Below.drew ?_)))) (own_blk (own_bel OA1.out (by repeat (first | exact Below.refl _ _ | assumption | (refine bstep ?_ (below_drewN _ _)) | exact bstep (by assumption) (by assumption) | (refine bstep ?_ (below_alloc _ _)) | (refine bstep ?_ (by assumption)) | (refine Below.setCell ?_ (by simp <;> omega) _) | refine Below.drew ?_))))).mono ?_
  rintro e w2 ⟨u2, rfl, own2, hb2⟩
  have hs2 := hb2.size
  (try simp at hs2)
  have hy20 : w1.heap.size < w2.heap.size := by omega
  have hk20 := fun o => hb2.cell (p := ⟨w1.heap.size, o, none⟩) (by first | omega | (simp <;> omega))
  have hg20 := fun o => hb2.frozen (p := ⟨w1.heap.size, o, none⟩) (by first | omega | (simp <;> omega))
  have hy21 : w1.heap.size + 1 < w2.heap.size := by omega
  have hk21 := fun o => hb2.cell (p := ⟨w1.heap.size + 1, o, none⟩) (by first | omega | (simp <;> omega))
  have hg21 := fun o => hb2.frozen (p := ⟨w1.heap.size + 1, o, none⟩) (by first | omega | (simp <;> omega))
  obtain ⟨U, cu, rfl, ru2⟩ := own_rd own2
  have OU2 := Lib.hid own2
  clear ru2 own2
  go_wp2_with fail
  refine (HSC.out A ps.length c _ (by have := HP12.out; omega) (own_rdd' (own_bel OA1.out (by repeat (first | exact Below.refl _ _ | assumption | (refine bstep ?_ (below_drewN _ _)) | exact bstep (by assumption) (by assumption) | (refine bstep ?_ (below_alloc _ _)) | (refine bstep ?_ (by assumption)) | (refine Below.setCell ?_ (by simp <;> omega) _) | refine Below.drew ?_)))) (own_blk (own_bel OA1.out (by repeat (first | exact Below.refl _ _ | assumption | (refine bstep ?_ (below_drewN _ _)) | exact bstep (by assumption) (by assumption) | (refine bstep ?_ (below_alloc _ _)) | (refine bstep ?_ (by assumption)) | (refine Below.setCell ?_ (by simp <;> omega) _) | refine Below.drew ?_))))).mono ?_
  rintro e w3 ⟨u3, rfl, own3, hb3⟩
  have hs3 := hb3.size
  (try simp at hs3)
  have hy30 : w1.heap.size < w3.heap.size := by omega
  have hk30 := fun o => hb3.cell (p := ⟨w1.heap.size, o, none⟩) (by first | omega | (simp <;> omega))
  have hg30 := fun o => hb3.frozen (p := ⟨w1.heap.size, o, none⟩) (by first | omega | (simp <;> omega))
  have hy31 : w1.heap.size + 1 < w3.heap.size := by omega
  have hk31 := fun o => hb3.cell (p := ⟨w1.heap.size + 1, o, none⟩) (by first | omega | (simp <;> omega))
  have hg31 := fun o => hb3.frozen (p := ⟨w1.heap.size + 1, o, none⟩) (by first | omega | (simp <;> omega))
  have hy32 : w2.heap.size < w3.heap.size := by omega
  have hk32 := fun o => hb3.cell (p := ⟨w2.heap.size, o, none⟩) (by first | omega | (simp <;> omega))
  have hg32 := fun o => hb3.frozen (p := ⟨w2.heap.size, o, none⟩) (by first | omega | (simp <;> omega))
  obtain ⟨U3, cu3, rfl, ru3⟩ := own_rd own3
  clear ru3 own3
  cases TB
  · have hTV0 := HTF.out rfl
    subst hTV0
    go_wp2
    go_ret
    exact ⟨rfl, (by repeat (first | exact Below.refl _ _ | assumption | (refine bstep ?_ (below_drewN _ _)) | exact bstep (by assumption) (by assumption) | (refine bstep ?_ (below_alloc _ _)) | (refine bstep ?_ (by assumption)) | (refine Below.setCell ?_ (by simp <;> omega) _) | refine Below.drew ?_))⟩
  · have HT := Lib.hid (HTK.out rfl)
    have t1 := HT.out.lo0
    have t2 := HT.out.lt
    have t3 := HT.out.hi1
    clear HTK HTF HSC HIC
    go_upto_region 11 with fail
    have hB4 : Below w.heap.size w ((w3.alloc (.cells #[.slice U3 TV.length cu3] 53)).alloc (.cells #[.int .i64 0, .int .i64 (lo - 1), .int .i64 lo, .int .i64 ((lo + hi) / 2), .int .i64 (hi - 1), .int .i64 hi, .int .i64 (hi + 1), .int .i64 1000000000] 3)) := (by repeat (first | exact Below.refl _ _ | assumption | (refine bstep ?_ (below_drewN _ _)) | exact bstep (by assumption) (by assumption) | (refine bstep ?_ (below_alloc _ _)) | (refine bstep ?_ (by assumption)) | (refine Below.setCell ?_ (by simp <;> omega) _) | refine Below.drew ?_))
    have OA4 := Lib.hid (own_bel OA1.out (show Below w1.heap.size w1 ((w3.alloc (.cells #[.slice U3 TV.length cu3] 53)).alloc (.cells #[.int .i64 0, .int .i64 (lo - 1), .int .i64 lo, .int .i64 ((lo + hi) / 2), .int .i64 (hi - 1), .int .i64 hi, .int .i64 (hi + 1), .int .i64 1000000000] 3)) from (by repeat (first | exact Below.refl _ _ | assumption | (refine bstep ?_ (below_drewN _ _)) | exact bstep (by assumption) (by assumption) | (refine bstep ?_ (below_alloc _ _)) | (refine bstep ?_ (by assumption)) | (refine Below.setCell ?_ (by simp <;> omega) _) | refine Below.drew ?_))))
    have OU4 := Lib.hid (own_bel OU2.out (show Below w2.heap.size w2 ((w3.alloc (.cells #[.slice U3 TV.length cu3] 53)).alloc (.cells #[.int .i64 0, .int .i64 (lo - 1), .int .i64 lo, .int .i64 ((lo + hi) / 2), .int .i64 (hi - 1), .int .i64 hi, .int .i64 (hi + 1), .int .i64 1000000000] 3)) from (by repeat (first | exact Below.refl _ _ | assumption | (refine bstep ?_ (below_drewN _ _)) | exact bstep (by assumption) (by assumption) | (refine bstep ?_ (below_alloc _ _)) | (refine bstep ?_ (by assumption)) | (refine Below.setCell ?_ (by simp <;> omega) _) | refine Below.drew ?_))))
    have rw4 : ((w3.alloc (.cells #[.slice U3 TV.length cu3] 53)).alloc (.cells #[.int .i64 0, .int .i64 (lo - 1), .int .i64 lo, .int .i64 ((lo + hi) / 2), .int .i64 (hi - 1), .int .i64 hi, .int .i64 (hi + 1), .int .i64 1000000000] 3)).ownsRow 0 3 1 (.slice (some ⟨w3.heap.size + 1, 0, none⟩) 8 8) 8 (ints [0, lo - 1, lo, (lo + hi) / 2, hi - 1, hi, hi + 1, 1000000000]) := own_lit (cs := ints [0, lo - 1, lo, (lo + hi) / 2, hi - 1, hi, hi + 1, 1000000000]) (heap_at _ (by simp)) rfl (by decide) (by omega)
    have z0 : ((w3.alloc (.cells #[.slice U3 TV.length cu3] 53)).alloc (.cells #[.int .i64 0, .int .i64 (lo - 1), .int .i64 lo, .int .i64 ((lo + hi) / 2), .int .i64 (hi - 1), .int .i64 hi, .int .i64 (hi + 1), .int .i64 1000000000] 3)).cell? ⟨w1.heap.size, 0, none⟩ = some (.slice A ps.length c) := by simp [go_sem, *, World.cell?_alloc_some, World.cell?_setCell_far, Nat.lt_add_right, Nat.ne_of_gt]
    have z1 : ((w3.alloc (.cells #[.slice U3 TV.length cu3] 53)).alloc (.cells #[.int .i64 0, .int .i64 (lo - 1), .int .i64 lo, .int .i64 ((lo + hi) / 2), .int .i64 (hi - 1), .int .i64 hi, .int .i64 (hi + 1), .int .i64 1000000000] 3)).cell? ⟨w2.heap.size, 0, none⟩ = some (.slice U TV.length cu) := by simp [go_sem, *, World.cell?_alloc_some, World.cell?_setCell_far, Nat.lt_add_right, Nat.ne_of_gt]
    have z2 : ((w3.alloc (.cells #[.slice U3 TV.length cu3] 53)).alloc (.cells #[.int .i64 0, .int .i64 (lo - 1), .int .i64 lo, .int .i64 ((lo + hi) / 2), .int .i64 (hi - 1), .int .i64 hi, .int .i64 (hi + 1), .int .i64 1000000000] 3)).cell? ⟨w1.heap.size + 1, 0, none⟩ = some (.int .i64 v.A) := by simp [go_sem, *, World.cell?_alloc_some, World.cell?_setCell_far, Nat.lt_add_right, Nat.ne_of_gt]
    have z3 : ((w3.alloc (.cells #[.slice U3 TV.length cu3] 53)).alloc (.cells #[.int .i64 0, .int .i64 (lo - 1), .int .i64 lo, .int .i64 ((lo + hi) / 2), .int .i64 (hi - 1), .int .i64 hi, .int .i64 (hi + 1), .int .i64 1000000000] 3)).cell? ⟨w1.heap.size + 1, 1, none⟩ = some (.int .i64 v.B) := by simp [go_sem, *, World.cell?_alloc_some, World.cell?_setCell_far, Nat.lt_add_right, Nat.ne_of_gt]
    have z4 : ((w3.alloc (.cells #[.slice U3 TV.length cu3] 53)).alloc (.cells #[.int .i64 0, .int .i64 (lo - 1), .int .i64 lo, .int .i64 ((lo + hi) / 2), .int .i64 (hi - 1), .int .i64 hi, .int .i64 (hi + 1), .int .i64 1000000000] 3)).cell? ⟨w1.heap.size + 1, 2, none⟩ = some (.int .i64 v.C) := by simp [go_sem, *, World.cell?_alloc_some, World.cell?_setCell_far, Nat.lt_add_right, Nat.ne_of_gt]
    have hs4 : w3.heap.size + 1 < ((w3.alloc (.cells #[.slice U3 TV.length cu3] 53)).alloc (.cells #[.int .i64 0, .int .i64 (lo - 1), .int .i64 lo, .int .i64 ((lo + hi) / 2), .int .i64 (hi - 1), .int .i64 hi, .int .i64 (hi + 1), .int .i64 1000000000] 3)).heap.size := by simp
    have RT4 := Lib.hid (own_rdd' rw4)
    have HL4 := Lib.hid (own_blk rw4)
    have HB4 := Lib.hid hB4
    clear rw4 hB4
    generalize ((w3.alloc (.cells #[.slice U3 TV.length cu3] 53)).alloc (.cells #[.int .i64 0, .int .i64 (lo - 1), .int .i64 lo, .int .i64 ((lo + hi) / 2), .int .i64 (hi - 1), .int .i64 hi, .int .i64 (hi + 1), .int .i64 1000000000] 3)) = w4 at *
    generalize hTS : [0, lo - 1, lo, (lo + hi) / 2, hi - 1, hi, hi + 1, 1000000000] = TS at *
    clear hTS hk20 hg20 hk21 hg21 hk30 hg30 hk31 hg31 hk32 hg32 OA1 OU2 hb1 hb2 hb3
    have y0 : w1.heap.size < w4.heap.size := by omega
    have y1 : w1.heap.size + 1 < w4.heap.size := by omega
    have y2 : w2.heap.size < w4.heap.size := by omega
    go_wp2
    go_loopw [68] (fun i wr => ∃ k : Nat, k ≤ 8 ∧ i = .int .i64 k ∧ Below w4.heap.size w4 wr) (fun i _ => 8 - (intOf i).toNat)
    case atStart => exact ⟨0, by omega, rfl, Below.refl _ _⟩
    case round =>
      obtain ⟨k, hk, rfl, hbw⟩ := hrel
      have HBW := Lib.hid hbw
      have hsw := hbw.size
      have x0 := (hbw.cell (p := ⟨w1.heap.size, 0, none⟩) y0).trans z0
      have x1 := (hbw.cell (p := ⟨w2.heap.size, 0, none⟩) y2).trans z1
      have x2 := (hbw.cell (p := ⟨w1.heap.size + 1, 0, none⟩) y1).trans z2
      have x3 := (hbw.cell (p := ⟨w1.heap.size + 1, 1, none⟩) y1).trans z3
      have x4 := (hbw.cell (p := ⟨w1.heap.size + 1, 2, none⟩) y1).trans z4
      clear hbw
      by_cases hlt : k < 8
      · have hlt' : (k : Int) < 8 := by omega
        obtain ⟨gT, z, hgT, hz, cz⟩ := Rd.int (RT4.out.below HL4.out HBW.out) hlt
        obtain rfl : w3.heap.size + 1 = gT := by injection hgT with h1; injection h1
        clear hgT hz
        go_wp2_with fail
        refine (profAt_any A ps.length c ps z _ (by have := HP12.out; omega) (own_rdd' (own_bel OA4.out HBW.out)) (own_blk (own_bel OA4.out HBW.out))).mono ?_
        rintro e w5 ⟨rfl, hb5⟩
        have hs5 := hb5.size
        (try simp at hs5)
        have hy50 : w1.heap.size < w5.heap.size := by omega
        have hk50 := fun o => hb5.cell (p := ⟨w1.heap.size, o, none⟩) (by first | omega | (simp <;> omega))
        have hg50 := fun o => hb5.frozen (p := ⟨w1.heap.size, o, none⟩) (by first | omega | (simp <;> omega))
        have hy51 : w1.heap.size + 1 < w5.heap.size := by omega
        have hk51 := fun o => hb5.cell (p := ⟨w1.heap.size + 1, o, none⟩) (by first | omega | (simp <;> omega))
        have hg51 := fun o => hb5.frozen (p := ⟨w1.heap.size + 1, o, none⟩) (by first | omega | (simp <;> omega))
        have hy52 : w2.heap.size < w5.heap.size := by omega
        have hk52 := fun o => hb5.cell (p := ⟨w2.heap.size, o, none⟩) (by first | omega | (simp <;> omega))
        have hg52 := fun o => hb5.frozen (p := ⟨w2.heap.size, o, none⟩) (by first | omega | (simp <;> omega))
        go_wp2_with fail
        refine (profAt_any U TV.length cu TV z _ (by have := HT.out.len; omega) (own_rdd' (own_bel OU4.out (show Below w4.heap.size w4 _ from (by repeat (first | exact HBW.out | exact Below.refl _ _ | (refine bstep ?_ (below_drewN _ _)) | (refine bstep ?_ (below_alloc _ _)) | (refine bstep ?_ (by assumption)) | (refine Below.setCell ?_ (by simp <;> omega) _) | refine Below.drew ?_))))) (own_blk (own_bel OU4.out (show Below w4.heap.size w4 _ from (by repeat (first | exact HBW.out | exact Below.refl _ _ | (refine bstep ?_ (below_drewN _ _)) | (refine bstep ?_ (below_alloc _ _)) | (refine bstep ?_ (by assumption)) | (refine Below.setCell ?_ (by simp <;> omega) _) | refine Below.drew ?_)))))).mono ?_
        rintro e w6 ⟨rfl, hb6⟩
        have hs6 := hb6.size
        (try simp at hs6)
        have hy60 : w1.heap.size < w6.heap.size := by omega
        have hk60 := fun o => hb6.cell (p := ⟨w1.heap.size, o, none⟩) (by first | omega | (simp <;> omega))
        have hg60 := fun o => hb6.frozen (p := ⟨w1.heap.size, o, none⟩) (by first | omega | (simp <;> omega))
        have hy61 : w1.heap.size + 1 < w6.heap.size := by omega
        have hk61 := fun o => hb6.cell (p := ⟨w1.heap.size + 1, o, none⟩) (by first | omega | (simp <;> omega))
        have hg61 := fun o => hb6.frozen (p := ⟨w1.heap.size + 1, o, none⟩) (by first | omega | (simp <;> omega))
        have hy62 : w2.heap.size < w6.heap.size := by omega
        have hk62 := fun o => hb6.cell (p := ⟨w2.heap.size, o, none⟩) (by first | omega | (simp <;> omega))
        have hg62 := fun o => hb6.frozen (p := ⟨w2.heap.size, o, none⟩) (by first | omega | (simp <;> omega))
        have hy63 : w5.heap.size < w6.heap.size := by omega
        have hk63 := fun o => hb6.cell (p := ⟨w5.heap.size, o, none⟩) (by first | omega | (simp <;> omega))
        have hg63 := fun o => hb6.frozen (p := ⟨w5.heap.size, o, none⟩) (by first | omega | (simp <;> omega))
        by_cases hz0 : z < 0
        · go_wp2
          go_roundw
          case rel => exact ⟨k + 1, by omega, by go_num, (by repeat (first | exact HBW.out | exact Below.refl _ _ | (refine bstep ?_ (below_drewN _ _)) | (refine bstep ?_ (below_alloc _ _)) | (refine bstep ?_ (by assumption)) | (refine Below.setCell ?_ (by simp <;> omega) _) | refine Below.drew ?_))⟩
          case measure => simp [intOf]; omega
        · by_cases hz1 : 1000000000 < z
          · go_wp2
            go_roundw
            case rel => exact ⟨k + 1, by omega, by go_num, (by repeat (first | exact HBW.out | exact Below.refl _ _ | (refine bstep ?_ (below_drewN _ _)) | (refine bstep ?_ (below_alloc _ _)) | (refine bstep ?_ (by assumption)) | (refine Below.setCell ?_ (by simp <;> omega) _) | refine Below.drew ?_))⟩
            case measure => simp [intOf]; omega
          · by_cases hin : lo ≤ z ∧ z < hi
            · obtain ⟨hin1, hin2⟩ := hin
              have HI := Lib.hid (HT.out.ins z (by omega) (by omega) hin1 hin2)
              go_wp2_with fail
              refine (add_raw (atV z TV) v _).mono ?_
              rintro e w7 ⟨rfl, hb7⟩
              have hs7 := hb7.size
              (try simp at hs7)
              have hy70 : w1.heap.size < w7.heap.size := by omega
              have hk70 := fun o => hb7.cell (p := ⟨w1.heap.size, o, none⟩) (by first | omega | (simp <;> omega))
              have hg70 := fun o => hb7.frozen (p := ⟨w1.heap.size, o, none⟩) (by first | omega | (simp <;> omega))
              have hy71 : w1.heap.size + 1 < w7.heap.size := by omega
              have hk71 := fun o => hb7.cell (p := ⟨w1.heap.size + 1, o, none⟩) (by first | omega | (simp <;> omega))
              have hg71 := fun o => hb7.frozen (p := ⟨w1.heap.size + 1, o, none⟩) (by first | omega | (simp <;> omega))
              have hy72 : w2.heap.size < w7.heap.size := by omega
              have hk72 := fun o => hb7.cell (p := ⟨w2.heap.size, o, none⟩) (by first | omega | (simp <;> omega))
              have hg72 := fun o => hb7.frozen (p := ⟨w2.heap.size, o, none⟩) (by first | omega | (simp <;> omega))
              have hy73 : w5.heap.size < w7.heap.size := by omega
              have hk73 := fun o => hb7.cell (p := ⟨w5.heap.size, o, none⟩) (by first | omega | (simp <;> omega))
              have hg73 := fun o => hb7.frozen (p := ⟨w5.heap.size, o, none⟩) (by first | omega | (simp <;> omega))
              have hy74 : w6.heap.size < w7.heap.size := by omega
              have hk74 := fun o => hb7.cell (p := ⟨w6.heap.size, o, none⟩) (by first | omega | (simp <;> omega))
              have hg74 := fun o => hb7.frozen (p := ⟨w6.heap.size, o, none⟩) (by first | omega | (simp <;> omega))
              rw [HI.out.1, HI.out.2]
              go_wp2
              go_roundw
              case rel => exact ⟨k + 1, by omega, by go_num, (by repeat (first | exact HBW.out | exact Below.refl _ _ | (refine bstep ?_ (below_drewN _ _)) | (refine bstep ?_ (below_alloc _ _)) | (refine bstep ?_ (by assumption)) | (refine Below.setCell ?_ (by simp <;> omega) _) | refine Below.drew ?_))⟩
              case measure => simp [intOf]; omega
            · have HO := Lib.hid (HT.out.out z (by omega) (by omega) hin)
              rw [HO.out]
              by_cases hin1 : lo ≤ z
              · have hin2 : ¬ z < hi := fun h => hin ⟨hin1, h⟩
                clear hin
                go_wp2
                go_roundw
                case rel => exact ⟨k + 1, by omega, by go_num, (by repeat (first | exact HBW.out | exact Below.refl _ _ | (refine bstep ?_ (below_drewN _ _)) | (refine bstep ?_ (below_alloc _ _)) | (refine bstep ?_ (by assumption)) | (refine Below.setCell ?_ (by simp <;> omega) _) | refine Below.drew ?_))⟩
                case measure => simp [intOf]; omega
              · clear hin
                go_wp2
                go_roundw
                case rel => exact ⟨k + 1, by omega, by go_num, (by repeat (first | exact HBW.out | exact Below.refl _ _ | (refine bstep ?_ (below_drewN _ _)) | (refine bstep ?_ (below_alloc _ _)) | (refine bstep ?_ (by assumption)) | (refine Below.setCell ?_ (by simp <;> omega) _) | refine Below.drew ?_))⟩
                case measure => simp [intOf]; omega
      · have hlt' : ¬ (k : Int) < 8 := by omega
        go_wp2_with fail
        refine (give_any U TV.length cu TV lo hi v _ (by have := HT.out.len; omega) (own_rdd' (own_bel OU4.out HBW.out)) (own_blk (own_bel OU4.out HBW.out))).mono ?_
        rintro e w5 ⟨u5, rfl, own5, hb5⟩
        have hs5 := hb5.size
        (try simp at hs5)
        have hy50 : w1.heap.size < w5.heap.size := by omega
        have hk50 := fun o => hb5.cell (p := ⟨w1.heap.size, o, none⟩) (by first | omega | (simp <;> omega))
        have hg50 := fun o => hb5.frozen (p := ⟨w1.heap.size, o, none⟩) (by first | omega | (simp <;> omega))
        have hy51 : w1.heap.size + 1 < w5.heap.size := by omega
        have hk51 := fun o => hb5.cell (p := ⟨w1.heap.size + 1, o, none⟩) (by first | omega | (simp <;> omega))
        have hg51 := fun o => hb5.frozen (p := ⟨w1.heap.size + 1, o, none⟩) (by first | omega | (simp <;> omega))
        have hy52 : w2.heap.size < w5.heap.size := by omega
        have hk52 := fun o => hb5.cell (p := ⟨w2.heap.size, o, none⟩) (by first | omega | (simp <;> omega))
        have hg52 := fun o => hb5.frozen (p := ⟨w2.heap.size, o, none⟩) (by first | omega | (simp <;> omega))
        rw [HT.out.giV] at own5
        rw [HT.out.giB]
        obtain ⟨U5, cu5, rfl, ru5⟩ := own_rd own5
        have OU5 := Lib.hid own5
        clear ru5 own5
        go_wp2_with fail
        refine (sameProf_any U5 A ps.length cu5 ps.length c ps ps _ (by have := HP12.out; omega) (by have := HP12.out; omega) (own_rdd' (own_bel OU5.out (below_alloc _ _))) (own_rdd' (own_bel OA4.out (show Below w4.heap.size w4 _ from (by repeat (first | exact HBW.out | exact Below.refl _ _ | (refine bstep ?_ (below_drewN _ _)) | (refine bstep ?_ (below_alloc _ _)) | (refine bstep ?_ (by assumption)) | (refine Below.setCell ?_ (by simp <;> omega) _) | refine Below.drew ?_))))) (own_blk (own_bel OU5.out (below_alloc _ _))) (own_blk (own_bel OA4.out (show Below w4.heap.size w4 _ from (by repeat (first | exact HBW.out | exact Below.refl _ _ | (refine bstep ?_ (below_drewN _ _)) | (refine bstep ?_ (below_alloc _ _)) | (refine bstep ?_ (by assumption)) | (refine Below.setCell ?_ (by simp <;> omega) _) | refine Below.drew ?_)))))).mono ?_
        rintro e w6 ⟨rfl, hb6⟩
        have hs6 := hb6.size
        (try simp at hs6)
        have hy60 : w1.heap.size < w6.heap.size := by omega
        have hk60 := fun o => hb6.cell (p := ⟨w1.heap.size, o, none⟩) (by first | omega | (simp <;> omega))
        have hg60 := fun o => hb6.frozen (p := ⟨w1.heap.size, o, none⟩) (by first | omega | (simp <;> omega))
        have hy61 : w1.heap.size + 1 < w6.heap.size := by omega
        have hk61 := fun o => hb6.cell (p := ⟨w1.heap.size + 1, o, none⟩) (by first | omega | (simp <;> omega))
        have hg61 := fun o => hb6.frozen (p := ⟨w1.heap.size + 1, o, none⟩) (by first | omega | (simp <;> omega))
        have hy62 : w2.heap.size < w6.heap.size := by omega
        have hk62 := fun o => hb6.cell (p := ⟨w2.heap.size, o, none⟩) (by first | omega | (simp <;> omega))
        have hg62 := fun o => hb6.frozen (p := ⟨w2.heap.size, o, none⟩) (by first | omega | (simp <;> omega))
        rw [HT.out.same]
        go_wp2_with fail
        refine (profOk_any U TV.length cu TV _ (by have := HT.out.len; omega) (own_rdd' (own_bel OU4.out (show Below w4.heap.size w4 _ from (by repeat (first | exact HBW.out | exact Below.refl _ _ | (refine bstep ?_ (below_drewN _ _)) | (refine bstep ?_ (below_alloc _ _)) | (refine bstep ?_ (by assumption)) | (refine Below.setCell ?_ (by simp <;> omega) _) | refine Below.drew ?_))))) (own_blk (own_bel OU4.out (show Below w4.heap.size w4 _ from (by repeat (first | exact HBW.out | exact Below.refl _ _ | (refine bstep ?_ (below_drewN _ _)) | (refine bstep ?_ (below_alloc _ _)) | (refine bstep ?_ (by assumption)) | (refine Below.setCell ?_ (by simp <;> omega) _) | refine Below.drew ?_)))))).mono ?_
        rintro e w7 ⟨rfl, hb7⟩
        have hs7 := hb7.size
        (try simp at hs7)
        have hy70 : w1.heap.size < w7.heap.size := by omega
        have hk70 := fun o => hb7.cell (p := ⟨w1.heap.size, o, none⟩) (by first | omega | (simp <;> omega))
        have hg70 := fun o => hb7.frozen (p := ⟨w1.heap.size, o, none⟩) (by first | omega | (simp <;> omega))
        have hy71 : w1.heap.size + 1 < w7.heap.size := by omega
        have hk71 := fun o => hb7.cell (p := ⟨w1.heap.size + 1, o, none⟩) (by first | omega | (simp <;> omega))
        have hg71 := fun o => hb7.frozen (p := ⟨w1.heap.size + 1, o, none⟩) (by first | omega | (simp <;> omega))
        have hy72 : w2.heap.size < w7.heap.size := by omega
        have hk72 := fun o => hb7.cell (p := ⟨w2.heap.size, o, none⟩) (by first | omega | (simp <;> omega))
        have hg72 := fun o => hb7.frozen (p := ⟨w2.heap.size, o, none⟩) (by first | omega | (simp <;> omega))
        rw [HT.out.okT]
        go_wp2
        go_ret
        exact ⟨rfl, bstep HB4.out (by repeat (first | exact HBW.out | exact Below.refl _ _ | (refine bstep ?_ (below_drewN _ _)) | (refine bstep ?_ (below_alloc _ _)) | (refine bstep ?_ (by assumption)) | (refine Below.setCell ?_ (by simp <;> omega) _) | refine Below.drew ?_))⟩
theorem law_prof (A : Option Addr) (n c : Nat) (w : World) (hn : n ≤ maxLen) (h : ByIn w A n) :
    Calls Try.prog 8 #[.slice A n c] w fun e w' => e = .returned (.bool true) ∧ Below w.heap.size w w' := by
  by_cases hs : n ≤ 1048576
  · exact law_prof_go A n c w hs h
  · have hs' : (1048576 : Int) < n := by omega
    unfold maxLen at hn
    go_enter Try.func8, Try.ntmps8
    go_wp2
    go_ret
    exact ⟨rfl, Below.refl _ _⟩
end Go.Proofs.Ytpfcegjomdppmaa
