/-
  Sorting a queue (reference).
-/
import Derived.Test.YtpfcegjomdppmaaA11
import Derived.Test.YtpfcegjomdppmaaA7
import Derived.Test.YtpfcegjomdppmaaA8
import Derived.Deep.QuietTactic
import Derived.BigQuiet
import Derived.Deep.AppendLies
namespace Go.Proofs.Ytpfcegjomdppmaa
set_option linter.unusedSimpArgs false
set_option linter.unusedVariables false
set_option linter.unnecessarySimpa false
open Go.RowKit

set_option maxHeartbeats 1000000 in
theorem sbef_any (a b : J) (w : World) :
    Calls Try.prog 87 #[.agg #[.int .i64 a.id, .int .i64 a.pr, .int .i64 a.nn, .int .i64 a.na, .int .i64 a.nb, .int .i64 a.nc, .int .i64 a.la, .int .i64 a.lb, .int .i64 a.lc, .int .i64 a.wl, .int .i64 a.lv], .agg #[.int .i64 b.id, .int .i64 b.pr, .int .i64 b.nn, .int .i64 b.na, .int .i64 b.nb, .int .i64 b.nc, .int .i64 b.la, .int .i64 b.lb, .int .i64 b.lc, .int .i64 b.wl, .int .i64 b.lv]] w fun e w' => e = .returned (.bool (decide (befJ a b))) ∧ Below w.heap.size w w' := by
  by_cases h1 : b.pr < a.pr
  · have hb : befJ a b := Or.inl h1
    rw [decide_eq_true hb]
    clear hb
    go_enter Try.func87, Try.ntmps87
    go_wp2
    go_ret
    exact ⟨rfl, (by repeat (first | exact Below.refl _ _ | assumption | (refine bstep ?_ (below_drewN _ _)) | exact bstep (by assumption) (by assumption) | (refine bstep ?_ (below_alloc _ _)) | (refine bstep ?_ (by assumption)) | (refine Below.setCell ?_ (by simp <;> omega) _) | refine Below.drew ?_))⟩
  · by_cases h2 : a.pr = b.pr
    · by_cases h3 : a.id < b.id
      · have hb : befJ a b := Or.inr ⟨h2, h3⟩
        rw [decide_eq_true hb]
        clear hb
        go_enter Try.func87, Try.ntmps87
        go_wp2
        go_ret
        exact ⟨rfl, (by repeat (first | exact Below.refl _ _ | assumption | (refine bstep ?_ (below_drewN _ _)) | exact bstep (by assumption) (by assumption) | (refine bstep ?_ (below_alloc _ _)) | (refine bstep ?_ (by assumption)) | (refine Below.setCell ?_ (by simp <;> omega) _) | refine Below.drew ?_))⟩
      · have hb : ¬ befJ a b := by rintro (h | h) <;> omega
        rw [decide_eq_false hb]
        clear hb
        go_enter Try.func87, Try.ntmps87
        go_wp2
        go_ret
        exact ⟨rfl, (by repeat (first | exact Below.refl _ _ | assumption | (refine bstep ?_ (below_drewN _ _)) | exact bstep (by assumption) (by assumption) | (refine bstep ?_ (below_alloc _ _)) | (refine bstep ?_ (by assumption)) | (refine Below.setCell ?_ (by simp <;> omega) _) | refine Below.drew ?_))⟩
    · have hb : ¬ befJ a b := by rintro (h | h) <;> omega
      rw [decide_eq_false hb]
      clear hb
      go_enter Try.func87, Try.ntmps87
      go_wp2
      go_ret
      exact ⟨rfl, (by repeat (first | exact Below.refl _ _ | assumption | (refine bstep ?_ (below_drewN _ _)) | exact bstep (by assumption) (by assumption) | (refine bstep ?_ (below_alloc _ _)) | (refine bstep ?_ (by assumption)) | (refine Below.setCell ?_ (by simp <;> omega) _) | refine Below.drew ?_))⟩
theorem insJF_t {j x : J} {s : List J × Bool} (h : s.2 = true) : insJF j s x = (s.1 ++ [x], true) := by unfold insJF; rw [if_neg (by rw [h]; simp)]; simp [h]
theorem insJF_y {j x : J} {s : List J × Bool} (h : s.2 = false) (hb : befJ j x) : insJF j s x = (s.1 ++ [j] ++ [x], true) := by unfold insJF; rw [if_pos ⟨h, hb⟩]
theorem insJF_n {j x : J} {s : List J × Bool} (h : s.2 = false) (hb : ¬ befJ j x) : insJF j s x = (s.1 ++ [x], false) := by unfold insJF; rw [if_neg (fun e => hb e.2)]; simp [h]
theorem insJF_len (j : J) : ∀ (xs : List J) (s : List J × Bool), (xs.foldl (insJF j) s).1.length ≤ s.1.length + 2 * xs.length
  | [], s => by simp
  | x :: r, s => by
    rw [List.foldl_cons]
    have h1 := insJF_len j r (insJF j s x)
    have h2 : (insJF j s x).1.length ≤ s.1.length + 2 := by unfold insJF; split <;> simp <;> omega
    simp only [List.length_cons]; omega
theorem jflat_snoc (js : List J) (j : J) : jflat (js ++ [j]) = jflat js ++ [.int .i64 j.id, .int .i64 j.pr, .int .i64 j.nn, .int .i64 j.na, .int .i64 j.nb, .int .i64 j.nc, .int .i64 j.la, .int .i64 j.lb, .int .i64 j.lc, .int .i64 j.wl, .int .i64 j.lv] := by simp [jflat, J.cells]
theorem orderV_full {js T : List J} {k : Nat} (h : T = orderV (js.take k)) (hl : js.length = k) : T = orderV js := by rw [h, List.take_of_length_le (by omega)]
/-- What the rounds of an insertion keep. -/
structure OB (w0 wi : World) (lo2 : Nat) (Y : Value) (l : Nat) (L : List J) : Prop where
  own : wi.ownsRow lo2 118 11 Y l (jflat L)
  bel : Below lo2 w0 wi
  sz : lo2 ≤ wi.heap.size
  len : L.length = l
theorem OB.step {w0 wi w' : World} {lo2 : Nat} {Y : Value} {l : Nat} {L : List J} (h : OB w0 wi lo2 Y l L) (hb : Below wi.heap.size wi w') : OB w0 w' lo2 Y l L :=
  ⟨own_bel h.own hb, h.bel.trans (hb.mono h.sz), Nat.le_trans h.sz hb.size, h.len⟩
theorem OB.put {w0 wi w' : World} {lo2 : Nat} {Y Y' : Value} {l : Nat} {L : List J} {j : J} (h : OB w0 wi lo2 Y l L) (ho : w'.ownsRow lo2 118 11 Y' (l + 1) (jflat L ++ [.int .i64 j.id, .int .i64 j.pr, .int .i64 j.nn, .int .i64 j.na, .int .i64 j.nb, .int .i64 j.nc, .int .i64 j.la, .int .i64 j.lb, .int .i64 j.lc, .int .i64 j.wl, .int .i64 j.lv])) (hg : wi.grownBy w' Y.ownBlock) : OB w0 w' lo2 Y' (l + 1) (L ++ [j]) := by
  refine ⟨?_, Below.grown h.bel hg h.sz (fun k hk => own_ge h.own k hk), Nat.le_trans h.sz hg.size, by rw [List.length_append, h.len]; rfl⟩
  rw [jflat_snoc]; exact ho
def OrderV (js : List J) : List J := if queueB js then orderV js else []
theorem own_blkn {w : World} {lo : Nat} {e : TypeId} {size : Nat} {v : Value} {n : Nat} {xs : List Value} (h : w.ownsRow lo e size v n xs) : ∀ k, v.ownBlock = some k → k < w.heap.size := by
  intro k hk
  rcases h.2 with ⟨h0, _⟩ | ⟨g, cap, cur, hv, hg, hh, _⟩
  · subst h0; cases hk
  · subst hv; cases hk; exact heap_lt hh

set_option maxHeartbeats 8000000 in
set_option maxRecDepth 20000 in
theorem sorder_any (A : Option Addr) (n c : Nat) (js : List J) (w : World) (hn : n ≤ 1048576) (hr : Rd w A n 11 (jflat js)) (hl : ∀ g, A = some ⟨g, 0, none⟩ → g < w.heap.size) :
    Calls Try.prog 29 #[.slice A n c] w fun e w' => ∃ v, e = .returned v ∧ w'.ownsRow w.heap.size 118 11 v (OrderV js).length (jflat (OrderV js)) ∧ Below w.heap.size w w' := by
  have hjl := hr.jlen
  have HN := Lib.hid hn
  have HR := Lib.hid hr
  have HL := Lib.hid hl
  have HJ := Lib.hid hjl
  clear hn hr hl hjl
  cases hq : queueB js
  · have HO : Hid (OrderV js = []) := Lib.hid (by unfold OrderV; rw [hq]; rfl)
    have HQ := Lib.hid hq
    clear hq
    go_enter Try.func29, Try.ntmps29
    go_wp2_with fail
    refine (squeueOk_any A n c js _ HN.out (HR.out.below HL.out (by repeat (first | exact Below.refl _ _ | assumption | (refine bstep ?_ (below_drewN _ _)) | exact bstep (by assumption) (by assumption) | (refine bstep ?_ (below_alloc _ _)) | (refine bstep ?_ (by assumption)) | (refine Below.setCell ?_ (by simp <;> omega) _) | refine Below.drew ?_))) (lt_below HL.out (by repeat (first | exact Below.refl _ _ | assumption | (refine bstep ?_ (below_drewN _ _)) | exact bstep (by assumption) (by assumption) | (refine bstep ?_ (below_alloc _ _)) | (refine bstep ?_ (by assumption)) | (refine Below.setCell ?_ (by simp <;> omega) _) | refine Below.drew ?_)))).mono ?_
    rintro e w1 ⟨rfl, hb1⟩
    have hs1 := hb1.size
    (try simp at hs1)
    rw [HQ.out]
    go_wp2
    go_ret
    exact ⟨_, rfl, by rw [HO.out]; exact own_lit (cs := []) (bx_below (heap_at _ (by simp)) hb1) rfl (by decide) (by omega), (by repeat (first | exact Below.refl _ _ | assumption | (refine bstep ?_ (below_drewN _ _)) | exact bstep (by assumption) (by assumption) | (refine bstep ?_ (below_alloc _ _)) | (refine bstep ?_ (by assumption)) | (refine Below.setCell ?_ (by simp <;> omega) _) | refine Below.drew ?_))⟩
  · have HO : Hid (OrderV js = orderV js) := Lib.hid (by unfold OrderV; rw [hq]; rfl)
    have hn60 : n ≤ 60 := by have := (queue_parts hq).1; have := HJ.out; omega
    have HN60 := Lib.hid hn60
    have HQ := Lib.hid hq
    clear hq
    go_enter Try.func29, Try.ntmps29
    go_wp2_with fail
    refine (squeueOk_any A n c js _ HN.out (HR.out.below HL.out (by repeat (first | exact Below.refl _ _ | assumption | (refine bstep ?_ (below_drewN _ _)) | exact bstep (by assumption) (by assumption) | (refine bstep ?_ (below_alloc _ _)) | (refine bstep ?_ (by assumption)) | (refine Below.setCell ?_ (by simp <;> omega) _) | refine Below.drew ?_))) (lt_below HL.out (by repeat (first | exact Below.refl _ _ | assumption | (refine bstep ?_ (below_drewN _ _)) | exact bstep (by assumption) (by assumption) | (refine bstep ?_ (below_alloc _ _)) | (refine bstep ?_ (by assumption)) | (refine Below.setCell ?_ (by simp <;> omega) _) | refine Below.drew ?_)))).mono ?_
    rintro e w1 ⟨rfl, hb1⟩
    have hs1 := hb1.size
    (try simp at hs1)
    rw [HQ.out]
    go_wp2
    go_loopw [3, 17] (fun v i wr => ∃ (k : Nat) (X : Option Addr) (cx : Nat) (T : List J), k ≤ n ∧ i = .int .i64 k ∧ v = .slice X k cx ∧ T.length = k ∧ Hid (T = orderV (js.take k)) ∧ wr.ownsRow w.heap.size 118 11 (.slice X k cx) k (jflat T) ∧ Below w.heap.size w wr) (fun _ i _ => n - (intOf i).toNat)
    case atStart =>
      exact ⟨0, _, 0, [], Nat.zero_le _, rfl, rfl, rfl, Lib.hid rfl, own_lit (cs := []) (bx_below (heap_at _ (by simp)) hb1) rfl (by show 0 ≤ maxLen; decide) (by omega), (by repeat (first | exact Below.refl _ _ | assumption | (refine bstep ?_ (below_drewN _ _)) | exact bstep (by assumption) (by assumption) | (refine bstep ?_ (below_alloc _ _)) | (refine bstep ?_ (by assumption)) | (refine Below.setCell ?_ (by simp <;> omega) _) | refine Below.drew ?_))⟩
    case round =>
      obtain ⟨k, X, cx, T, hk, rfl, rfl, hTl, HT, hown, hbw⟩ := hrel
      obtain ⟨wo, rfl⟩ : ∃ x, x = wr := ⟨wr, rfl⟩
      by_cases hlt : k < n
      · have hlt' : (k : Int) < n := by omega
        have HBW := Lib.hid hbw
        obtain ⟨g, j, rfl, hj, d0, d1, d2, d3, d4, d5, d6, d7, d8, d9, d10⟩ := (HR.out.below HL.out HBW.out).j hlt
        have HJK := Lib.hid hj
        have S0 := Lib.hid hown
        have hsw := hbw.size
        clear hj hown hbw
        go_upto_region 10 with fail
        obtain ⟨LO, hLO⟩ : ∃ b, b = wo.heap.size + 1 := ⟨_, rfl⟩
        have own0 : ((wo.alloc (.cells #[.int .i64 j.id, .int .i64 j.pr, .int .i64 j.nn, .int .i64 j.na, .int .i64 j.nb, .int .i64 j.nc, .int .i64 j.la, .int .i64 j.lb, .int .i64 j.lc, .int .i64 j.wl, .int .i64 j.lv] 118)).alloc (.cells #[] 118)).ownsRow (wo.heap.size + 1) 118 11 (.slice (some ⟨wo.heap.size + 1, 0, none⟩) 0 0) 0 (jflat []) := own_lit (cs := []) (heap_at _ (by simp)) rfl (by decide) (by omega)
        have H00 : OB ((wo.alloc (.cells #[.int .i64 j.id, .int .i64 j.pr, .int .i64 j.nn, .int .i64 j.na, .int .i64 j.nb, .int .i64 j.nc, .int .i64 j.la, .int .i64 j.lb, .int .i64 j.lc, .int .i64 j.wl, .int .i64 j.lv] 118)).alloc (.cells #[] 118)) ((wo.alloc (.cells #[.int .i64 j.id, .int .i64 j.pr, .int .i64 j.nn, .int .i64 j.na, .int .i64 j.nb, .int .i64 j.nc, .int .i64 j.la, .int .i64 j.lb, .int .i64 j.lc, .int .i64 j.wl, .int .i64 j.lv] 118)).alloc (.cells #[] 118)) (wo.heap.size + 1) (.slice (some ⟨wo.heap.size + 1, 0, none⟩) 0 0) 0 [] := ⟨own0, Below.refl _ _, by simp, rfl⟩
        have hcell : ∀ g o, g < wo.heap.size → ((wo.alloc (.cells #[.int .i64 j.id, .int .i64 j.pr, .int .i64 j.nn, .int .i64 j.na, .int .i64 j.nb, .int .i64 j.nc, .int .i64 j.la, .int .i64 j.lb, .int .i64 j.lc, .int .i64 j.wl, .int .i64 j.lv] 118)).alloc (.cells #[] 118)).cell? ⟨g, o, none⟩ = wo.cell? ⟨g, o, none⟩ := fun g o hg => (bstep (below_alloc _ _) (below_alloc _ _) : Below wo.heap.size wo ((wo.alloc (.cells #[.int .i64 j.id, .int .i64 j.pr, .int .i64 j.nn, .int .i64 j.na, .int .i64 j.nb, .int .i64 j.nc, .int .i64 j.la, .int .i64 j.lb, .int .i64 j.lc, .int .i64 j.wl, .int .i64 j.lv] 118)).alloc (.cells #[] 118))).cell (p := ⟨g, o, none⟩) hg
        have hbj : ((wo.alloc (.cells #[.int .i64 j.id, .int .i64 j.pr, .int .i64 j.nn, .int .i64 j.na, .int .i64 j.nb, .int .i64 j.nc, .int .i64 j.la, .int .i64 j.lb, .int .i64 j.lc, .int .i64 j.wl, .int .i64 j.lv] 118)).alloc (.cells #[] 118)).heap[wo.heap.size]? = some (.cells #[.int .i64 j.id, .int .i64 j.pr, .int .i64 j.nn, .int .i64 j.na, .int .i64 j.nb, .int .i64 j.nc, .int .i64 j.la, .int .i64 j.lb, .int .i64 j.lc, .int .i64 j.wl, .int .i64 j.lv] 118 (0, 0)) := bx_alloc (heap_at _ rfl) _
        have hB0 : Below w.heap.size w ((wo.alloc (.cells #[.int .i64 j.id, .int .i64 j.pr, .int .i64 j.nn, .int .i64 j.na, .int .i64 j.nb, .int .i64 j.nc, .int .i64 j.la, .int .i64 j.lb, .int .i64 j.lc, .int .i64 j.wl, .int .i64 j.lv] 118)).alloc (.cells #[] 118)) := bstep (bstep HBW.out (below_alloc _ _)) (below_alloc _ _)
        have T0 := Lib.hid H00
        have HC := Lib.hid hcell
        have HB0 := Lib.hid hB0
        have HBJ := Lib.hid hbj
        clear H00 own0 hcell hbj hB0 d0 d1 d2 d3 d4 d5 d6 d7 d8 d9 d10
        generalize ((wo.alloc (.cells #[.int .i64 j.id, .int .i64 j.pr, .int .i64 j.nn, .int .i64 j.na, .int .i64 j.nb, .int .i64 j.nc, .int .i64 j.la, .int .i64 j.lb, .int .i64 j.lc, .int .i64 j.wl, .int .i64 j.lv] 118)).alloc (.cells #[] 118)) = w0 at *
        rw [← hLO] at T0 ⊢
        have hlo1 : wo.heap.size < LO := by omega
        have hlo2 : w.heap.size ≤ LO := by omega
        clear hLO
        go_wp2
        go_loopw [6, 7, 24] (fun v6 v7 i wi => ∃ (m : Nat) (Y : Option Addr) (cy l : Nat) (L : List J) (dn : Bool), m ≤ k ∧ i = .int .i64 m ∧ v6 = .slice Y l cy ∧ v7 = .bool dn ∧ Hid ((T.take m).foldl (insJF j) ([], false) = (L, dn)) ∧ OB w0 wi LO (.slice Y l cy) l L) (fun _ _ i _ => k - (intOf i).toNat)
        case atStart => exact ⟨0, _, 0, 0, [], false, Nat.zero_le _, rfl, rfl, rfl, Lib.hid rfl, T0.out⟩
        case round =>
          clear T0
          obtain ⟨m, Y, cy, l, L, dn, hm, rfl, rfl, rfl, HM, T'⟩ := hrel
          obtain ⟨wi, rfl⟩ : ∃ x, x = wr := ⟨wr, rfl⟩
          have T1 := Lib.hid T'
          clear T'
          have hLL : l ≤ 2 * m := by
            have h3 := T1.out.len
            have h1 := insJF_len j (T.take m) ([], false)
            rw [HM.out] at h1
            have h2 : (T.take m).length ≤ m := by rw [List.length_take]; omega
            simp only [List.length_nil] at h1
            omega
          have HLL := Lib.hid hLL
          clear hLL
          have hbj := ((T1.out.bel).block wo.heap.size hlo1).trans HBJ.out
          by_cases hlt2 : m < k
          · have hlt2' : (m : Int) < k := by omega
            obtain ⟨g', x, rfl, hx, d0, d1, d2, d3, d4, d5, d6, d7, d8, d9, d10⟩ := (own_rdd' S0.out).j hlt2
            have hg' := own_blk S0.out g' rfl
            have HX := Lib.hid hx
            clear hx
            have D0 := (((T1.out.bel).cell (p := ⟨g', m * 11, none⟩) (show g' < LO by omega)).trans (HC.out g' (m * 11) hg')).trans d0
            have D1 := (((T1.out.bel).cell (p := ⟨g', m * 11 + 1, none⟩) (show g' < LO by omega)).trans (HC.out g' (m * 11 + 1) hg')).trans d1
            have D2 := (((T1.out.bel).cell (p := ⟨g', m * 11 + 2, none⟩) (show g' < LO by omega)).trans (HC.out g' (m * 11 + 2) hg')).trans d2
            have D3 := (((T1.out.bel).cell (p := ⟨g', m * 11 + 3, none⟩) (show g' < LO by omega)).trans (HC.out g' (m * 11 + 3) hg')).trans d3
            have D4 := (((T1.out.bel).cell (p := ⟨g', m * 11 + 4, none⟩) (show g' < LO by omega)).trans (HC.out g' (m * 11 + 4) hg')).trans d4
            have D5 := (((T1.out.bel).cell (p := ⟨g', m * 11 + 5, none⟩) (show g' < LO by omega)).trans (HC.out g' (m * 11 + 5) hg')).trans d5
            have D6 := (((T1.out.bel).cell (p := ⟨g', m * 11 + 6, none⟩) (show g' < LO by omega)).trans (HC.out g' (m * 11 + 6) hg')).trans d6
            have D7 := (((T1.out.bel).cell (p := ⟨g', m * 11 + 7, none⟩) (show g' < LO by omega)).trans (HC.out g' (m * 11 + 7) hg')).trans d7
            have D8 := (((T1.out.bel).cell (p := ⟨g', m * 11 + 8, none⟩) (show g' < LO by omega)).trans (HC.out g' (m * 11 + 8) hg')).trans d8
            have D9 := (((T1.out.bel).cell (p := ⟨g', m * 11 + 9, none⟩) (show g' < LO by omega)).trans (HC.out g' (m * 11 + 9) hg')).trans d9
            have D10 := (((T1.out.bel).cell (p := ⟨g', m * 11 + 10, none⟩) (show g' < LO by omega)).trans (HC.out g' (m * 11 + 10) hg')).trans d10
            clear d0 d1 d2 d3 d4 d5 d6 d7 d8 d9 d10
            have hxb := heap_at (w := wi) (.cells #[.int .i64 x.id, .int .i64 x.pr, .int .i64 x.nn, .int .i64 x.na, .int .i64 x.nb, .int .i64 x.nc, .int .i64 x.la, .int .i64 x.lb, .int .i64 x.lc, .int .i64 x.wl, .int .i64 x.lv] 118) rfl
            have T2 := Lib.hid (T1.out.step (below_alloc wi (.cells #[.int .i64 x.id, .int .i64 x.pr, .int .i64 x.nn, .int .i64 x.na, .int .i64 x.nb, .int .i64 x.nc, .int .i64 x.la, .int .i64 x.lb, .int .i64 x.lc, .int .i64 x.wl, .int .i64 x.lv] 118)))
            have HTK := Lib.hid (take_snoc' HX.out)
            have HYB := Lib.hid (own_blkn T1.out.own)
            cases dn
            · have hbj2 := bx_alloc hbj (.cells #[.int .i64 x.id, .int .i64 x.pr, .int .i64 x.nn, .int .i64 x.na, .int .i64 x.nb, .int .i64 x.nc, .int .i64 x.la, .int .i64 x.lb, .int .i64 x.lc, .int .i64 x.wl, .int .i64 x.lv] 118)
              have p0 := bx_cell hbj2 0 rfl
              have p1 := bx_cell hbj2 1 rfl
              have p2 := bx_cell hbj2 2 rfl
              have p3 := bx_cell hbj2 3 rfl
              have p4 := bx_cell hbj2 4 rfl
              have p5 := bx_cell hbj2 5 rfl
              have p6 := bx_cell hbj2 6 rfl
              have p7 := bx_cell hbj2 7 rfl
              have p8 := bx_cell hbj2 8 rfl
              have p9 := bx_cell hbj2 9 rfl
              have p10 := bx_cell hbj2 10 rfl
              simp only [List.getElem_toArray, List.getElem_cons_zero, List.getElem_cons_succ] at p0 p1 p2 p3 p4 p5 p6 p7 p8 p9 p10
              go_wp2_with fail
              refine (sbef_any j x _).mono ?_
              rintro e w5 ⟨rfl, hb5⟩
              have hs5 := hb5.size
              (try simp at hs5)
              have T5 := Lib.hid (T2.out.step hb5)
              have hx5 := bx_below hxb hb5
              have hj5 := bx_below hbj2 hb5
              clear hb5 hbj2 T1 T2 hbj hxb p0 p1 p2 p3 p4 p5 p6 p7 p8 p9 p10
              by_cases hbf : befJ j x
              · rw [decide_eq_true hbf]
                have HE := Lib.hid (insJF_y (s := (L, false)) rfl hbf)
                clear hbf
                have p0 := bx_cell hj5 0 rfl
                have p1 := bx_cell hj5 1 rfl
                have p2 := bx_cell hj5 2 rfl
                have p3 := bx_cell hj5 3 rfl
                have p4 := bx_cell hj5 4 rfl
                have p5 := bx_cell hj5 5 rfl
                have p6 := bx_cell hj5 6 rfl
                have p7 := bx_cell hj5 7 rfl
                have p8 := bx_cell hj5 8 rfl
                have p9 := bx_cell hj5 9 rfl
                have p10 := bx_cell hj5 10 rfl
                simp only [List.getElem_toArray, List.getElem_cons_zero, List.getElem_cons_succ] at p0 p1 p2 p3 p4 p5 p6 p7 p8 p9 p10
                have q0 := bx_cell hx5 0 rfl
                have q1 := bx_cell hx5 1 rfl
                have q2 := bx_cell hx5 2 rfl
                have q3 := bx_cell hx5 3 rfl
                have q4 := bx_cell hx5 4 rfl
                have q5 := bx_cell hx5 5 rfl
                have q6 := bx_cell hx5 6 rfl
                have q7 := bx_cell hx5 7 rfl
                have q8 := bx_cell hx5 8 rfl
                have q9 := bx_cell hx5 9 rfl
                have q10 := bx_cell hx5 10 rfl
                simp only [List.getElem_toArray, List.getElem_cons_zero, List.getElem_cons_succ] at q0 q1 q2 q3 q4 q5 q6 q7 q8 q9 q10
                have hszT6 := T5.out.sz
                (try simp at hszT6)
                obtain ⟨i6, hi9, hz0, hz1, hz2⟩ := info_parts infoJ
                go_wp2_with (at_builtin; refine wpList_append_own _ rfl _ _ 66 rfl (LO) 118 i6 (.agg #[.int .i64 0, .int .i64 0, .int .i64 0, .int .i64 0, .int .i64 0, .int .i64 0, .int .i64 0, .int .i64 0, .int .i64 0, .int .i64 0, .int .i64 0]) 11 88 Try.underlying66 hi9 hz0 hz1 hz2 rfl (by decide) _ _ _ rfl (own_bel T5.out.own (below_alloc w5 (.cells #[.int .i64 j.id, .int .i64 j.pr, .int .i64 j.nn, .int .i64 j.na, .int .i64 j.nb, .int .i64 j.nc, .int .i64 j.la, .int .i64 j.lb, .int .i64 j.lc, .int .i64 j.wl, .int .i64 j.lv] 118))) ⟨w5.heap.size, 0, none⟩ 1 1 [.int .i64 j.id, .int .i64 j.pr, .int .i64 j.nn, .int .i64 j.na, .int .i64 j.nb, .int .i64 j.nc, .int .i64 j.la, .int .i64 j.lb, .int .i64 j.lc, .int .i64 j.wl, .int .i64 j.lv] rfl rfl ?ca1 ?ca2 ?ca3 ?ca4 ?ca5 ?_)
                try case ca1 =>
                  intro j y hy
                  match j, hy with
                  | 0, hy => (simp at hy; subst hy; simp [Addr.add])
                  | 1, hy => (simp at hy; subst hy; simp [Addr.add])
                  | 2, hy => (simp at hy; subst hy; simp [Addr.add])
                  | 3, hy => (simp at hy; subst hy; simp [Addr.add])
                  | 4, hy => (simp at hy; subst hy; simp [Addr.add])
                  | 5, hy => (simp at hy; subst hy; simp [Addr.add])
                  | 6, hy => (simp at hy; subst hy; simp [Addr.add])
                  | 7, hy => (simp at hy; subst hy; simp [Addr.add])
                  | 8, hy => (simp at hy; subst hy; simp [Addr.add])
                  | 9, hy => (simp at hy; subst hy; simp [Addr.add])
                  | 10, hy => (simp at hy; subst hy; simp [Addr.add])
                try case ca2 => simp [Value.oneCell']
                case ca3 => unfold maxLen; have := HLL.out; have := HN60.out; omega
                case ca4 => have := HLL.out; have := HN60.out; omega
                try case ca5 => first | omega | (simp <;> omega)
                intro v6 w6 own6 hg6 _
                obtain ⟨Y6, cy6, rfl, _⟩ := own_rd own6
                have T6 := Lib.hid ((T5.out.step (below_alloc w5 (.cells #[.int .i64 j.id, .int .i64 j.pr, .int .i64 j.nn, .int .i64 j.na, .int .i64 j.nb, .int .i64 j.nc, .int .i64 j.la, .int .i64 j.lb, .int .i64 j.lc, .int .i64 j.wl, .int .i64 j.lv] 118))).put (j := j) own6 hg6)
                have hgs6 := hg6.size
                (try simp at hgs6)
                have hx6 := bx_grown (bx_alloc hx5 (.cells #[.int .i64 j.id, .int .i64 j.pr, .int .i64 j.nn, .int .i64 j.na, .int .i64 j.nb, .int .i64 j.nc, .int .i64 j.la, .int .i64 j.lb, .int .i64 j.lc, .int .i64 j.wl, .int .i64 j.lv] 118)) hg6 (fun b hb => by have := HYB.out b hb; omega)
                clear p0 q0 p1 q1 p2 q2 p3 q3 p4 q4 p5 q5 p6 q6 p7 q7 p8 q8 p9 q9 p10 q10 hi9 hz0 hz1 hz2 own6 hg6 hj5 hx5 T5
                have q0 := bx_cell hx6 0 rfl
                have q1 := bx_cell hx6 1 rfl
                have q2 := bx_cell hx6 2 rfl
                have q3 := bx_cell hx6 3 rfl
                have q4 := bx_cell hx6 4 rfl
                have q5 := bx_cell hx6 5 rfl
                have q6 := bx_cell hx6 6 rfl
                have q7 := bx_cell hx6 7 rfl
                have q8 := bx_cell hx6 8 rfl
                have q9 := bx_cell hx6 9 rfl
                have q10 := bx_cell hx6 10 rfl
                simp only [List.getElem_toArray, List.getElem_cons_zero, List.getElem_cons_succ] at q0 q1 q2 q3 q4 q5 q6 q7 q8 q9 q10
                have hszT7 := T6.out.sz
                (try simp at hszT7)
                obtain ⟨i7, hi9, hz0, hz1, hz2⟩ := info_parts infoJ
                go_wp2_with (at_builtin; refine wpList_append_own _ rfl _ _ 66 rfl (LO) 118 i7 (.agg #[.int .i64 0, .int .i64 0, .int .i64 0, .int .i64 0, .int .i64 0, .int .i64 0, .int .i64 0, .int .i64 0, .int .i64 0, .int .i64 0, .int .i64 0]) 11 88 Try.underlying66 hi9 hz0 hz1 hz2 rfl (by decide) _ _ _ rfl (own_bel T6.out.own (below_alloc w6 (.cells #[.int .i64 x.id, .int .i64 x.pr, .int .i64 x.nn, .int .i64 x.na, .int .i64 x.nb, .int .i64 x.nc, .int .i64 x.la, .int .i64 x.lb, .int .i64 x.lc, .int .i64 x.wl, .int .i64 x.lv] 118))) ⟨w6.heap.size, 0, none⟩ 1 1 [.int .i64 x.id, .int .i64 x.pr, .int .i64 x.nn, .int .i64 x.na, .int .i64 x.nb, .int .i64 x.nc, .int .i64 x.la, .int .i64 x.lb, .int .i64 x.lc, .int .i64 x.wl, .int .i64 x.lv] rfl rfl ?cb1 ?cb2 ?cb3 ?cb4 ?cb5 ?_)
                try case cb1 =>
                  intro j y hy
                  match j, hy with
                  | 0, hy => (simp at hy; subst hy; simp [Addr.add])
                  | 1, hy => (simp at hy; subst hy; simp [Addr.add])
                  | 2, hy => (simp at hy; subst hy; simp [Addr.add])
                  | 3, hy => (simp at hy; subst hy; simp [Addr.add])
                  | 4, hy => (simp at hy; subst hy; simp [Addr.add])
                  | 5, hy => (simp at hy; subst hy; simp [Addr.add])
                  | 6, hy => (simp at hy; subst hy; simp [Addr.add])
                  | 7, hy => (simp at hy; subst hy; simp [Addr.add])
                  | 8, hy => (simp at hy; subst hy; simp [Addr.add])
                  | 9, hy => (simp at hy; subst hy; simp [Addr.add])
                  | 10, hy => (simp at hy; subst hy; simp [Addr.add])
                try case cb2 => simp [Value.oneCell']
                case cb3 => unfold maxLen; have := HLL.out; have := HN60.out; omega
                case cb4 => have := HLL.out; have := HN60.out; omega
                try case cb5 => first | omega | (simp <;> omega)
                intro v7 w7 own7 hg7 _
                obtain ⟨Y7, cy7, rfl, _⟩ := own_rd own7
                have T7 := Lib.hid ((T6.out.step (below_alloc w6 (.cells #[.int .i64 x.id, .int .i64 x.pr, .int .i64 x.nn, .int .i64 x.na, .int .i64 x.nb, .int .i64 x.nc, .int .i64 x.la, .int .i64 x.lb, .int .i64 x.lc, .int .i64 x.wl, .int .i64 x.lv] 118))).put (j := x) own7 hg7)
                have hgs7 := hg7.size
                (try simp at hgs7)
                clear own7 hg7 hx6 hi9 hz0 hz1 hz2 T6
                go_wp2
                go_roundw
                case rel => exact ⟨m + 1, Y7, cy7, l + 1 + 1, L ++ [j] ++ [x], true, by omega, by go_num, by first | rfl | simp, rfl, Lib.hid (by rw [HTK.out, List.foldl_append, HM.out]; exact HE.out), T7.out⟩
                case measure => simp [intOf]; omega
              · rw [decide_eq_false hbf]
                have HE := Lib.hid (insJF_n (s := (L, false)) rfl hbf)
                clear hbf
                have q0 := bx_cell hx5 0 rfl
                have q1 := bx_cell hx5 1 rfl
                have q2 := bx_cell hx5 2 rfl
                have q3 := bx_cell hx5 3 rfl
                have q4 := bx_cell hx5 4 rfl
                have q5 := bx_cell hx5 5 rfl
                have q6 := bx_cell hx5 6 rfl
                have q7 := bx_cell hx5 7 rfl
                have q8 := bx_cell hx5 8 rfl
                have q9 := bx_cell hx5 9 rfl
                have q10 := bx_cell hx5 10 rfl
                simp only [List.getElem_toArray, List.getElem_cons_zero, List.getElem_cons_succ] at q0 q1 q2 q3 q4 q5 q6 q7 q8 q9 q10
                have hszT6 := T5.out.sz
                (try simp at hszT6)
                obtain ⟨i6, hi9, hz0, hz1, hz2⟩ := info_parts infoJ
                go_wp2_with (at_builtin; refine wpList_append_own _ rfl _ _ 66 rfl (LO) 118 i6 (.agg #[.int .i64 0, .int .i64 0, .int .i64 0, .int .i64 0, .int .i64 0, .int .i64 0, .int .i64 0, .int .i64 0, .int .i64 0, .int .i64 0, .int .i64 0]) 11 88 Try.underlying66 hi9 hz0 hz1 hz2 rfl (by decide) _ _ _ rfl (own_bel T5.out.own (below_alloc w5 (.cells #[.int .i64 x.id, .int .i64 x.pr, .int .i64 x.nn, .int .i64 x.na, .int .i64 x.nb, .int .i64 x.nc, .int .i64 x.la, .int .i64 x.lb, .int .i64 x.lc, .int .i64 x.wl, .int .i64 x.lv] 118))) ⟨w5.heap.size, 0, none⟩ 1 1 [.int .i64 x.id, .int .i64 x.pr, .int .i64 x.nn, .int .i64 x.na, .int .i64 x.nb, .int .i64 x.nc, .int .i64 x.la, .int .i64 x.lb, .int .i64 x.lc, .int .i64 x.wl, .int .i64 x.lv] rfl rfl ?cc1 ?cc2 ?cc3 ?cc4 ?cc5 ?_)
                try case cc1 =>
                  intro j y hy
                  match j, hy with
                  | 0, hy => (simp at hy; subst hy; simp [Addr.add])
                  | 1, hy => (simp at hy; subst hy; simp [Addr.add])
                  | 2, hy => (simp at hy; subst hy; simp [Addr.add])
                  | 3, hy => (simp at hy; subst hy; simp [Addr.add])
                  | 4, hy => (simp at hy; subst hy; simp [Addr.add])
                  | 5, hy => (simp at hy; subst hy; simp [Addr.add])
                  | 6, hy => (simp at hy; subst hy; simp [Addr.add])
                  | 7, hy => (simp at hy; subst hy; simp [Addr.add])
                  | 8, hy => (simp at hy; subst hy; simp [Addr.add])
                  | 9, hy => (simp at hy; subst hy; simp [Addr.add])
                  | 10, hy => (simp at hy; subst hy; simp [Addr.add])
                try case cc2 => simp [Value.oneCell']
                case cc3 => unfold maxLen; have := HLL.out; have := HN60.out; omega
                case cc4 => have := HLL.out; have := HN60.out; omega
                try case cc5 => first | omega | (simp <;> omega)
                intro v6 w6 own6 hg6 _
                obtain ⟨Y6, cy6, rfl, _⟩ := own_rd own6
                have T6 := Lib.hid ((T5.out.step (below_alloc w5 (.cells #[.int .i64 x.id, .int .i64 x.pr, .int .i64 x.nn, .int .i64 x.na, .int .i64 x.nb, .int .i64 x.nc, .int .i64 x.la, .int .i64 x.lb, .int .i64 x.lc, .int .i64 x.wl, .int .i64 x.lv] 118))).put (j := x) own6 hg6)
                have hgs6 := hg6.size
                (try simp at hgs6)
                clear q0 q1 q2 q3 q4 q5 q6 q7 q8 q9 q10 hi9 hz0 hz1 hz2 own6 hg6 hj5 hx5 T5
                go_wp2
                go_roundw
                case rel => exact ⟨m + 1, Y6, cy6, l + 1, L ++ [x], false, by omega, by go_num, by first | rfl | simp, rfl, Lib.hid (by rw [HTK.out, List.foldl_append, HM.out]; exact HE.out), T6.out⟩
                case measure => simp [intOf]; omega
            · have HE := Lib.hid (insJF_t (j := j) (x := x) (s := (L, true)) rfl)
              have hbj2 := bx_alloc hbj (.cells #[.int .i64 x.id, .int .i64 x.pr, .int .i64 x.nn, .int .i64 x.na, .int .i64 x.nb, .int .i64 x.nc, .int .i64 x.la, .int .i64 x.lb, .int .i64 x.lc, .int .i64 x.wl, .int .i64 x.lv] 118)
              have p0 := bx_cell hbj2 0 rfl
              have p1 := bx_cell hbj2 1 rfl
              have p2 := bx_cell hbj2 2 rfl
              have p3 := bx_cell hbj2 3 rfl
              have p4 := bx_cell hbj2 4 rfl
              have p5 := bx_cell hbj2 5 rfl
              have p6 := bx_cell hbj2 6 rfl
              have p7 := bx_cell hbj2 7 rfl
              have p8 := bx_cell hbj2 8 rfl
              have p9 := bx_cell hbj2 9 rfl
              have p10 := bx_cell hbj2 10 rfl
              simp only [List.getElem_toArray, List.getElem_cons_zero, List.getElem_cons_succ] at p0 p1 p2 p3 p4 p5 p6 p7 p8 p9 p10
              have q0 := bx_cell hxb 0 rfl
              have q1 := bx_cell hxb 1 rfl
              have q2 := bx_cell hxb 2 rfl
              have q3 := bx_cell hxb 3 rfl
              have q4 := bx_cell hxb 4 rfl
              have q5 := bx_cell hxb 5 rfl
              have q6 := bx_cell hxb 6 rfl
              have q7 := bx_cell hxb 7 rfl
              have q8 := bx_cell hxb 8 rfl
              have q9 := bx_cell hxb 9 rfl
              have q10 := bx_cell hxb 10 rfl
              simp only [List.getElem_toArray, List.getElem_cons_zero, List.getElem_cons_succ] at q0 q1 q2 q3 q4 q5 q6 q7 q8 q9 q10
              have hszT6 := T2.out.sz
              (try simp at hszT6)
              obtain ⟨i6, hi9, hz0, hz1, hz2⟩ := info_parts infoJ
              go_wp2_with (at_builtin; refine wpList_append_own _ rfl _ _ 66 rfl (LO) 118 i6 (.agg #[.int .i64 0, .int .i64 0, .int .i64 0, .int .i64 0, .int .i64 0, .int .i64 0, .int .i64 0, .int .i64 0, .int .i64 0, .int .i64 0, .int .i64 0]) 11 88 Try.underlying66 hi9 hz0 hz1 hz2 rfl (by decide) _ _ _ rfl (own_bel T2.out.own (below_alloc (wi.alloc (.cells #[.int .i64 x.id, .int .i64 x.pr, .int .i64 x.nn, .int .i64 x.na, .int .i64 x.nb, .int .i64 x.nc, .int .i64 x.la, .int .i64 x.lb, .int .i64 x.lc, .int .i64 x.wl, .int .i64 x.lv] 118)) (.cells #[.int .i64 x.id, .int .i64 x.pr, .int .i64 x.nn, .int .i64 x.na, .int .i64 x.nb, .int .i64 x.nc, .int .i64 x.la, .int .i64 x.lb, .int .i64 x.lc, .int .i64 x.wl, .int .i64 x.lv] 118))) ⟨wi.heap.size + 1, 0, none⟩ 1 1 [.int .i64 x.id, .int .i64 x.pr, .int .i64 x.nn, .int .i64 x.na, .int .i64 x.nb, .int .i64 x.nc, .int .i64 x.la, .int .i64 x.lb, .int .i64 x.lc, .int .i64 x.wl, .int .i64 x.lv] rfl rfl ?cd1 ?cd2 ?cd3 ?cd4 ?cd5 ?_)
              try case cd1 =>
                intro j y hy
                match j, hy with
                | 0, hy => (simp at hy; subst hy; simp [Addr.add])
                | 1, hy => (simp at hy; subst hy; simp [Addr.add])
                | 2, hy => (simp at hy; subst hy; simp [Addr.add])
                | 3, hy => (simp at hy; subst hy; simp [Addr.add])
                | 4, hy => (simp at hy; subst hy; simp [Addr.add])
                | 5, hy => (simp at hy; subst hy; simp [Addr.add])
                | 6, hy => (simp at hy; subst hy; simp [Addr.add])
                | 7, hy => (simp at hy; subst hy; simp [Addr.add])
                | 8, hy => (simp at hy; subst hy; simp [Addr.add])
                | 9, hy => (simp at hy; subst hy; simp [Addr.add])
                | 10, hy => (simp at hy; subst hy; simp [Addr.add])
              try case cd2 => simp [Value.oneCell']
              case cd3 => unfold maxLen; have := HLL.out; have := HN60.out; omega
              case cd4 => have := HLL.out; have := HN60.out; omega
              try case cd5 => first | omega | (simp <;> omega)
              intro v6 w6 own6 hg6 _
              obtain ⟨Y6, cy6, rfl, _⟩ := own_rd own6
              have T6 := Lib.hid ((T2.out.step (below_alloc (wi.alloc (.cells #[.int .i64 x.id, .int .i64 x.pr, .int .i64 x.nn, .int .i64 x.na, .int .i64 x.nb, .int .i64 x.nc, .int .i64 x.la, .int .i64 x.lb, .int .i64 x.lc, .int .i64 x.wl, .int .i64 x.lv] 118)) (.cells #[.int .i64 x.id, .int .i64 x.pr, .int .i64 x.nn, .int .i64 x.na, .int .i64 x.nb, .int .i64 x.nc, .int .i64 x.la, .int .i64 x.lb, .int .i64 x.lc, .int .i64 x.wl, .int .i64 x.lv] 118))).put (j := x) own6 hg6)
              have hgs6 := hg6.size
              (try simp at hgs6)
              clear q0 q1 q2 q3 q4 q5 q6 q7 q8 q9 q10 hi9 hz0 hz1 hz2 own6 hg6 hxb T1 T2
              go_wp2
              go_roundw
              case rel => exact ⟨m + 1, Y6, cy6, l + 1, L ++ [x], true, by omega, by go_num, by first | rfl | simp, rfl, Lib.hid (by rw [HTK.out, List.foldl_append, HM.out]; exact HE.out), T6.out⟩
              case measure => simp [intOf]; omega
          · have hmk : m = k := by omega
            subst hmk
            have HTF : Hid (insJE j (L, dn) = insJ j T) := Lib.hid (by
              have h1 := insJF_all j T []
              have h2 := HM.out
              rw [List.take_of_length_le (by omega)] at h2
              rw [h2] at h1
              simpa using h1)
            have HON : Hid (insJ j T = orderV (js.take (m + 1))) := Lib.hid (by rw [take_snoc' HJK.out, orderV_snoc, ← HT.out])
            have hIl : (insJ j T).length = m + 1 := by rw [insJ_len]; omega
            have HIL := Lib.hid hIl
            clear hIl
            cases dn
            · have hLe : L ++ [j] = insJ j T := HTF.out
              have hLn : l = m := by have h1 := congrArg List.length hLe; rw [List.length_append] at h1; have := HIL.out; have h3 := T1.out.len; simp at h1; omega
              have HLe := Lib.hid hLe
              clear hLe
              subst hLn
              have p0 := bx_cell hbj 0 rfl
              have p1 := bx_cell hbj 1 rfl
              have p2 := bx_cell hbj 2 rfl
              have p3 := bx_cell hbj 3 rfl
              have p4 := bx_cell hbj 4 rfl
              have p5 := bx_cell hbj 5 rfl
              have p6 := bx_cell hbj 6 rfl
              have p7 := bx_cell hbj 7 rfl
              have p8 := bx_cell hbj 8 rfl
              have p9 := bx_cell hbj 9 rfl
              have p10 := bx_cell hbj 10 rfl
              simp only [List.getElem_toArray, List.getElem_cons_zero, List.getElem_cons_succ] at p0 p1 p2 p3 p4 p5 p6 p7 p8 p9 p10
              have hszT6 := T1.out.sz
              (try simp at hszT6)
              obtain ⟨i6, hi9, hz0, hz1, hz2⟩ := info_parts infoJ
              go_wp2_with (at_builtin; refine wpList_append_own _ rfl _ _ 66 rfl (LO) 118 i6 (.agg #[.int .i64 0, .int .i64 0, .int .i64 0, .int .i64 0, .int .i64 0, .int .i64 0, .int .i64 0, .int .i64 0, .int .i64 0, .int .i64 0, .int .i64 0]) 11 88 Try.underlying66 hi9 hz0 hz1 hz2 rfl (by decide) _ _ _ rfl (own_bel T1.out.own (below_alloc wi (.cells #[.int .i64 j.id, .int .i64 j.pr, .int .i64 j.nn, .int .i64 j.na, .int .i64 j.nb, .int .i64 j.nc, .int .i64 j.la, .int .i64 j.lb, .int .i64 j.lc, .int .i64 j.wl, .int .i64 j.lv] 118))) ⟨wi.heap.size, 0, none⟩ 1 1 [.int .i64 j.id, .int .i64 j.pr, .int .i64 j.nn, .int .i64 j.na, .int .i64 j.nb, .int .i64 j.nc, .int .i64 j.la, .int .i64 j.lb, .int .i64 j.lc, .int .i64 j.wl, .int .i64 j.lv] rfl rfl ?ce1 ?ce2 ?ce3 ?ce4 ?ce5 ?_)
              try case ce1 =>
                intro j y hy
                match j, hy with
                | 0, hy => (simp at hy; subst hy; simp [Addr.add])
                | 1, hy => (simp at hy; subst hy; simp [Addr.add])
                | 2, hy => (simp at hy; subst hy; simp [Addr.add])
                | 3, hy => (simp at hy; subst hy; simp [Addr.add])
                | 4, hy => (simp at hy; subst hy; simp [Addr.add])
                | 5, hy => (simp at hy; subst hy; simp [Addr.add])
                | 6, hy => (simp at hy; subst hy; simp [Addr.add])
                | 7, hy => (simp at hy; subst hy; simp [Addr.add])
                | 8, hy => (simp at hy; subst hy; simp [Addr.add])
                | 9, hy => (simp at hy; subst hy; simp [Addr.add])
                | 10, hy => (simp at hy; subst hy; simp [Addr.add])
              try case ce2 => simp [Value.oneCell']
              case ce3 => unfold maxLen; have := HLL.out; have := HN60.out; omega
              case ce4 => have := HLL.out; have := HN60.out; omega
              try case ce5 => first | omega | (simp <;> omega)
              intro v6 w6 own6 hg6 _
              obtain ⟨Y6, cy6, rfl, _⟩ := own_rd own6
              have T6 := Lib.hid ((T1.out.step (below_alloc wi (.cells #[.int .i64 j.id, .int .i64 j.pr, .int .i64 j.nn, .int .i64 j.na, .int .i64 j.nb, .int .i64 j.nc, .int .i64 j.la, .int .i64 j.lb, .int .i64 j.lc, .int .i64 j.wl, .int .i64 j.lv] 118))).put (j := j) own6 hg6)
              have hgs6 := hg6.size
              (try simp at hgs6)
              have HF6 : Hid (w6.ownsRow LO 118 11 (.slice Y6 (l + 1) cy6) (l + 1) (jflat (insJ j T))) := Lib.hid (by
                have h9 := T6.out.own
                rw [HLe.out] at h9
                exact h9)
              clear p0 p1 p2 p3 p4 p5 p6 p7 p8 p9 p10 hi9 hz0 hz1 hz2 own6 hg6 hbj T1
              go_wp2
              go_roundw
              case rel => exact ⟨l + 1, Y6, cy6, insJ j T, by omega, by go_num, rfl, HIL.out, HON, own_mono HF6.out hlo2, HB0.out.trans (T6.out.bel.mono hlo2)⟩
              case measure => simp [intOf]; omega
            · have hLe : L = insJ j T := HTF.out
              have hLn : l = m + 1 := by have h3 := T1.out.len; rw [hLe] at h3; have := HIL.out; omega
              subst hLn
              have HF6 : Hid (wi.ownsRow LO 118 11 (.slice Y (m + 1) cy) (m + 1) (jflat (insJ j T))) := Lib.hid (by
                have h9 := T1.out.own
                rw [hLe] at h9; exact h9)
              have HB6 := Lib.hid T1.out.bel
              clear hLe T1
              go_wp2
              go_roundw
              case rel => exact ⟨m + 1, Y, cy, insJ j T, by omega, by go_num, rfl, HIL.out, HON, own_mono HF6.out hlo2, HB0.out.trans (HB6.out.mono hlo2)⟩
              case measure => simp [intOf]; omega
      · have hk9 : k = n := by omega
        subst hk9
        have S0 := Lib.hid hown
        have HBW := Lib.hid hbw
        clear hown hbw
        go_wp2
        go_ret
        exact ⟨_, rfl, by rw [HO.out, ← orderV_full HT.out HJ.out, hTl]; exact S0.out, HBW.out⟩
end Go.Proofs.Ytpfcegjomdppmaa
