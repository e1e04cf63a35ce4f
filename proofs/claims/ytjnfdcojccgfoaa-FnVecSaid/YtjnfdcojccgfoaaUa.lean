import Derived.Test.YtjnfdcojccgfoaaTg
import Derived.Test.YtjnfdcojccgfoaaBx
namespace Go.Proofs.Ytjnfdcojccgfoaa
set_option linter.unusedSimpArgs false
set_option linter.unusedVariables false
set_option linter.unnecessarySimpa false
open Go.RowKit
/-! rooms: the truths and the profiles -/
def bools (bs : List Bool) : List Value := bs.map Value.bool
/-- A slice of truths that came in. -/
def RdB (w : World) (A : Option Addr) (n : Nat) (zs : List Bool) : Prop :=
  zs.length = n ∧ (0 < n → ∃ b off, A = some ⟨b, off, none⟩ ∧ b < w.heap.size ∧ ∀ (k : Nat) z, zs[k]? = some z → w.cell? ⟨b, off + k, none⟩ = some (.bool z))
theorem RdB.below {w w' : World} {A : Option Addr} {n : Nat} {zs : List Bool} (h : RdB w A n zs) (hb : Below w.heap.size w w') : RdB w' A n zs :=
  ⟨h.1, fun hn => by
    obtain ⟨b, off, rfl, hl, hc⟩ := h.2 hn
    exact ⟨b, off, rfl, Nat.lt_of_lt_of_le hl hb.size, fun k z hz => (hb.cell (p := ⟨b, _, none⟩) hl).trans (hc k z hz)⟩⟩
/-- A slice of profiles that came in. -/
def RdPI (w : World) (A : Option Addr) (n : Nat) (pss : List (List Q)) : Prop :=
  pss.length = n ∧ (∀ ps ∈ pss, ps.length ≤ maxLen) ∧ (0 < n → ∃ b off, A = some ⟨b, off, none⟩ ∧ b < w.heap.size ∧ ∀ (k : Nat) ps, pss[k]? = some ps → ∃ B c, w.cell? ⟨b, off + k, none⟩ = some (.slice B ps.length c) ∧ RdE w B ps.length ps)
theorem RdPI.below {w w' : World} {A : Option Addr} {n : Nat} {pss : List (List Q)} (h : RdPI w A n pss) (hb : Below w.heap.size w w') : RdPI w' A n pss :=
  ⟨h.1, h.2.1, fun hn => by
    obtain ⟨b, off, rfl, hl, hc⟩ := h.2.2 hn
    exact ⟨b, off, rfl, Nat.lt_of_lt_of_le hl hb.size, fun k z hz => by
      obtain ⟨B, c, h1, h2⟩ := hc k z hz
      exact ⟨B, c, (hb.cell (p := ⟨b, _, none⟩) hl).trans h1, h2.below hb⟩⟩⟩
/-- A slice of profiles, as a program's function reads it. -/
def RdP (w : World) (A : Option Addr) (n : Nat) (pss : List (List Q)) : Prop :=
  pss.length = n ∧ (0 < n → ∃ g, A = some ⟨g, 0, none⟩ ∧ g < w.heap.size ∧ ∀ (k : Nat) ps, pss[k]? = some ps → ∃ B c, w.cell? ⟨g, k, none⟩ = some (.slice B ps.length c) ∧ ps.length ≤ 1048576 ∧ Rd w B ps.length 4 (flat ps) ∧ ∀ h, B = some ⟨h, 0, none⟩ → h < w.heap.size)
theorem RdP.below {w w' : World} {A : Option Addr} {n : Nat} {pss : List (List Q)} (h : RdP w A n pss) (hb : Below w.heap.size w w') : RdP w' A n pss :=
  ⟨h.1, fun hn => by
    obtain ⟨b, rfl, hl, hc⟩ := h.2 hn
    exact ⟨b, rfl, Nat.lt_of_lt_of_le hl hb.size, fun k z hz => by
      obtain ⟨B, c, h1, h2, h3, h4⟩ := hc k z hz
      exact ⟨B, c, (hb.cell (p := ⟨b, _, none⟩) hl).trans h1, h2, h3.below h4 hb, lt_below h4 hb⟩⟩⟩
theorem RdP.prof {w : World} {A : Option Addr} {n : Nat} {pss : List (List Q)} (h : RdP w A n pss) {k : Nat} (hk : k < n) : ∃ g B c ps, A = some ⟨g, 0, none⟩ ∧ g < w.heap.size ∧ pss[k]? = some ps ∧ w.cell? ⟨g, k, none⟩ = some (.slice B ps.length c) ∧ ps.length ≤ 1048576 ∧ Rd w B ps.length 4 (flat ps) ∧ ∀ h, B = some ⟨h, 0, none⟩ → h < w.heap.size := by
  obtain ⟨g, rfl, hg, hc⟩ := h.2 (by omega)
  have hl : k < pss.length := by have := h.1; omega
  have hq : pss[k]? = some pss[k] := List.getElem?_eq_getElem hl
  obtain ⟨B, c, h1, h2, h3, h4⟩ := hc k _ hq
  exact ⟨g, B, c, _, rfl, hg, hq, h1, h2, h3, h4⟩
/-- A slice of profiles of the call's own: its cells xs, each a slice of its own over its own block. -/
structure OwnP (w : World) (lo : Nat) (v : Value) (n : Nat) (xs : List Value) (pss : List (List Q)) : Prop where
  own : w.ownsRow lo 35 1 v n xs
  len : pss.length = n
  each : ∀ (k : Nat) x ps, xs[k]? = some x → pss[k]? = some ps → ps.length ≤ 1048576 ∧ w.ownsRow lo 97 4 x ps.length (flat ps)
  apart : ∀ (i j : Nat) x y, i < j → xs[i]? = some x → xs[j]? = some y → ∀ b, x.ownBlock = some b → y.ownBlock ≠ some b
theorem OwnP.xlen {w : World} {lo : Nat} {v : Value} {n : Nat} {xs : List Value} {pss : List (List Q)} (h : OwnP w lo v n xs pss) : xs.length = n := by have := h.own.1; omega
theorem OwnP.mono {w : World} {lo lo' : Nat} {v : Value} {n : Nat} {xs : List Value} {pss : List (List Q)} (h : OwnP w lo v n xs pss) (hl : lo' ≤ lo) : OwnP w lo' v n xs pss :=
  ⟨own_mono h.own hl, h.len, fun k x ps a b => ⟨(h.each k x ps a b).1, own_mono (h.each k x ps a b).2 hl⟩, h.apart⟩
theorem OwnP.bel {w w' : World} {lo : Nat} {v : Value} {n : Nat} {xs : List Value} {pss : List (List Q)} (h : OwnP w lo v n xs pss) (hb : Below w.heap.size w w') : OwnP w' lo v n xs pss :=
  ⟨own_bel h.own hb, h.len, fun k x ps a b => ⟨(h.each k x ps a b).1, own_bel (h.each k x ps a b).2 hb⟩, h.apart⟩
theorem OwnP.rd {w : World} {lo : Nat} {v : Value} {n : Nat} {xs : List Value} {pss : List (List Q)} (h : OwnP w lo v n xs pss) : ∃ A c, v = .slice A n c ∧ RdP w A n pss ∧ ∀ g, A = some ⟨g, 0, none⟩ → g < w.heap.size := by
  have hx := h.xlen
  have h1 := h.len
  obtain ⟨A, c, rfl, rd⟩ := own_rd h.own
  refine ⟨A, c, rfl, ⟨h.len, fun hn => ?_⟩, own_blk h.own⟩
  obtain ⟨g, rfl, hc⟩ := rd.2 hn
  refine ⟨g, rfl, own_blk h.own g rfl, fun k ps hk => ?_⟩
  have hkl : k < xs.length := by have := (List.getElem?_eq_some_iff.1 hk).1; omega
  have hq : xs[k]? = some xs[k] := List.getElem?_eq_getElem hkl
  obtain ⟨e1, e2⟩ := h.each k _ ps hq hk
  have e3 := hc k _ hq
  obtain ⟨B, c', e4, e5⟩ := own_rd e2
  rw [e4] at e3 e2
  exact ⟨B, c', e3, e1, e5, own_blk e2⟩
theorem infoB : (Try.prog.info? 4).map (fun i => (i.zero, i.size, i.bytes)) = some (some (.bool false), 1, 1) := by kernel_rfl
theorem infoProf : (Try.prog.info? 35).map (fun i => (i.zero, i.size, i.bytes)) = some (some (.agg #[.slice none 0 0]), 1, 24) := by kernel_rfl
set_option maxHeartbeats 4000000 in
theorem toBoolS_any (A : Option Addr) (n c : Nat) (zs : List Bool) (w : World) (hn : n ≤ 1048576) (hr : RdB w A n zs) :
    Calls Try.prog 157 #[.slice A n c] w fun e w' => ∃ v, e = .returned v ∧ w'.ownsRow w.heap.size 4 1 v n (bools zs) ∧ Below w.heap.size w w' := by
  obtain ⟨i0, hi, hz0, hz1, hz2⟩ := info_parts infoB
  have hm : n ≤ 9223372036854775807 := by omega
  have HN := Lib.hid hn
  have HR := Lib.hid hr
  clear hn hr
  go_enter Try.func157, Try.ntmps157
  go_wp2_with (at_make; refine wpList_make_full _ rfl _ _ 106 rfl w.heap.size 4 i0 (.bool false) 1 Try.underlying106 hi hz0 hz1 .i64 .i64 _ _ n rfl rfl rfl rfl (by rw [hz2]; have := HN.out; omega) (by unfold maxLen; have := HN.out; omega) (Nat.le_refl _) ?_; intro w0 hown0 hgrow0)
  have hb0 : Below w.heap.size w w0 := (Below.refl _ _).grown hgrow0 (Nat.le_refl _) (fun k hk => by cases hk)
  obtain ⟨cur0, hh0, hsz0⟩ : ∃ cur, w0.heap[w.heap.size]? = some (.cells cur 4 (0, 0)) ∧ cur.size = n := by
    rcases hown0.2 with ⟨h, _⟩ | ⟨g, cap, cur, hv, _, hh, h1, h2, h3, _⟩
    · cases h
    · injection hv with a1 a2 a3
      injection a1 with a1
      injection a1 with a1
      subst a1 a3
      exact ⟨cur, hh, by simpa using h3⟩
  clear hown0 hgrow0
  go_wp2
  go_wp2
  go_loopw [4] (fun i wr => ∃ k : Nat, k ≤ n ∧ i = .int .i64 k ∧ Below w.heap.size w wr ∧ ∃ cur, wr.heap[w.heap.size]? = some (.cells cur 4 (0, 0)) ∧ cur.size = n ∧ ∀ j, j < k → cur[j]? = (bools zs)[j]?) (fun i _ => n - (intOf i).toNat)
  case atStart => exact ⟨0, Nat.zero_le _, rfl, hb0, cur0, hh0, hsz0, fun j hj => absurd hj (by omega)⟩
  case round =>
    obtain ⟨k, hk, rfl, hbw, cur, hh, hsz, hm2⟩ := hrel
    clear hb0 hh0 hsz0
    by_cases hlt : k < n
    · obtain ⟨b, off, rfl, hbl, hc⟩ := HR.out.2 (by omega)
      have hl : k < zs.length := by have := HR.out.1; omega
      have hq : zs[k]? = some zs[k] := List.getElem?_eq_getElem hl
      generalize zs[k] = q at hq
      have c0 := (hbw.cell (p := ⟨b, off + k, none⟩) hbl).trans (hc k q hq)
      obtain ⟨o0, ho0⟩ := cell_of_heap (i := k) hh (by omega)
      have hf0 := frozen_of_heap (i := k) hh
      have HQ := Lib.hid hq
      have HM := Lib.hid hm2
      have HH := Lib.hid hh
      have HZ := Lib.hid hsz
      have HB := Lib.hid hbw
      clear hc hq hm2 hh hsz hbw
      have hlt' : (k : Int) < n := by omega
      go_wp2
      refine ⟨⟨k + 1, by omega, by go_num, HB.out.setCell (Nat.le_refl _) _, _, heap_set HH.out, by simpa using HZ.out, ?_⟩, by simp [intOf]; omega⟩
      intro j hj
      have hz := HZ.out
      rw [Array.getElem?_setIfInBounds]
      by_cases e : k = j
      · subst e
        rw [if_pos rfl, if_pos (by omega)]
        simp [bools, HQ.out]
      · rw [if_neg e]
        exact HM.out j (by omega)
    · have hk9 : k = n := by omega
      subst hk9
      have hlen := HR.out.1
      have hown : wr.ownsRow w.heap.size 4 1 (.slice (some ⟨w.heap.size, 0, none⟩) k k) k (bools zs) := by
        refine ⟨by simp [bools, hlen], Or.inr ⟨w.heap.size, k, cur, rfl, Nat.le_refl _, hh, Nat.le_refl _, Nat.le_trans HN.out (by decide), by simpa using hsz, ?_⟩⟩
        apply List.ext_getElem?
        intro j
        rw [List.getElem?_take]
        split
        · have := hm2 j (by omega)
          simpa using this
        · rw [List.getElem?_eq_none (by simp [bools]; omega)]
      have HO := Lib.hid hown
      have HB := Lib.hid hbw
      clear hown hbw hh hsz hm2
      go_wp2
      go_ret
      exact ⟨_, rfl, HO.out, HB.out⟩

set_option maxHeartbeats 400000 in
theorem szBoolS_any (A : Option Addr) (n c : Nat) (left : Int) (w : World) (h0 : 0 ≤ left) (h1 : left ≤ 1099511627776) (hn : n ≤ maxLen) :
    Calls Try.prog 155 #[.slice A n c, .int .i64 left] w fun e w' => e = .returned (.int .i64 (szOf left n)) ∧ w = w' := by
  unfold maxLen at hn
  have hl : -9223372036854775808 ≤ left - n := by omega
  have hl2 : left - n ≤ 9223372036854775807 := by omega
  unfold szOf
  by_cases h : (n : Int) ≤ left
  · rw [if_pos h]
    have h' : ¬ (left - n < 0) := by omega
    clear h1
    go_enter Try.func155, Try.ntmps155
    go_wp2
    go_ret
    exact ⟨rfl, rfl⟩
  · rw [if_neg h]
    have h' : left - n < 0 := by omega
    clear h1
    go_enter Try.func155, Try.ntmps155
    go_wp2
    go_ret
    exact ⟨rfl, rfl⟩


theorem szOf_le {left : Int} {n : Nat} : szOf left n ≤ left ∨ szOf left n = -1 := by unfold szOf; split <;> omega
theorem szOf_pos {left : Int} {n : Nat} (h : 0 ≤ szOf left n) : (n : Int) ≤ left ∧ szOf left n = left - n := by unfold szOf at *; split at h <;> omega
theorem szOf_neg {left : Int} {n : Nat} (h : ¬ 0 ≤ szOf left n) : szOf left n = -1 := by unfold szOf at *; split at h <;> omega
set_option maxHeartbeats 1000000 in
theorem szProfS_any (A : Option Addr) (n c : Nat) (left : Int) (pss : List (List Q)) (w : World) (h0 : 0 ≤ left) (h1 : left ≤ 1048576) (hn : n ≤ maxLen) (hr : RdPI w A n pss) :
    Calls Try.prog 156 #[.slice A n c, .int .i64 left] w fun e w' => ∃ z : Int, e = .returned (.int .i64 z) ∧ -1 ≤ z ∧ z ≤ left ∧ (0 ≤ z → n ≤ 1048576 ∧ ∀ ps ∈ pss, ps.length ≤ 1048576) ∧ Below w.heap.size w w' := by
  have hml : n ≤ 9223372036854775807 := by unfold maxLen at hn; omega
  have H0 := Lib.hid h0
  have H1 := Lib.hid h1
  have HR := Lib.hid hr
  have hlr : left - n ≤ 9223372036854775807 := by omega
  have hlr2 : -9223372036854775808 ≤ left - n := by omega
  by_cases h : (n : Int) ≤ left
  · have h' : ¬ (left - n < 0) := by omega
    have HH := Lib.hid h
    clear h0 h1 hn hr h
    go_enter Try.func156, Try.ntmps156
    go_wp2
    go_loopw [1, 5] (fun q i wr => ∃ (k : Nat) (z : Int), k ≤ n ∧ i = .int .i64 k ∧ q = .int .i64 z ∧ 0 ≤ z ∧ z ≤ left ∧ Below w.heap.size w wr ∧ Hid (∀ j ps, j < k → pss[j]? = some ps → ps.length ≤ 1048576)) (fun _ i _ => n - (intOf i).toNat)
    case atStart => exact ⟨0, left - n, Nat.zero_le _, rfl, rfl, by omega, by omega, Below.refl _ _, Lib.hid (fun j ps hj => absurd hj (by omega))⟩
    case round =>
      obtain ⟨k, z, hk, rfl, rfl, hz0, hz1, hbw, hall⟩ := hrel
      by_cases hlt : k < n
      · obtain ⟨b, off, rfl, hbl, hc⟩ := HR.out.2.2 (by omega)
        have hl : k < pss.length := by have := HR.out.1; omega
        have hq : pss[k]? = some pss[k] := List.getElem?_eq_getElem hl
        have hle : pss[k].length ≤ maxLen := HR.out.2.1 _ (List.getElem_mem hl)
        generalize pss[k] = ps at hq hle
        obtain ⟨B, c', d0, hre⟩ := hc k ps hq
        have c0 := (hbw.cell (p := ⟨b, off + k, none⟩) hbl).trans d0
        have HQ := Lib.hid hq
        have HLE := Lib.hid hle
        have HB := Lib.hid hbw
        have HZ0 := Lib.hid hz0
        have HZ1 := Lib.hid hz1
        clear hc d0 hq hle hre hbw
        have hlt' : (k : Int) < n := by omega
        by_cases hs : 0 ≤ szOf z ps.length
        · obtain ⟨hs1, hs2⟩ := szOf_pos hs
          have hs3 : ¬ (szOf z ps.length < 0) := by omega
          have HS := Lib.hid hs2
          have HS1 := Lib.hid hs1
          have HS0 := Lib.hid hs
          clear hs hs1 hs2 hz0 hz1
          go_wp2_with fail
          refine (szProf_any B ps.length c' z _ HZ0.out (by have := HZ1.out; have := H1.out; omega) HLE.out).mono ?_
          rintro e w1 ⟨rfl, hb1⟩
          generalize hsg : szOf z ps.length = z' at *
          go_wp2
          refine ⟨⟨k + 1, z', by omega, by go_num, rfl, HS0.out, ?_, (by repeat (first | exact Below.refl _ _ | assumption | (refine bstep ?_ (below_drewN _ _)) | exact bstep (by assumption) (by assumption) | (refine bstep ?_ (below_alloc _ _)) | (refine bstep ?_ (by assumption)) | (refine Below.setCell ?_ (by simp <;> omega) _) | refine Below.drew ?_)), Lib.hid (fun j ps' hj hps => ?_)⟩, by simp [intOf]; omega⟩
          · have := HS.out; have := HZ1.out; omega
          · rcases Nat.lt_or_ge j k with h | h
            · exact hall.out j ps' h hps
            · have : j = k := by omega
              rw [this, HQ.out] at hps
              injection hps with hps
              rw [← hps]
              have := HS1.out; have := HZ1.out; have := H1.out; omega
        · have hs2 := szOf_neg hs
          have HS := Lib.hid hs2
          clear hs hs2 hz0 hz1
          go_wp2_with fail
          refine (szProf_any B ps.length c' z _ HZ0.out (by have := HZ1.out; have := H1.out; omega) HLE.out).mono ?_
          rintro e w1 ⟨rfl, hb1⟩
          rw [HS.out]
          go_wp2
          go_ret
          exact ⟨_, rfl, by omega, by have := H0.out; omega, fun h => absurd h (by omega), (by repeat (first | exact Below.refl _ _ | assumption | (refine bstep ?_ (below_drewN _ _)) | exact bstep (by assumption) (by assumption) | (refine bstep ?_ (below_alloc _ _)) | (refine bstep ?_ (by assumption)) | (refine Below.setCell ?_ (by simp <;> omega) _) | refine Below.drew ?_))⟩
      · have hk9 : k = n := by omega
        subst hk9
        go_wp2
        go_ret
        refine ⟨_, rfl, by omega, hz1, fun _ => ⟨?_, fun ps hps => ?_⟩, hbw⟩
        · have := HH.out; have := H1.out; omega
        · obtain ⟨j, hj, rfl⟩ := List.getElem_of_mem hps
          exact hall.out j _ (by have := HR.out.1; omega) (List.getElem?_eq_getElem hj)
  · have h' : left - n < 0 := by omega
    clear h1 h0 hr h
    go_enter Try.func156, Try.ntmps156
    go_wp2
    go_ret
    exact ⟨_, rfl, by omega, by have := H0.out; omega, fun h => absurd h (by omega), Below.refl _ _⟩

set_option maxHeartbeats 4000000 in
theorem toProfS_any (A : Option Addr) (n c : Nat) (pss : List (List Q)) (w : World) (hn : n ≤ 1048576) (hm : ∀ ps ∈ pss, ps.length ≤ 1048576) (hr : RdPI w A n pss) :
    Calls Try.prog 158 #[.slice A n c] w fun e w' => ∃ v xs, e = .returned v ∧ OwnP w' w.heap.size v n xs pss ∧ Below w.heap.size w w' := by
  obtain ⟨i0, hi, hz0, hz1, hz2⟩ := info_parts infoProf
  have hn9 : n ≤ 9223372036854775807 := by omega
  have HN := Lib.hid hn
  have HR := Lib.hid hr
  have HM := Lib.hid hm
  clear hn hr hm
  go_enter Try.func158, Try.ntmps158
  go_wp2_with (at_make; refine wpList_make_full _ rfl _ _ 112 rfl w.heap.size 35 i0 (.agg #[.slice none 0 0]) 1 Try.underlying112 hi hz0 hz1 .i64 .i64 _ _ n rfl rfl rfl rfl (by rw [hz2]; have := HN.out; omega) (by unfold maxLen; have := HN.out; omega) (Nat.le_refl _) ?_; intro w0 hown0 hgrow0)
  have hb0 : Below w.heap.size w w0 := (Below.refl _ _).grown hgrow0 (Nat.le_refl _) (fun k hk => by cases hk)
  obtain ⟨cur0, hh0, hsz0⟩ : ∃ cur, w0.heap[w.heap.size]? = some (.cells cur 35 (0, 0)) ∧ cur.size = n := by
    rcases hown0.2 with ⟨h, _⟩ | ⟨g, cap, cur, hv, _, hh, h1, h2, h3, _⟩
    · cases h
    · injection hv with a1 a2 a3
      injection a1 with a1
      injection a1 with a1
      subst a1 a3
      exact ⟨cur, hh, by simpa using h3⟩
  clear hown0 hgrow0 hi hz0 hz1 hz2
  go_wp2
  go_loopw [4] (fun i wr => ∃ k : Nat, k ≤ n ∧ i = .int .i64 k ∧ Below w.heap.size w wr ∧ ∃ cur, wr.heap[w.heap.size]? = some (.cells cur 35 (0, 0)) ∧ cur.size = n ∧ Hid ((∀ j x ps, j < k → cur[j]? = some x → pss[j]? = some ps → wr.ownsRow w.heap.size 97 4 x ps.length (flat ps)) ∧ ∀ i j x y, i < j → j < k → cur[i]? = some x → cur[j]? = some y → ∀ b, x.ownBlock = some b → y.ownBlock ≠ some b)) (fun i _ => n - (intOf i).toNat)
  case atStart => exact ⟨0, Nat.zero_le _, rfl, hb0, cur0, hh0, hsz0, Lib.hid ⟨fun j x ps hj => absurd hj (by omega), fun i j x y _ hj => absurd hj (by omega)⟩⟩
  case round =>
    obtain ⟨k, hk, rfl, hbw, cur, hh, hsz, hm2⟩ := hrel
    clear hb0 hh0 hsz0
    by_cases hlt : k < n
    · obtain ⟨b, off, rfl, hbl, hc⟩ := HR.out.2.2 (by omega)
      have hl : k < pss.length := by have := HR.out.1; omega
      have hq : pss[k]? = some pss[k] := List.getElem?_eq_getElem hl
      have hle : pss[k].length ≤ 1048576 := HM.out _ (List.getElem_mem hl)
      generalize pss[k] = ps at hq hle
      obtain ⟨B, c', d0, hre⟩ := hc k ps hq
      have c0 := (hbw.cell (p := ⟨b, off + k, none⟩) hbl).trans d0
      have HQ := Lib.hid hq
      have HLE := Lib.hid hle
      have HH := Lib.hid hh
      have HZ := Lib.hid hsz
      have HE := Lib.hid (hre.below hbw)
      clear hc d0 hq hle hre hh hsz
      have hlt' : (k : Int) < n := by omega
      go_wp2_with fail
      refine (toProf_any B ps.length c' ps _ HLE.out HE.out).mono ?_
      rintro e w1 ⟨x, rfl, own1, hb1⟩
      obtain ⟨B1, c1, rfl, rd1⟩ := own_rd own1
      clear rd1
      have hh1 : w1.heap[w.heap.size]? = some (.cells cur 35 (0, 0)) := (hb1.block _ (heap_lt HH.out)).trans HH.out
      obtain ⟨o0, ho0⟩ := cell_of_heap (i := k) hh1 (by have := HZ.out; omega)
      have hf0 := frozen_of_heap (i := k) hh1
      have HH1 := Lib.hid hh1
      have OW1 := Lib.hid own1
      clear hh1 own1
      go_wp2
      have hne : ∀ b', (Value.slice B1 ps.length c1).ownBlock = some b' → b' ≠ w.heap.size := own_ne OW1.out HH1.out (by decide)
      have hlw := heap_lt HH.out
      refine ⟨⟨k + 1, by omega, by go_num, (bstep hbw hb1).setCell (Nat.le_refl _) _, _, heap_set HH1.out, by simpa using HZ.out, Lib.hid ⟨fun j y ps' hj hy hps => ?_, fun i j y z hij hj hy hz b' hyb hzb => ?_⟩⟩, by simp [intOf]; omega⟩
      · rw [Array.getElem?_setIfInBounds] at hy
        by_cases e : k = j
        · subst e
          rw [if_pos rfl, if_pos (by have := HZ.out; omega)] at hy
          injection hy with hy
          subst hy
          rw [HQ.out] at hps
          injection hps with hps
          subst hps
          exact own_mono (own_set OW1.out hne _) (by omega)
        · rw [if_neg e] at hy
          have o1 := hm2.out.1 j y ps' (by omega) hy hps
          exact own_set (own_bel o1 hb1) (own_ne o1 HH.out (by decide)) _
      · rw [Array.getElem?_setIfInBounds, if_neg (by omega)] at hy
        rw [Array.getElem?_setIfInBounds] at hz
        by_cases e : k = j
        · subst e
          rw [if_pos rfl, if_pos (by have := HZ.out; omega)] at hz
          injection hz with hz
          subst hz
          obtain ⟨ps', hps'⟩ : ∃ ps', pss[i]? = some ps' := ⟨_, List.getElem?_eq_getElem (show i < pss.length by have := HR.out.1; omega)⟩
          have o1 := own_lt (hm2.out.1 i y ps' hij hy hps') b' hyb
          rcases OW1.out.2 with ⟨e0, _⟩ | ⟨g, cap, cur', e0, hg, _⟩
          · rw [e0] at hzb; simp [Value.ownBlock] at hzb
          · rw [e0] at hzb; simp [Value.ownBlock] at hzb
            omega
        · rw [if_neg e] at hz
          exact hm2.out.2 i j y z hij (by omega) hy hz b' hyb hzb
    · have hk9 : k = n := by omega
      subst hk9
      have hlen := HR.out.1
      have hO : OwnP wr w.heap.size (.slice (some ⟨w.heap.size, 0, none⟩) k k) k cur.toList pss := by
        refine ⟨⟨by simpa using hsz, Or.inr ⟨w.heap.size, k, cur, rfl, Nat.le_refl _, hh, Nat.le_refl _, Nat.le_trans HN.out (by decide), by simpa using hsz, ?_⟩⟩, hlen, fun j x ps hx hps => ⟨HM.out _ (List.mem_of_getElem? hps), hm2.out.1 j x ps (by have := (List.getElem?_eq_some_iff.1 hps).1; omega) (by simpa using hx) hps⟩, fun i j x y hij hx hy => hm2.out.2 i j x y hij ?_ (by simpa using hx) (by simpa using hy)⟩
        · rw [← hsz, Nat.mul_one]; exact List.take_of_length_le (by simp)
        · have := (List.getElem?_eq_some_iff.1 hy).1
          simp at this; omega
      have HO := Lib.hid hO
      have HB := Lib.hid hbw
      clear hO hbw hh hsz hm2
      go_wp2
      go_ret
      exact ⟨_, _, rfl, HO.out, HB.out⟩

set_option maxHeartbeats 2000000 in
theorem eqProfS_any (A A' : Option Addr) (n c c' : Nat) (pss : List (List Q)) (w : World) (hn : n ≤ 1048577) (ha : RdP w A n pss) (hb : RdP w A' n pss) :
    Calls Try.prog 160 #[.slice A n c, .slice A' n c'] w fun e w' => e = .returned (.bool true) ∧ Below w.heap.size w w' := by
  have hm : n ≤ 9223372036854775807 := by omega
  clear hn
  have HA := Lib.hid ha
  have HB := Lib.hid hb
  clear ha hb
  go_enter Try.func160, Try.ntmps160
  go_wp2
  go_loopw [5] (fun i wr => ∃ k : Nat, k ≤ n ∧ i = .int .i64 k ∧ Below w.heap.size w wr) (fun i _ => n - (intOf i).toNat)
  case atStart => exact ⟨0, Nat.zero_le _, rfl, Below.refl _ _⟩
  case round =>
    obtain ⟨k, hk, rfl, hbw⟩ := hrel
    by_cases hlt : k < n
    · obtain ⟨g, B, e, ps, rfl, hg, hq, hc, hle, hrd, hlb⟩ := (HA.out.below hbw).prof hlt
      obtain ⟨g', B', e', ps', rfl, hg', hq', hc', hle', hrd', hlb'⟩ := (HB.out.below hbw).prof hlt
      obtain rfl : ps = ps' := by rw [hq] at hq'; exact Option.some.inj hq'
      have HLE := Lib.hid hle
      have R1 := Lib.hid hrd
      have R2 := Lib.hid hrd'
      have L1 := Lib.hid hlb
      have L2 := Lib.hid hlb'
      have HW := Lib.hid hbw
      clear hq hq' hle hle' hrd hrd' hlb hlb' hbw HA HB
      have hlt' : (k : Int) < n := by omega
      go_wp2_with fail
      go_region_held3 (fun w' => w'.cell? ⟨g, k, none⟩ = some (.slice B ps.length e) ∧ w'.cell? ⟨g', k, none⟩ = some (.slice B' ps.length e')) (simp [go_sem, *, World.cell?_alloc_some, World.cell?_setCell_far, Nat.lt_add_right, Nat.ne_of_gt]) (first | (go_at_call 33; refine (eqProf_any B B' ps.length e e' ps _ (Nat.le_succ_of_le HLE.out) (R1.out.below L1.out (by repeat (first | exact Below.refl _ _ | assumption | (refine bstep ?_ (below_drewN _ _)) | exact bstep (by assumption) (by assumption) | (refine bstep ?_ (below_alloc _ _)) | (refine bstep ?_ (by assumption)) | (refine Below.setCell ?_ (by simp <;> omega) _) | refine Below.drew ?_))) (R2.out.below L2.out (by repeat (first | exact Below.refl _ _ | assumption | (refine bstep ?_ (below_drewN _ _)) | exact bstep (by assumption) (by assumption) | (refine bstep ?_ (below_alloc _ _)) | (refine bstep ?_ (by assumption)) | (refine Below.setCell ?_ (by simp <;> omega) _) | refine Below.drew ?_))) (lt_below L1.out (by repeat (first | exact Below.refl _ _ | assumption | (refine bstep ?_ (below_drewN _ _)) | exact bstep (by assumption) (by assumption) | (refine bstep ?_ (below_alloc _ _)) | (refine bstep ?_ (by assumption)) | (refine Below.setCell ?_ (by simp <;> omega) _) | refine Below.drew ?_))) (lt_below L2.out (by repeat (first | exact Below.refl _ _ | assumption | (refine bstep ?_ (below_drewN _ _)) | exact bstep (by assumption) (by assumption) | (refine bstep ?_ (below_alloc _ _)) | (refine bstep ?_ (by assumption)) | (refine Below.setCell ?_ (by simp <;> omega) _) | refine Below.drew ?_)))).mono ?_; rintro e w1 ⟨rfl, hb1⟩; have hs1 := hb1.size; (try simp at hs1); have hy10 : g < w1.heap.size := (by omega); have hk10 := fun o => hb1.cell (p := ⟨g, o, none⟩) (by first | omega | (simp <;> omega)); have hg10 := fun o => hb1.frozen (p := ⟨g, o, none⟩) (by first | omega | (simp <;> omega)); have hy11 : g' < w1.heap.size := (by omega); have hk11 := fun o => hb1.cell (p := ⟨g', o, none⟩) (by first | omega | (simp <;> omega)); have hg11 := fun o => hb1.frozen (p := ⟨g', o, none⟩) (by first | omega | (simp <;> omega))))
      all_goals go_wp2
      all_goals refine ⟨⟨k + 1, by omega, by go_num, bstep HW.out (by repeat (first | exact Below.refl _ _ | assumption | (refine bstep ?_ (below_drewN _ _)) | exact bstep (by assumption) (by assumption) | (refine bstep ?_ (below_alloc _ _)) | (refine bstep ?_ (by assumption)) | (refine Below.setCell ?_ (by simp <;> omega) _) | refine Below.drew ?_))⟩, by simp [intOf]; omega⟩
    · go_wp2
      go_ret
      exact ⟨rfl, hbw⟩
end Go.Proofs.Ytjnfdcojccgfoaa
