import Derived.Test.YtnphjhbfpoekpaaGreatVkPk
import Derived.Test.YtnphjhbfpoekpaaGreatA3Pk
import Derived.Shelf.Abstract
import Derived.Test.YtnphjhbfpoekpaaGreatA7Pk
namespace Go.Proofs.YtnphjhbfpoekpaaGreat
set_option linter.unusedSimpArgs false
set_option linter.unusedVariables false
set_option linter.unnecessarySimpa false
open Go.RowKit
def J.cells (j : J) : List Value := [.int .i64 j.id, .int .i64 j.pr, .int .i64 j.nn, .int .i64 j.na, .int .i64 j.nb, .int .i64 j.nc, .int .i64 j.la, .int .i64 j.lb, .int .i64 j.lc, .int .i64 j.wl, .int .i64 j.lv]
def jflat (js : List J) : List Value := js.flatMap J.cells
theorem jflat_len (js : List J) : (jflat js).length = js.length * 11 := by
 induction js with
 | nil => rfl
 | cons p ps ih => simp only [jflat, List.flatMap_cons, List.length_append] at ih ⊢; rw [ih]; simp [J.cells]; omega
theorem jflat_get (js : List J) (k i : Nat) (j : J) (hj : js[k]? = some j) (hi : i < 11) : (jflat js)[k * 11 + i]? = j.cells[i]? := by
 induction js generalizing k with
 | nil => simp at hj
 | cons p ps ih =>
  cases k with
  | zero =>
   simp at hj; subst hj
   simp only [jflat, List.flatMap_cons, Nat.zero_mul, Nat.zero_add]
   rw [List.getElem?_append_left (by simp [J.cells]; omega)]
  | succ k =>
   simp at hj
   simp only [jflat, List.flatMap_cons]
   rw [List.getElem?_append_right (by simp [J.cells]; omega)]
   have := ih k hj
   simp only [jflat] at this
   rw [← this]
   congr 1
   simp [J.cells]; omega
theorem Rd.jlen {w : World} {A : Option Addr} {n : Nat} {js : List J} (h : Rd w A n 11 (jflat js)) : js.length = n := by
 have := h.1; rw [jflat_len] at this; omega
theorem Rd.j {w : World} {A : Option Addr} {n : Nat} {js : List J} (h : Rd w A n 11 (jflat js)) {k : Nat} (hk : k < n) : ∃ g j, A = some ⟨g, 0, none⟩ ∧ js[k]? = some j ∧
  w.cell? ⟨g, k * 11, none⟩ = some (.int .i64 j.id) ∧ w.cell? ⟨g, k * 11 + 1, none⟩ = some (.int .i64 j.pr) ∧ w.cell? ⟨g, k * 11 + 2, none⟩ = some (.int .i64 j.nn) ∧ w.cell? ⟨g, k * 11 + 3, none⟩ = some (.int .i64 j.na) ∧ w.cell? ⟨g, k * 11 + 4, none⟩ = some (.int .i64 j.nb) ∧ w.cell? ⟨g, k * 11 + 5, none⟩ = some (.int .i64 j.nc) ∧ w.cell? ⟨g, k * 11 + 6, none⟩ = some (.int .i64 j.la) ∧ w.cell? ⟨g, k * 11 + 7, none⟩ = some (.int .i64 j.lb) ∧ w.cell? ⟨g, k * 11 + 8, none⟩ = some (.int .i64 j.lc) ∧ w.cell? ⟨g, k * 11 + 9, none⟩ = some (.int .i64 j.wl) ∧ w.cell? ⟨g, k * 11 + 10, none⟩ = some (.int .i64 j.lv) := by
 obtain ⟨g, rfl, hc⟩ := h.2 (by omega)
 have hl : k < js.length := by rw [h.jlen]; exact hk
 have hq : js[k]? = some js[k] := zgh hl
 refine ⟨g, js[k], rfl, hq, ?_, ?_, ?_, ?_, ?_, ?_, ?_, ?_, ?_, ?_, ?_⟩
 ·exact hc _ _ (by have := jflat_get js k 0 _ hq (by omega); simpa [J.cells] using this)
 ·exact hc _ _ (by have := jflat_get js k 1 _ hq (by omega); simpa [J.cells] using this)
 ·exact hc _ _ (by have := jflat_get js k 2 _ hq (by omega); simpa [J.cells] using this)
 ·exact hc _ _ (by have := jflat_get js k 3 _ hq (by omega); simpa [J.cells] using this)
 ·exact hc _ _ (by have := jflat_get js k 4 _ hq (by omega); simpa [J.cells] using this)
 ·exact hc _ _ (by have := jflat_get js k 5 _ hq (by omega); simpa [J.cells] using this)
 ·exact hc _ _ (by have := jflat_get js k 6 _ hq (by omega); simpa [J.cells] using this)
 ·exact hc _ _ (by have := jflat_get js k 7 _ hq (by omega); simpa [J.cells] using this)
 ·exact hc _ _ (by have := jflat_get js k 8 _ hq (by omega); simpa [J.cells] using this)
 ·exact hc _ _ (by have := jflat_get js k 9 _ hq (by omega); simpa [J.cells] using this)
 ·exact hc _ _ (by have := jflat_get js k 10 _ hq (by omega); simpa [J.cells] using this)
def RdJ (w : World) (A : Option Addr) (n : Nat) (js : List J) : Prop :=
 js.length = n ∧ (0 < n → ∃ b off, A = some ⟨b, off, none⟩ ∧ b < w.heap.size ∧ ∀ (k : Nat) j, js[k]? = some j → ∀ (i : Nat) u, j.cells[i]? = some u → w.cell? ⟨b, off + k * 11 + i, none⟩ = some u)
theorem RdJ.below {w w' : World} {A : Option Addr} {n : Nat} {js : List J} (h : RdJ w A n js) (hb : Below w.heap.size w w') : RdJ w' A n js :=
 ⟨h.1, fun hn => by
  obtain ⟨b, off, rfl, hl, hc⟩ := h.2 hn
  exact ⟨b, off, rfl, Nat.lt_of_lt_of_le hl hb.size, fun k j hj i u hu => (hb.cell (p := ⟨b, _, none⟩) hl).trans (hc k j hj i u hu)⟩⟩
theorem infoJ : (Tryz.prog.info? 95).map (fun i => (i.zero, i.size, i.bytes)) = some (some (.agg #[.int .i64 0, .int .i64 0, .int .i64 0, .int .i64 0, .int .i64 0, .int .i64 0, .int .i64 0, .int .i64 0, .int .i64 0, .int .i64 0, .int .i64 0]), 11, 88) := by kernel_rfl
set_option maxHeartbeats 8000000 in
theorem toJobS_any (A : Option Addr) (n c : Nat) (js : List J) (w : World) (hn : n ≤ 1048576) (hr : RdJ w A n js) :
  Calls Tryz.prog 20 #[.slice A n c] w fun e w' => ∃ v, e = .returned v ∧ w'.ownsRow w.heap.size 95 11 v n (jflat js) ∧ Below w.heap.size w w' := by
 obtain ⟨i0, hi, hz0, hz1, hz2⟩ := info_parts infoJ
 have hm : n ≤ 9223372036854775807 := by omega
 have HN := Lib.hid hn
 have HR := Lib.hid hr
 clear hn hr
 go_enter Tryz.func20, Tryz.ntmps20
 go_wp2_with (at_make; refine wpList_make_full _ rfl _ _ 34 rfl w.heap.size 95 i0 (.agg #[.int .i64 0, .int .i64 0, .int .i64 0, .int .i64 0, .int .i64 0, .int .i64 0, .int .i64 0, .int .i64 0, .int .i64 0, .int .i64 0, .int .i64 0]) 11 Tryz.underlying34 hi hz0 hz1 .i64 .i64 _ _ n rfl rfl rfl rfl (by rw [hz2]; have := HN.out; omega) (by unfold maxLen; have := HN.out; omega) (Nat.le_refl _) ?_; intro w0 hown0 hgrow0)
 have hb0 : Below w.heap.size w w0 := (Below.refl _ _).grown hgrow0 (Nat.le_refl _) (fun k hk => by cases hk)
 obtain ⟨cur0, hh0, hsz0⟩ : ∃ cur, w0.heap[w.heap.size]? = some (.cells cur 95 (0, 0)) ∧ cur.size = n * 11 := by
  rcases hown0.2 with ⟨h, _⟩ | ⟨g, cap, cur, hv, _, hh, h1, h2, h3, _⟩
  ·cases h
  ·injection hv with a1 a2 a3
   injection a1 with a1
   injection a1 with a1
   subst a1 a3
   exact ⟨cur, hh, h3⟩
 clear hown0 hgrow0 hi hz0 hz1 hz2
 go_wp2
 go_loopw [4] (fun i wr => ∃ k : Nat, k ≤ n ∧ i = .int .i64 k ∧ Below w.heap.size w wr ∧ ∃ cur, wr.heap[w.heap.size]? = some (.cells cur 95 (0, 0)) ∧ cur.size = n * 11 ∧ ∀ j, j < k * 11 → cur[j]? = (jflat js)[j]?) (fun i _ => n - (intOf i).toNat)
 case atStart => exact ⟨0, Nat.zero_le _, rfl, hb0, cur0, hh0, hsz0, fun j hj => absurd hj (by omega)⟩
 case round =>
  obtain ⟨k, hk, rfl, hbw, cur, hh, hsz, hm2⟩ := hrel
  clear hb0 hh0 hsz0
  by_cases hlt : k < n
  ·obtain ⟨b, off, rfl, hbl, hc⟩ := HR.out.2 (by omega)
   have hl : k < js.length := by have := HR.out.1; omega
   have hq : js[k]? = some js[k] := zgh hl
   generalize js[k] = q at hq
   have c0 : wr.cell? ⟨b, off + k * 11, none⟩ = some (.int .i64 q.id) := (hbw.cell (p := ⟨b, off + k * 11, none⟩) hbl).trans (hc k q hq 0 _ rfl)
   have c1 : wr.cell? ⟨b, off + k * 11 + 1, none⟩ = some (.int .i64 q.pr) := (hbw.cell (p := ⟨b, off + k * 11 + 1, none⟩) hbl).trans (hc k q hq 1 _ rfl)
   have c2 : wr.cell? ⟨b, off + k * 11 + 2, none⟩ = some (.int .i64 q.nn) := (hbw.cell (p := ⟨b, off + k * 11 + 2, none⟩) hbl).trans (hc k q hq 2 _ rfl)
   have c3 : wr.cell? ⟨b, off + k * 11 + 3, none⟩ = some (.int .i64 q.na) := (hbw.cell (p := ⟨b, off + k * 11 + 3, none⟩) hbl).trans (hc k q hq 3 _ rfl)
   have c4 : wr.cell? ⟨b, off + k * 11 + 4, none⟩ = some (.int .i64 q.nb) := (hbw.cell (p := ⟨b, off + k * 11 + 4, none⟩) hbl).trans (hc k q hq 4 _ rfl)
   have c5 : wr.cell? ⟨b, off + k * 11 + 5, none⟩ = some (.int .i64 q.nc) := (hbw.cell (p := ⟨b, off + k * 11 + 5, none⟩) hbl).trans (hc k q hq 5 _ rfl)
   have c6 : wr.cell? ⟨b, off + k * 11 + 6, none⟩ = some (.int .i64 q.la) := (hbw.cell (p := ⟨b, off + k * 11 + 6, none⟩) hbl).trans (hc k q hq 6 _ rfl)
   have c7 : wr.cell? ⟨b, off + k * 11 + 7, none⟩ = some (.int .i64 q.lb) := (hbw.cell (p := ⟨b, off + k * 11 + 7, none⟩) hbl).trans (hc k q hq 7 _ rfl)
   have c8 : wr.cell? ⟨b, off + k * 11 + 8, none⟩ = some (.int .i64 q.lc) := (hbw.cell (p := ⟨b, off + k * 11 + 8, none⟩) hbl).trans (hc k q hq 8 _ rfl)
   have c9 : wr.cell? ⟨b, off + k * 11 + 9, none⟩ = some (.int .i64 q.wl) := (hbw.cell (p := ⟨b, off + k * 11 + 9, none⟩) hbl).trans (hc k q hq 9 _ rfl)
   have c10 : wr.cell? ⟨b, off + k * 11 + 10, none⟩ = some (.int .i64 q.lv) := (hbw.cell (p := ⟨b, off + k * 11 + 10, none⟩) hbl).trans (hc k q hq 10 _ rfl)
   have HQ := Lib.hid hq
   have HM := Lib.hid hm2
   have HH := Lib.hid hh
   have HZ := Lib.hid hsz
   clear hc hq hm2 hh hsz
   have hlt' : (k : Int) < n := by omega
   go_wp2_with fail
   refine (toJob_any q _).mono ?_
   rintro e w1 ⟨rfl, hb1⟩
   have hh1 : w1.heap[w.heap.size]? = some (.cells cur 95 (0, 0)) := (hb1.block _ (zAf HH.out)).trans HH.out
   obtain ⟨o0, ho0⟩ := zAj (i := k * 11) hh1 (by have := HZ.out; omega)
   have hf0 := zAi (i := k * 11) hh1
   obtain ⟨o1, ho1⟩ := zAj (i := k * 11 + 1) hh1 (by have := HZ.out; omega)
   have hf1 := zAi (i := k * 11 + 1) hh1
   obtain ⟨o2, ho2⟩ := zAj (i := k * 11 + 2) hh1 (by have := HZ.out; omega)
   have hf2 := zAi (i := k * 11 + 2) hh1
   obtain ⟨o3, ho3⟩ := zAj (i := k * 11 + 3) hh1 (by have := HZ.out; omega)
   have hf3 := zAi (i := k * 11 + 3) hh1
   obtain ⟨o4, ho4⟩ := zAj (i := k * 11 + 4) hh1 (by have := HZ.out; omega)
   have hf4 := zAi (i := k * 11 + 4) hh1
   obtain ⟨o5, ho5⟩ := zAj (i := k * 11 + 5) hh1 (by have := HZ.out; omega)
   have hf5 := zAi (i := k * 11 + 5) hh1
   obtain ⟨o6, ho6⟩ := zAj (i := k * 11 + 6) hh1 (by have := HZ.out; omega)
   have hf6 := zAi (i := k * 11 + 6) hh1
   obtain ⟨o7, ho7⟩ := zAj (i := k * 11 + 7) hh1 (by have := HZ.out; omega)
   have hf7 := zAi (i := k * 11 + 7) hh1
   obtain ⟨o8, ho8⟩ := zAj (i := k * 11 + 8) hh1 (by have := HZ.out; omega)
   have hf8 := zAi (i := k * 11 + 8) hh1
   obtain ⟨o9, ho9⟩ := zAj (i := k * 11 + 9) hh1 (by have := HZ.out; omega)
   have hf9 := zAi (i := k * 11 + 9) hh1
   obtain ⟨o10, ho10⟩ := zAj (i := k * 11 + 10) hh1 (by have := HZ.out; omega)
   have hf10 := zAi (i := k * 11 + 10) hh1
   have HH1 := Lib.hid hh1
   clear hh1 c0 c1 c2 c3 c4 c5 c6 c7 c8 c9 c10
   go_wp2
   refine ⟨⟨k + 1, by omega, by go_num, ?_, _, zAk (zAk (zAk (zAk (zAk (zAk (zAk (zAk (zAk (zAk (zAk (HH1.out))))))))))), by simpa using HZ.out, ?_⟩, by simp [intOf]; omega⟩
   ·exact (((((((((((zAc hbw hb1).setCell (Nat.le_refl _) _).setCell (Nat.le_refl _) _).setCell (Nat.le_refl _) _).setCell (Nat.le_refl _) _).setCell (Nat.le_refl _) _).setCell (Nat.le_refl _) _).setCell (Nat.le_refl _) _).setCell (Nat.le_refl _) _).setCell (Nat.le_refl _) _).setCell (Nat.le_refl _) _).setCell (Nat.le_refl _) _
   intro j hj
   have HM' := HM.out j
   have hz := HZ.out
   have g0 : (jflat js)[k * 11]? = some (.int .i64 q.id) := (jflat_get js k 0 q HQ.out (by omega)).trans rfl
   have g1 : (jflat js)[k * 11 + 1]? = some (.int .i64 q.pr) := (jflat_get js k 1 q HQ.out (by omega)).trans rfl
   have g2 : (jflat js)[k * 11 + 2]? = some (.int .i64 q.nn) := (jflat_get js k 2 q HQ.out (by omega)).trans rfl
   have g3 : (jflat js)[k * 11 + 3]? = some (.int .i64 q.na) := (jflat_get js k 3 q HQ.out (by omega)).trans rfl
   have g4 : (jflat js)[k * 11 + 4]? = some (.int .i64 q.nb) := (jflat_get js k 4 q HQ.out (by omega)).trans rfl
   have g5 : (jflat js)[k * 11 + 5]? = some (.int .i64 q.nc) := (jflat_get js k 5 q HQ.out (by omega)).trans rfl
   have g6 : (jflat js)[k * 11 + 6]? = some (.int .i64 q.la) := (jflat_get js k 6 q HQ.out (by omega)).trans rfl
   have g7 : (jflat js)[k * 11 + 7]? = some (.int .i64 q.lb) := (jflat_get js k 7 q HQ.out (by omega)).trans rfl
   have g8 : (jflat js)[k * 11 + 8]? = some (.int .i64 q.lc) := (jflat_get js k 8 q HQ.out (by omega)).trans rfl
   have g9 : (jflat js)[k * 11 + 9]? = some (.int .i64 q.wl) := (jflat_get js k 9 q HQ.out (by omega)).trans rfl
   have g10 : (jflat js)[k * 11 + 10]? = some (.int .i64 q.lv) := (jflat_get js k 10 q HQ.out (by omega)).trans rfl
   by_cases hj0 : j < k * 11
   ·simp only [Array.getElem?_setIfInBounds]
    rw [if_neg (by omega), if_neg (by omega), if_neg (by omega), if_neg (by omega), if_neg (by omega), if_neg (by omega), if_neg (by omega), if_neg (by omega), if_neg (by omega), if_neg (by omega), if_neg (by omega)]
    exact HM' hj0
   ·have hj' : j = k * 11 ∨ j = k * 11 + 1 ∨ j = k * 11 + 2 ∨ j = k * 11 + 3 ∨ j = k * 11 + 4 ∨ j = k * 11 + 5 ∨ j = k * 11 + 6 ∨ j = k * 11 + 7 ∨ j = k * 11 + 8 ∨ j = k * 11 + 9 ∨ j = k * 11 + 10 := by omega
    simp only [Array.getElem?_setIfInBounds, Array.size_setIfInBounds]
    rcases hj' with rfl | rfl | rfl | rfl | rfl | rfl | rfl | rfl | rfl | rfl | rfl
    ·rw [g0, if_neg (by omega), if_neg (by omega), if_neg (by omega), if_neg (by omega), if_neg (by omega), if_neg (by omega), if_neg (by omega), if_neg (by omega), if_neg (by omega), if_neg (by omega), if_pos rfl, if_pos (by omega)]
    ·rw [g1, if_neg (by omega), if_neg (by omega), if_neg (by omega), if_neg (by omega), if_neg (by omega), if_neg (by omega), if_neg (by omega), if_neg (by omega), if_neg (by omega), if_pos rfl, if_pos (by omega)]
    ·rw [g2, if_neg (by omega), if_neg (by omega), if_neg (by omega), if_neg (by omega), if_neg (by omega), if_neg (by omega), if_neg (by omega), if_neg (by omega), if_pos rfl, if_pos (by omega)]
    ·rw [g3, if_neg (by omega), if_neg (by omega), if_neg (by omega), if_neg (by omega), if_neg (by omega), if_neg (by omega), if_neg (by omega), if_pos rfl, if_pos (by omega)]
    ·rw [g4, if_neg (by omega), if_neg (by omega), if_neg (by omega), if_neg (by omega), if_neg (by omega), if_neg (by omega), if_pos rfl, if_pos (by omega)]
    ·rw [g5, if_neg (by omega), if_neg (by omega), if_neg (by omega), if_neg (by omega), if_neg (by omega), if_pos rfl, if_pos (by omega)]
    ·rw [g6, if_neg (by omega), if_neg (by omega), if_neg (by omega), if_neg (by omega), if_pos rfl, if_pos (by omega)]
    ·rw [g7, if_neg (by omega), if_neg (by omega), if_neg (by omega), if_pos rfl, if_pos (by omega)]
    ·rw [g8, if_neg (by omega), if_neg (by omega), if_pos rfl, if_pos (by omega)]
    ·rw [g9, if_neg (by omega), if_pos rfl, if_pos (by omega)]
    ·rw [g10, if_pos rfl, if_pos (by omega)]
  ·have hk9 : k = n := by omega
   subst hk9
   have hlen := HR.out.1
   have hown : wr.ownsRow w.heap.size 95 11 (.slice (some ⟨w.heap.size, 0, none⟩) k k) k (jflat js) := by
    refine ⟨by rw [jflat_len, hlen], Or.inr ⟨w.heap.size, k, cur, rfl, Nat.le_refl _, hh, Nat.le_refl _, Nat.le_trans HN.out (by decide), hsz, ?_⟩⟩
    apply List.ext_getElem?
    intro j
    rw [List.getElem?_take]
    split
    ·have := hm2 j (by omega)
     simpa using this
    ·rw [List.getElem?_eq_none (by rw [jflat_len]; omega)]
   have HO := Lib.hid hown
   have HB := Lib.hid hbw
   clear hown hbw hh hsz hm2
   go_wp2
   go_ret
   exact ⟨_, rfl, HO.out, HB.out⟩
set_option maxHeartbeats 400000 in
theorem szJobS_any (A : Option Addr) (n c : Nat) (left : Int) (w : World) (h0 : 0 ≤ left) (h1 : left ≤ 1099511627776) (hn : n ≤ maxLen) :
  Calls Tryz.prog 16 #[.slice A n c, .int .i64 left] w fun e w' => e = .returned (.int .i64 (szOf left n)) ∧ w = w' := by
 unfold maxLen at hn
 have hl : -9223372036854775808 ≤ left - n := by omega
 have hl2 : left - n ≤ 9223372036854775807 := by omega
 unfold szOf
 by_cases h : (n : Int) ≤ left
 ·rw [if_pos h]
  have h' : ¬ (left - n < 0) := by omega
  clear h1
  go_enter Tryz.func16, Tryz.ntmps16
  go_wp2
  go_ret
  exact ⟨rfl, rfl⟩
 ·rw [if_neg h]
  have h' : left - n < 0 := by omega
  clear h1
  go_enter Tryz.func16, Tryz.ntmps16
  go_wp2
  go_ret
  exact ⟨rfl, rfl⟩
set_option maxHeartbeats 4000000 in
theorem eqJob_any (j : J) (w : World) :
  Calls Tryz.prog 80 #[.agg #[.int .i64 j.id, .int .i64 j.pr, .int .i64 j.nn, .int .i64 j.na, .int .i64 j.nb, .int .i64 j.nc, .int .i64 j.la, .int .i64 j.lb, .int .i64 j.lc, .int .i64 j.wl, .int .i64 j.lv], .agg #[.int .i64 j.id, .int .i64 j.pr, .int .i64 j.nn, .int .i64 j.na, .int .i64 j.nb, .int .i64 j.nc, .int .i64 j.la, .int .i64 j.lb, .int .i64 j.lc, .int .i64 j.wl, .int .i64 j.lv]] w fun e w' => e = .returned (.bool true) ∧ Below w.heap.size w w' := by
 go_enter Tryz.func80, Tryz.ntmps80
 go_wp2_with fail
 refine (eqVec_int _ _ _ _).mono ?_
 rintro e w1 ⟨rfl, hb1⟩
 have hs1 := hb1.size
 (try simp at hs1)
 have hy10 : w.heap.size < w1.heap.size := by omega
 have hy11 : w.heap.size + 1 < w1.heap.size := by omega
 have hk10 := fun o => hb1.cell (p := ⟨w.heap.size, o, none⟩) zOm
 have hk11 := fun o => hb1.cell (p := ⟨w.heap.size + 1, o, none⟩) zOm
 go_wp2_with fail
 refine (eqVec_int _ _ _ _).mono ?_
 rintro e w2 ⟨rfl, hb2⟩
 have hs2 := hb2.size
 (try simp at hs2)
 have hy20 : w.heap.size < w2.heap.size := by omega
 have hy21 : w.heap.size + 1 < w2.heap.size := by omega
 have hk20 := fun o => hb2.cell (p := ⟨w.heap.size, o, none⟩) zOm
 have hk21 := fun o => hb2.cell (p := ⟨w.heap.size + 1, o, none⟩) zOm
 go_wp2
 go_ret
 exact ⟨rfl, zBe⟩
set_option maxHeartbeats 8000000 in
theorem eqJobS_any (A A' : Option Addr) (n c c' : Nat) (js : List J) (w : World) (hn : n ≤ 1048577) (ha : Rd w A n 11 (jflat js)) (hb : Rd w A' n 11 (jflat js)) (hl : ∀ g, A = some ⟨g, 0, none⟩ → g < w.heap.size) (hl' : ∀ g, A' = some ⟨g, 0, none⟩ → g < w.heap.size) :
  Calls Tryz.prog 23 #[.slice A n c, .slice A' n c'] w fun e w' => e = .returned (.bool true) ∧ Below w.heap.size w w' := by
 have hm : n ≤ 9223372036854775807 := by omega
 clear hn
 have HA := Lib.hid ha
 have HB := Lib.hid hb
 have HL := Lib.hid hl
 have HL' := Lib.hid hl'
 clear ha hb hl hl'
 go_enter Tryz.func23, Tryz.ntmps23
 go_wp2
 go_loopw [5] (fun i wr => ∃ k : Nat, k ≤ n ∧ i = .int .i64 k ∧ Below w.heap.size w wr) (fun i _ => n - (intOf i).toNat)
 case atStart => exact ⟨0, Nat.zero_le _, rfl, Below.refl _ _⟩
 case round =>
  obtain ⟨k, hk, rfl, hbw⟩ := hrel
  by_cases hlt : k < n
  ·obtain ⟨g, q, rfl, hq, c0, c1, c2, c3, c4, c5, c6, c7, c8, c9, c10⟩ := HA.out.j hlt
   obtain ⟨g', q', rfl, hq', d0, d1, d2, d3, d4, d5, d6, d7, d8, d9, d10⟩ := HB.out.j hlt
   obtain rfl : q = q' := by rw [hq] at hq'; exact Option.some.inj hq'
   have hg := HL.out g rfl
   have hg' := HL'.out g' rfl
   have C0 := (hbw.cell (p := ⟨g, k * 11, none⟩) hg).trans c0
   have C1 := (hbw.cell (p := ⟨g, k * 11 + 1, none⟩) hg).trans c1
   have C2 := (hbw.cell (p := ⟨g, k * 11 + 2, none⟩) hg).trans c2
   have C3 := (hbw.cell (p := ⟨g, k * 11 + 3, none⟩) hg).trans c3
   have C4 := (hbw.cell (p := ⟨g, k * 11 + 4, none⟩) hg).trans c4
   have C5 := (hbw.cell (p := ⟨g, k * 11 + 5, none⟩) hg).trans c5
   have C6 := (hbw.cell (p := ⟨g, k * 11 + 6, none⟩) hg).trans c6
   have C7 := (hbw.cell (p := ⟨g, k * 11 + 7, none⟩) hg).trans c7
   have C8 := (hbw.cell (p := ⟨g, k * 11 + 8, none⟩) hg).trans c8
   have C9 := (hbw.cell (p := ⟨g, k * 11 + 9, none⟩) hg).trans c9
   have C10 := (hbw.cell (p := ⟨g, k * 11 + 10, none⟩) hg).trans c10
   have D0 := (hbw.cell (p := ⟨g', k * 11, none⟩) hg').trans d0
   have D1 := (hbw.cell (p := ⟨g', k * 11 + 1, none⟩) hg').trans d1
   have D2 := (hbw.cell (p := ⟨g', k * 11 + 2, none⟩) hg').trans d2
   have D3 := (hbw.cell (p := ⟨g', k * 11 + 3, none⟩) hg').trans d3
   have D4 := (hbw.cell (p := ⟨g', k * 11 + 4, none⟩) hg').trans d4
   have D5 := (hbw.cell (p := ⟨g', k * 11 + 5, none⟩) hg').trans d5
   have D6 := (hbw.cell (p := ⟨g', k * 11 + 6, none⟩) hg').trans d6
   have D7 := (hbw.cell (p := ⟨g', k * 11 + 7, none⟩) hg').trans d7
   have D8 := (hbw.cell (p := ⟨g', k * 11 + 8, none⟩) hg').trans d8
   have D9 := (hbw.cell (p := ⟨g', k * 11 + 9, none⟩) hg').trans d9
   have D10 := (hbw.cell (p := ⟨g', k * 11 + 10, none⟩) hg').trans d10
   have hgr : g < wr.heap.size := Nat.lt_of_lt_of_le hg hbw.size
   have hgr' : g' < wr.heap.size := Nat.lt_of_lt_of_le hg' hbw.size
   clear hq hq' c0 c1 c2 c3 c4 c5 c6 c7 c8 c9 c10 d0 d1 d2 d3 d4 d5 d6 d7 d8 d9 d10 HA HB HL HL'
   have hlt' : (k : Int) < n := by omega
   go_wp2
   go_region_held3 (fun w' => w'.cell? ⟨g, k * 11, none⟩ = some (.int .i64 q.id) ∧ w'.cell? ⟨g, k * 11 + 1, none⟩ = some (.int .i64 q.pr) ∧ w'.cell? ⟨g, k * 11 + 2, none⟩ = some (.int .i64 q.nn) ∧ w'.cell? ⟨g, k * 11 + 3, none⟩ = some (.int .i64 q.na) ∧ w'.cell? ⟨g, k * 11 + 4, none⟩ = some (.int .i64 q.nb) ∧ w'.cell? ⟨g, k * 11 + 5, none⟩ = some (.int .i64 q.nc) ∧ w'.cell? ⟨g, k * 11 + 6, none⟩ = some (.int .i64 q.la) ∧ w'.cell? ⟨g, k * 11 + 7, none⟩ = some (.int .i64 q.lb) ∧ w'.cell? ⟨g, k * 11 + 8, none⟩ = some (.int .i64 q.lc) ∧ w'.cell? ⟨g, k * 11 + 9, none⟩ = some (.int .i64 q.wl) ∧ w'.cell? ⟨g, k * 11 + 10, none⟩ = some (.int .i64 q.lv) ∧ w'.cell? ⟨g', k * 11, none⟩ = some (.int .i64 q.id) ∧ w'.cell? ⟨g', k * 11 + 1, none⟩ = some (.int .i64 q.pr) ∧ w'.cell? ⟨g', k * 11 + 2, none⟩ = some (.int .i64 q.nn) ∧ w'.cell? ⟨g', k * 11 + 3, none⟩ = some (.int .i64 q.na) ∧ w'.cell? ⟨g', k * 11 + 4, none⟩ = some (.int .i64 q.nb) ∧ w'.cell? ⟨g', k * 11 + 5, none⟩ = some (.int .i64 q.nc) ∧ w'.cell? ⟨g', k * 11 + 6, none⟩ = some (.int .i64 q.la) ∧ w'.cell? ⟨g', k * 11 + 7, none⟩ = some (.int .i64 q.lb) ∧ w'.cell? ⟨g', k * 11 + 8, none⟩ = some (.int .i64 q.lc) ∧ w'.cell? ⟨g', k * 11 + 9, none⟩ = some (.int .i64 q.wl) ∧ w'.cell? ⟨g', k * 11 + 10, none⟩ = some (.int .i64 q.lv)) (simp [go_sem, *, World.cell?_alloc_some, World.cell?_setCell_far, Nat.lt_add_right, Nat.ne_of_gt]) (first | (go_at_call 80; refine (eqJob_any q _).mono ?_; rintro e w1 ⟨rfl, hb1⟩; have hk0 := fun o => hb1.cell (p := ⟨g, o, none⟩) (by simpa using hgr); have hk1 := fun o => hb1.cell (p := ⟨g', o, none⟩) (by simpa using hgr')))
   all_goals go_wp2
   all_goals exact ⟨⟨k + 1, by omega, by go_num, hbw.drew.trans (hb1.mono (by simpa using hbw.size))⟩, by simp [intOf]; omega⟩
  ·go_wp2
   go_ret
   exact ⟨rfl, hbw⟩
end Go.Proofs.YtnphjhbfpoekpaaGreat
