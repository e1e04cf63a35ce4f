import Derived.Test.YtnphjhbfpoekpaaGreatVkPl
import Derived.Test.YtnphjhbfpoekpaaGreatA3Pl
import Derived.Shelf.Abstract
import Derived.Test.YtnphjhbfpoekpaaGreatA7Pl
namespace Go.Proofs.YtnphjhbfpoekpaaGreat
set_option linter.unusedSimpArgs false
set_option linter.unusedVariables false
set_option linter.unnecessarySimpa false
open Go.RowKit
def J.cells (j : J) : List Value := [.int .i64 j.id, .int .i64 j.pr, .int .i64 j.nn, .int .i64 j.na, .int .i64 j.nb, .int .i64 j.nc, .int .i64 j.la, .int .i64 j.lb, .int .i64 j.lc, .int .i64 j.wl, .int .i64 j.lv]
def jflat (js : List J) : List Value := js.flatMap J.cells
theorem jflat_len (js : List J) : (jflat js).length = js.length * 11 := by
 induction js with
 | nil => rfl
 | cons p ps ih => simp only [jflat, List.flatMap_cons, List.length_append] at ih ⊢; rw [ih]; simp [J.cells]; omega
theorem jflat_get (js : List J) (k i : Nat) (j : J) (hj : js[k]? = some j) (hi : i < 11) : (jflat js)[k * 11 + i]? = j.cells[i]? := by
 induction js generalizing k with
 | nil => simp at hj
 | cons p ps ih =>
  cases k with
  | zero =>
   simp at hj; subst hj
   simp only [jflat, List.flatMap_cons, Nat.zero_mul, Nat.zero_add]
   rw [List.getElem?_append_left (by simp [J.cells]; omega)]
  | succ k =>
   simp at hj
   simp only [jflat, List.flatMap_cons]
   rw [List.getElem?_append_right (by simp [J.cells]; omega)]
   have := ih k hj
   simp only [jflat] at this
   rw [← this]
   congr 1
   simp [J.cells]; omega
theorem Rd.jlen {w : World} {A : Option Addr} {n : Nat} {js : List J} (h : Rd w A n 11 (jflat js)) : js.length = n := by
 have := h.1; rw [jflat_len] at this; omega
theorem Rd.j {w : World} {A : Option Addr} {n : Nat} {js : List J} (h : Rd w A n 11 (jflat js)) {k : Nat} (hk : k < n) : ∃ g j, A = some ⟨g, 0, none⟩ ∧ js[k]? = some j ∧
  w.cell? ⟨g, k * 11, none⟩ = some (.int .i64 j.id) ∧ w.cell? ⟨g, k * 11 + 1, none⟩ = some (.int .i64 j.pr) ∧ w.cell? ⟨g, k * 11 + 2, none⟩ = some (.int .i64 j.nn) ∧ w.cell? ⟨g, k * 11 + 3, none⟩ = some (.int .i64 j.na) ∧ w.cell? ⟨g, k * 11 + 4, none⟩ = some (.int .i64 j.nb) ∧ w.cell? ⟨g, k * 11 + 5, none⟩ = some (.int .i64 j.nc) ∧ w.cell? ⟨g, k * 11 + 6, none⟩ = some (.int .i64 j.la) ∧ w.cell? ⟨g, k * 11 + 7, none⟩ = some (.int .i64 j.lb) ∧ w.cell? ⟨g, k * 11 + 8, none⟩ = some (.int .i64 j.lc) ∧ w.cell? ⟨g, k * 11 + 9, none⟩ = some (.int .i64 j.wl) ∧ w.cell? ⟨g, k * 11 + 10, none⟩ = some (.int .i64 j.lv) := by
 obtain ⟨g, rfl, hc⟩ := h.2 (by omega)
 have hl : k < js.length := by rw [h.jlen]; exact hk
 have hq : js[k]? = some js[k] := zgh hl
 refine ⟨g, js[k], rfl, hq, ?_, ?_, ?_, ?_, ?_, ?_, ?_, ?_, ?_, ?_, ?_⟩
 ·exact hc _ _ (by have := jflat_get js k 0 _ hq (by omega); simpa [J.cells] using this)
 ·exact hc _ _ (by have := jflat_get js k 1 _ hq (by omega); simpa [J.cells] using this)
 ·exact hc _ _ (by have := jflat_get js k 2 _ hq (by omega); simpa [J.cells] using this)
 ·exact hc _ _ (by have := jflat_get js k 3 _ hq (by omega); simpa [J.cells] using this)
 ·exact hc _ _ (by have := jflat_get js k 4 _ hq (by omega); simpa [J.cells] using this)
 ·exact hc _ _ (by have := jflat_get js k 5 _ hq (by omega); simpa [J.cells] using this)
 ·exact hc _ _ (by have := jflat_get js k 6 _ hq (by omega); simpa [J.cells] using this)
 ·exact hc _ _ (by have := jflat_get js k 7 _ hq (by omega); simpa [J.cells] using this)
 ·exact hc _ _ (by have := jflat_get js k 8 _ hq (by omega); simpa [J.cells] using this)
 ·exact hc _ _ (by have := jflat_get js k 9 _ hq (by omega); simpa [J.cells] using this)
 ·exact hc _ _ (by have := jflat_get js k 10 _ hq (by omega); simpa [J.cells] using this)
def RdJ (w : World) (A : Option Addr) (n : Nat) (js : List J) : Prop :=
 js.length = n ∧ (0 < n → ∃ b off, A = some ⟨b, off, none⟩ ∧ b < w.heap.size ∧ ∀ (k : Nat) j, js[k]? = some j → ∀ (i : Nat) u, j.cells[i]? = some u → w.cell? ⟨b, off + k * 11 + i, none⟩ = some u)
theorem RdJ.below {w w' : World} {A : Option Addr} {n : Nat} {js : List J} (h : RdJ w A n js) (hb : Below w.heap.size w w') : RdJ w' A n js :=
 ⟨h.1, fun hn => by
  obtain ⟨b, off, rfl, hl, hc⟩ := h.2 hn
  exact ⟨b, off, rfl, Nat.lt_of_lt_of_le hl hb.size, fun k j hj i u hu => (hb.cell (p := ⟨b, _, none⟩) hl).trans (hc k j hj i u hu)⟩⟩
theorem infoJ : (Tryz.prog.info? 95).map (fun i => (i.zero, i.size, i.bytes)) = some (some (.agg #[.int .i64 0, .int .i64 0, .int .i64 0, .int .i64 0, .int .i64 0, .int .i64 0, .int .i64 0, .int .i64 0, .int .i64 0, .int .i64 0, .int .i64 0]), 11, 88) := by kernel_rfl
set_option maxHeartbeats 4000000 in
theorem eqJob_any (j : J) (w : World) :
  Calls Tryz.prog 80 #[.agg #[.int .i64 j.id, .int .i64 j.pr, .int .i64 j.nn, .int .i64 j.na, .int .i64 j.nb, .int .i64 j.nc, .int .i64 j.la, .int .i64 j.lb, .int .i64 j.lc, .int .i64 j.wl, .int .i64 j.lv], .agg #[.int .i64 j.id, .int .i64 j.pr, .int .i64 j.nn, .int .i64 j.na, .int .i64 j.nb, .int .i64 j.nc, .int .i64 j.la, .int .i64 j.lb, .int .i64 j.lc, .int .i64 j.wl, .int .i64 j.lv]] w fun e w' => e = .returned (.bool true) ∧ Below w.heap.size w w' := by
 go_enter Tryz.func80, Tryz.ntmps80
 go_wp2_with fail
 refine (eqVec_int _ _ _ _).mono ?_
 rintro e w1 ⟨rfl, hb1⟩
 have hs1 := hb1.size
 (try simp at hs1)
 have hy10 : w.heap.size < w1.heap.size := by omega
 have hy11 : w.heap.size + 1 < w1.heap.size := by omega
 have hk10 := fun o => hb1.cell (p := ⟨w.heap.size, o, none⟩) zOm
 have hk11 := fun o => hb1.cell (p := ⟨w.heap.size + 1, o, none⟩) zOm
 go_wp2_with fail
 refine (eqVec_int _ _ _ _).mono ?_
 rintro e w2 ⟨rfl, hb2⟩
 have hs2 := hb2.size
 (try simp at hs2)
 have hy20 : w.heap.size < w2.heap.size := by omega
 have hy21 : w.heap.size + 1 < w2.heap.size := by omega
 have hk20 := fun o => hb2.cell (p := ⟨w.heap.size, o, none⟩) zOm
 have hk21 := fun o => hb2.cell (p := ⟨w.heap.size + 1, o, none⟩) zOm
 go_wp2
 go_ret
 exact ⟨rfl, zBe⟩
set_option maxHeartbeats 8000000 in
theorem eqJobS_any (A A' : Option Addr) (n c c' : Nat) (js : List J) (w : World) (hn : n ≤ 1048577) (ha : Rd w A n 11 (jflat js)) (hb : Rd w A' n 11 (jflat js)) (hl : ∀ g, A = some ⟨g, 0, none⟩ → g < w.heap.size) (hl' : ∀ g, A' = some ⟨g, 0, none⟩ → g < w.heap.size) :
  Calls Tryz.prog 23 #[.slice A n c, .slice A' n c'] w fun e w' => e = .returned (.bool true) ∧ Below w.heap.size w w' := by
 have hm : n ≤ 9223372036854775807 := by omega
 clear hn
 have HA := Lib.hid ha
 have HB := Lib.hid hb
 have HL := Lib.hid hl
 have HL' := Lib.hid hl'
 clear ha hb hl hl'
 go_enter Tryz.func23, Tryz.ntmps23
 go_wp2
 go_loopw [5] (fun i wr => ∃ k : Nat, k ≤ n ∧ i = .int .i64 k ∧ Below w.heap.size w wr) (fun i _ => n - (intOf i).toNat)
 case atStart => exact ⟨0, Nat.zero_le _, rfl, Below.refl _ _⟩
 case round =>
  obtain ⟨k, hk, rfl, hbw⟩ := hrel
  by_cases hlt : k < n
  ·obtain ⟨g, q, rfl, hq, c0, c1, c2, c3, c4, c5, c6, c7, c8, c9, c10⟩ := HA.out.j hlt
   obtain ⟨g', q', rfl, hq', d0, d1, d2, d3, d4, d5, d6, d7, d8, d9, d10⟩ := HB.out.j hlt
   obtain rfl : q = q' := by rw [hq] at hq'; exact Option.some.inj hq'
   have hg := HL.out g rfl
   have hg' := HL'.out g' rfl
   have C0 := (hbw.cell (p := ⟨g, k * 11, none⟩) hg).trans c0
   have C1 := (hbw.cell (p := ⟨g, k * 11 + 1, none⟩) hg).trans c1
   have C2 := (hbw.cell (p := ⟨g, k * 11 + 2, none⟩) hg).trans c2
   have C3 := (hbw.cell (p := ⟨g, k * 11 + 3, none⟩) hg).trans c3
   have C4 := (hbw.cell (p := ⟨g, k * 11 + 4, none⟩) hg).trans c4
   have C5 := (hbw.cell (p := ⟨g, k * 11 + 5, none⟩) hg).trans c5
   have C6 := (hbw.cell (p := ⟨g, k * 11 + 6, none⟩) hg).trans c6
   have C7 := (hbw.cell (p := ⟨g, k * 11 + 7, none⟩) hg).trans c7
   have C8 := (hbw.cell (p := ⟨g, k * 11 + 8, none⟩) hg).trans c8
   have C9 := (hbw.cell (p := ⟨g, k * 11 + 9, none⟩) hg).trans c9
   have C10 := (hbw.cell (p := ⟨g, k * 11 + 10, none⟩) hg).trans c10
   have D0 := (hbw.cell (p := ⟨g', k * 11, none⟩) hg').trans d0
   have D1 := (hbw.cell (p := ⟨g', k * 11 + 1, none⟩) hg').trans d1
   have D2 := (hbw.cell (p := ⟨g', k * 11 + 2, none⟩) hg').trans d2
   have D3 := (hbw.cell (p := ⟨g', k * 11 + 3, none⟩) hg').trans d3
   have D4 := (hbw.cell (p := ⟨g', k * 11 + 4, none⟩) hg').trans d4
   have D5 := (hbw.cell (p := ⟨g', k * 11 + 5, none⟩) hg').trans d5
   have D6 := (hbw.cell (p := ⟨g', k * 11 + 6, none⟩) hg').trans d6
   have D7 := (hbw.cell (p := ⟨g', k * 11 + 7, none⟩) hg').trans d7
   have D8 := (hbw.cell (p := ⟨g', k * 11 + 8, none⟩) hg').trans d8
   have D9 := (hbw.cell (p := ⟨g', k * 11 + 9, none⟩) hg').trans d9
   have D10 := (hbw.cell (p := ⟨g', k * 11 + 10, none⟩) hg').trans d10
   have hgr : g < wr.heap.size := Nat.lt_of_lt_of_le hg hbw.size
   have hgr' : g' < wr.heap.size := Nat.lt_of_lt_of_le hg' hbw.size
   clear hq hq' c0 c1 c2 c3 c4 c5 c6 c7 c8 c9 c10 d0 d1 d2 d3 d4 d5 d6 d7 d8 d9 d10 HA HB HL HL'
   have hlt' : (k : Int) < n := by omega
   go_wp2
   go_region_held3 (fun w' => w'.cell? ⟨g, k * 11, none⟩ = some (.int .i64 q.id) ∧ w'.cell? ⟨g, k * 11 + 1, none⟩ = some (.int .i64 q.pr) ∧ w'.cell? ⟨g, k * 11 + 2, none⟩ = some (.int .i64 q.nn) ∧ w'.cell? ⟨g, k * 11 + 3, none⟩ = some (.int .i64 q.na) ∧ w'.cell? ⟨g, k * 11 + 4, none⟩ = some (.int .i64 q.nb) ∧ w'.cell? ⟨g, k * 11 + 5, none⟩ = some (.int .i64 q.nc) ∧ w'.cell? ⟨g, k * 11 + 6, none⟩ = some (.int .i64 q.la) ∧ w'.cell? ⟨g, k * 11 + 7, none⟩ = some (.int .i64 q.lb) ∧ w'.cell? ⟨g, k * 11 + 8, none⟩ = some (.int .i64 q.lc) ∧ w'.cell? ⟨g, k * 11 + 9, none⟩ = some (.int .i64 q.wl) ∧ w'.cell? ⟨g, k * 11 + 10, none⟩ = some (.int .i64 q.lv) ∧ w'.cell? ⟨g', k * 11, none⟩ = some (.int .i64 q.id) ∧ w'.cell? ⟨g', k * 11 + 1, none⟩ = some (.int .i64 q.pr) ∧ w'.cell? ⟨g', k * 11 + 2, none⟩ = some (.int .i64 q.nn) ∧ w'.cell? ⟨g', k * 11 + 3, none⟩ = some (.int .i64 q.na) ∧ w'.cell? ⟨g', k * 11 + 4, none⟩ = some (.int .i64 q.nb) ∧ w'.cell? ⟨g', k * 11 + 5, none⟩ = some (.int .i64 q.nc) ∧ w'.cell? ⟨g', k * 11 + 6, none⟩ = some (.int .i64 q.la) ∧ w'.cell? ⟨g', k * 11 + 7, none⟩ = some (.int .i64 q.lb) ∧ w'.cell? ⟨g', k * 11 + 8, none⟩ = some (.int .i64 q.lc) ∧ w'.cell? ⟨g', k * 11 + 9, none⟩ = some (.int .i64 q.wl) ∧ w'.cell? ⟨g', k * 11 + 10, none⟩ = some (.int .i64 q.lv)) (simp [go_sem, *, World.cell?_alloc_some, World.cell?_setCell_far, Nat.lt_add_right, Nat.ne_of_gt]) (first | (go_at_call 80; refine (eqJob_any q _).mono ?_; rintro e w1 ⟨rfl, hb1⟩; have hk0 := fun o => hb1.cell (p := ⟨g, o, none⟩) (by simpa using hgr); have hk1 := fun o => hb1.cell (p := ⟨g', o, none⟩) (by simpa using hgr')))
   all_goals go_wp2
   all_goals exact ⟨⟨k + 1, by omega, by go_num, hbw.drew.trans (hb1.mono (by simpa using hbw.size))⟩, by simp [intOf]; omega⟩
  ·go_wp2
   go_ret
   exact ⟨rfl, hbw⟩
def idxJ (p : J → Bool) (js : List J) : Int := match js.findIdx? p with
 | some i => (i : Int)
 | none => -1
theorem idxJ_hit {p : J → Bool} {js : List J} {k : Nat} {j : J} (hj : js[k]? = some j) (hp : p j = true) (h : ∀ i x, i < k → js[i]? = some x → p x = false) : idxJ p js = k := by
 have hk : k < js.length := (List.getElem?_eq_some_iff.1 hj).1
 have : js.findIdx? p = some k := by
  rw [List.findIdx?_eq_some_iff_getElem]
  refine ⟨hk, ?_, fun i hi => ?_⟩
  ·have := (List.getElem?_eq_some_iff.1 hj).2
   rw [this]; exact hp
  ·have := h i js[i] hi (zgh (by omega))
   simp [this]
 unfold idxJ; rw [this]
theorem idxJ_miss {p : J → Bool} {js : List J} {n : Nat} (hn : js.length = n) (h : ∀ i x, i < n → js[i]? = some x → p x = false) : idxJ p js = -1 := by
 have : js.findIdx? p = none := by
  rw [List.findIdx?_eq_none_iff]
  intro x hx
  obtain ⟨i, hi, rfl⟩ := List.getElem_of_mem hx
  exact h i _ (by omega) (zgh hi)
 unfold idxJ; rw [this]
theorem idxJ_any {p : J → Bool} {js : List J} : decide (0 ≤ idxJ p js) = js.any p := by
 unfold idxJ
 cases h : js.findIdx? p with
 | none =>
  rw [List.findIdx?_eq_none_iff] at h
  have : js.any p = false := by rw [List.any_eq_false]; intro x hx; simp [h x hx]
  rw [this]; simp
 | some i =>
  have hh := h
  rw [List.findIdx?_eq_some_iff_getElem] at hh
  obtain ⟨hi, hp, _⟩ := hh
  have : js.any p = true := List.any_eq_true.2 ⟨_, List.getElem_mem hi, hp⟩
  rw [this]; simp
set_option maxHeartbeats 4000000 in
theorem indexFuncJ_any (A : Option Addr) (n c : Nat) (js : List J) (g0 : Nat) (lb : Array Value) (p : J → Bool) (w : World) (hn : n ≤ 1048577) (hr : Rd w A n 11 (jflat js)) (hl : ∀ g, A = some ⟨g, 0, none⟩ → g < w.heap.size)
  (eg : ∀ args w, (callFunc g0 args).run Tryz.prog w = .ok (.enter g0 args) w)
  (hp : ∀ (q : J) (W : World), Below w.heap.size w W → Calls Tryz.prog g0 (#[.agg #[.int .i64 q.id, .int .i64 q.pr, .int .i64 q.nn, .int .i64 q.na, .int .i64 q.nb, .int .i64 q.nc, .int .i64 q.la, .int .i64 q.lb, .int .i64 q.lc, .int .i64 q.wl, .int .i64 q.lv]] ++ lb) W fun e W' => e = .returned (.bool (p q)) ∧ Below W.heap.size W W') :
  Calls Tryz.prog 152 #[.slice A n c, .func (.func g0) #[] lb] w fun e w' => e = .returned (.int .i64 (idxJ p js)) ∧ Below w.heap.size w w' := by
 have hm : n ≤ 9223372036854775807 := by omega
 have hpl := hr.jlen
 have HR := Lib.hid hr
 have HL := Lib.hid hl
 have HP := Lib.hid hp
 have HPL := Lib.hid hpl
 clear hn hr hl hp hpl
 go_enter Tryz.func152, Tryz.ntmps152
 go_wp2
 go_loopw [5, 8] (fun _ i wr => ∃ k : Nat, k ≤ n ∧ i = .int .i64 k ∧ Below w.heap.size w wr ∧ Hid (∀ i x, i < k → js[i]? = some x → p x = false)) (fun _ i _ => n - (intOf i).toNat)
 case atStart => exact ⟨0, Nat.zero_le _, rfl, Below.refl _ _, Lib.hid fun i x hi => absurd hi (by omega)⟩
 case round =>
  obtain ⟨k, hk, rfl, hbw, hall⟩ := hrel
  by_cases hlt : k < n
  ·have hlt' : (k : Int) < n := by omega
   obtain ⟨g, q, rfl, hq, c0, c1, c2, c3, c4, c5, c6, c7, c8, c9, c10⟩ := HR.out.j hlt
   have hg := HL.out g rfl
   have C0 := (hbw.cell (p := ⟨g, k * 11, none⟩) hg).trans c0
   have C1 := (hbw.cell (p := ⟨g, k * 11 + 1, none⟩) hg).trans c1
   have C2 := (hbw.cell (p := ⟨g, k * 11 + 2, none⟩) hg).trans c2
   have C3 := (hbw.cell (p := ⟨g, k * 11 + 3, none⟩) hg).trans c3
   have C4 := (hbw.cell (p := ⟨g, k * 11 + 4, none⟩) hg).trans c4
   have C5 := (hbw.cell (p := ⟨g, k * 11 + 5, none⟩) hg).trans c5
   have C6 := (hbw.cell (p := ⟨g, k * 11 + 6, none⟩) hg).trans c6
   have C7 := (hbw.cell (p := ⟨g, k * 11 + 7, none⟩) hg).trans c7
   have C8 := (hbw.cell (p := ⟨g, k * 11 + 8, none⟩) hg).trans c8
   have C9 := (hbw.cell (p := ⟨g, k * 11 + 9, none⟩) hg).trans c9
   have C10 := (hbw.cell (p := ⟨g, k * 11 + 10, none⟩) hg).trans c10
   have hcall := HP.out q wr hbw
   have HC := Lib.hid hcall
   have HQ := Lib.hid hq
   have HB := Lib.hid hbw
   clear hcall hq hbw c0 c1 c2 c3 c4 c5 c6 c7 c8 c9 c10
   go_wp2_with fail
   refine (HC.out).mono ?_
   rintro e w1 ⟨rfl, hb1⟩
   cases hpq : p q
   ·have HPQ := Lib.hid hpq
    clear hpq
    go_wp2
    go_roundw
    case rel =>
     refine ⟨k + 1, by omega, by go_num, zAc HB.out hb1, Lib.hid fun i x hi hx => ?_⟩
     by_cases hik : i < k
     ·exact hall.out i x hik hx
     ·have : i = k := by omega
      subst this
      rw [HQ.out] at hx
      rw [← Option.some.inj hx]; exact HPQ.out
    case measure => simp [intOf]; omega
   ·have HF := Lib.hid (idxJ_hit HQ.out hpq hall.out)
    clear hpq
    go_wp2
    go_ret
    exact ⟨ret_int HF.out.symm, zAc HB.out hb1⟩
  ·have hk9 : k = n := by omega
   subst hk9
   have HF := Lib.hid (idxJ_miss HPL.out hall.out)
   go_wp2
   go_ret
   exact ⟨ret_int HF.out.symm, hbw⟩
set_option maxHeartbeats 4000000 in
theorem containsFuncJ_any (A : Option Addr) (n c : Nat) (js : List J) (g0 : Nat) (lb : Array Value) (p : J → Bool) (w : World) (hn : n ≤ 1048577) (hr : Rd w A n 11 (jflat js)) (hl : ∀ g, A = some ⟨g, 0, none⟩ → g < w.heap.size)
  (eg : ∀ args w, (callFunc g0 args).run Tryz.prog w = .ok (.enter g0 args) w)
  (hp : ∀ (q : J) (W : World), Below w.heap.size w W → Calls Tryz.prog g0 (#[.agg #[.int .i64 q.id, .int .i64 q.pr, .int .i64 q.nn, .int .i64 q.na, .int .i64 q.nb, .int .i64 q.nc, .int .i64 q.la, .int .i64 q.lb, .int .i64 q.lc, .int .i64 q.wl, .int .i64 q.lv]] ++ lb) W fun e W' => e = .returned (.bool (p q)) ∧ Below W.heap.size W W') :
  Calls Tryz.prog 128 #[.slice A n c, .func (.func g0) #[] lb] w fun e w' => e = .returned (.bool (js.any p)) ∧ Below w.heap.size w w' := by
 have HN := Lib.hid hn
 have HR := Lib.hid hr
 have HL := Lib.hid hl
 have HP := Lib.hid hp
 have HI := Lib.hid (idxJ_any (p := p) (js := js))
 clear hn hr hl hp
 go_enter Tryz.func128, Tryz.ntmps128
 go_wp2_with fail
 refine (indexFuncJ_any A n c js g0 lb p _ HN.out HR.out HL.out eg HP.out).mono ?_
 rintro e w1 ⟨rfl, hb1⟩
 go_wp2
 go_ret
 exact ⟨zAj HI.out, hb1⟩
set_option maxHeartbeats 1000000 in
theorem queueClos_any (j : J) (b : Nat) (x : Int) (W : World) (hc : W.cell? ⟨b, 0, none⟩ = some (.int .i64 x)) (hb : b < W.heap.size) :
  Calls Tryz.prog 129 #[.agg #[.int .i64 j.id, .int .i64 j.pr, .int .i64 j.nn, .int .i64 j.na, .int .i64 j.nb, .int .i64 j.nc, .int .i64 j.la, .int .i64 j.lb, .int .i64 j.lc, .int .i64 j.wl, .int .i64 j.lv], .pointer (some ⟨b, 0, none⟩)] W fun e W' => e = .returned (.bool (j.id == x)) ∧ Below W.heap.size W W' := by
 go_enter Tryz.func129, Tryz.ntmps129
 go_wp2
 go_ret
 exact ⟨rfl, zAa _ _⟩
def qAt (js : List J) (k : Nat) : Prop := ∀ i j, i < k → js[i]? = some j → j.okB = true ∧ ∀ h x, h < i → js[h]? = some x → x.id ≠ j.id
theorem qAt_succ {js : List J} {k : Nat} {j : J} (h : qAt js k) (hj : js[k]? = some j) (hok : j.okB = true) (hid : ∀ i x, i < k → js[i]? = some x → x.id ≠ j.id) : qAt js (k + 1) := by
 intro i x hi hx
 by_cases hik : i < k
 ·exact h i x hik hx
 ·have : i = k := by omega
  subst this
  rw [hj] at hx
  rw [← Option.some.inj hx]
  exact ⟨hok, hid⟩
theorem queue_len {js : List J} {n : Nat} (hn : js.length = n) (h : ¬ n ≤ 60) : queueB js = false := by
 unfold queueB; simp [hn, h]
theorem queue_job {js : List J} {k : Nat} {j : J} (hj : js[k]? = some j) (h : j.okB = false) : queueB js = false := by
 cases hh : queueB js with
 | false => rfl
 | true =>
  have := (queue_parts hh).2.1 j (List.mem_of_getElem? hj)
  rw [h] at this; cases this
theorem queue_dup {js : List J} {i k : Nat} {x j : J} (hik : i < k) (hx : js[i]? = some x) (hj : js[k]? = some j) (h : x.id = j.id) : queueB js = false := by
 cases hh : queueB js with
 | false => rfl
 | true =>
  have hd := (queue_parts hh).2.2
  unfold distJ at hd
  rw [List.pairwise_iff_getElem] at hd
  have hi := (List.getElem?_eq_some_iff.1 hx)
  have hk := (List.getElem?_eq_some_iff.1 hj)
  obtain ⟨hi1, hi2⟩ := hi
  obtain ⟨hk1, hk2⟩ := hk
  have := hd i k hi1 hk1 hik
  rw [hi2, hk2] at this
  exact absurd h this
theorem queue_all {js : List J} {n : Nat} (hn : js.length = n) (h : qAt js n) : queueB js = decide (n ≤ 60) := by
 have h1 : js.all J.okB = true := by
  rw [List.all_eq_true]
  intro j hj
  obtain ⟨i, hi, rfl⟩ := List.getElem_of_mem hj
  exact (h i _ (by omega) (zgh hi)).1
 have h2 : js.Pairwise fun a b => a.id ≠ b.id := by
  rw [List.pairwise_iff_getElem]
  intro i k hi hk hik
  exact (h k _ (by omega) (zgh hk)).2 i _ hik (zgh hi)
 unfold queueB
 rw [h1, hn, decide_eq_true h2, Bool.and_true, Bool.and_true]
theorem Rd.takeJ {w : World} {A : Option Addr} {n : Nat} {js : List J} (h : Rd w A n 11 (jflat js)) {k : Nat} (hk : k ≤ n) : Rd w A k 11 (jflat (js.take k)) := by
 have hl := h.jlen
 refine ⟨by rw [jflat_len]; simp; omega, fun h0 => ?_⟩
 obtain ⟨g, rfl, hc⟩ := h.2 (by omega)
 refine ⟨g, rfl, fun i u hu => hc i u ?_⟩
 have e : jflat js = jflat (js.take k) ++ jflat (js.drop k) := by
  unfold jflat; rw [← List.flatMap_append, List.take_append_drop]
 rw [e, List.getElem?_append_left (List.getElem?_eq_some_iff.1 hu).1]
 exact hu
theorem any_id {js : List J} {k : Nat} {x : Int} (h : ((js.take k).any fun q => q.id == x) = false) : ∀ i y, i < k → js[i]? = some y → y.id ≠ x := by
 intro i y hi hy e
 rw [List.any_eq_false] at h
 have hm : y ∈ js.take k := List.mem_iff_getElem?.2 ⟨i, by rw [List.getElem?_take, if_pos hi]; exact hy⟩
 exact h y hm (by simp [e])
theorem any_dup {js : List J} {k : Nat} {x : Int} (h : ((js.take k).any fun q => q.id == x) = true) : ∃ i y, i < k ∧ js[i]? = some y ∧ y.id = x := by
 rw [List.any_eq_true] at h
 obtain ⟨y, hy, e⟩ := h
 obtain ⟨i, hi⟩ := List.mem_iff_getElem?.1 hy
 rw [List.getElem?_take] at hi
 split at hi
 ·exact ⟨i, y, by assumption, hi, by simpa using e⟩
 ·cases hi
set_option maxHeartbeats 8000000 in
theorem queueOk_any (A : Option Addr) (n c : Nat) (js : List J) (w : World) (hn : n ≤ 1048576) (hr : Rd w A n 11 (jflat js)) (hl : ∀ g, A = some ⟨g, 0, none⟩ → g < w.heap.size) (hnc : n ≤ c) (hc9 : c ≤ 9223372036854775807) :
  Calls Tryz.prog 45 #[.slice A n c] w fun e w' => e = .returned (.bool (queueB js)) ∧ Below w.heap.size w w' := by
 have eg : ∀ args w, (callFunc 129 args).run Tryz.prog w = .ok (.enter 129 args) w := enters_of Tryz.func129 (by kernel_rfl) rfl
 have EG := Lib.hid eg
 clear eg
 have hpl := hr.jlen
 have hm : n ≤ 9223372036854775807 := by omega
 have HN := Lib.hid hn
 have HR := Lib.hid hr
 have HL := Lib.hid hl
 have HPL := Lib.hid hpl
 clear hn hr hl hpl
 go_enter Tryz.func45, Tryz.ntmps45
 go_wp2
 go_loopw [7] (fun i wr => ∃ k : Nat, k ≤ n ∧ i = .int .i64 k ∧ Below w.heap.size w wr ∧ Hid (qAt js k)) (fun i _ => n - (intOf i).toNat)
 case atStart => exact ⟨0, Nat.zero_le _, rfl, Below.refl _ _, Lib.hid fun i j hi => absurd hi (by omega)⟩
 case round =>
  obtain ⟨k, hk, rfl, hbw, hall⟩ := hrel
  by_cases hlt : k < n
  ·have hlt' : (k : Int) < n := by omega
   have hkc : (k : Int) ≤ c := by omega
   have hkc2 : k ≤ c := by omega
   have hk0 : (0 : Int) ≤ (k : Int) := by omega
   obtain ⟨g, q, rfl, hq, c0, c1, c2, c3, c4, c5, c6, c7, c8, c9, c10⟩ := HR.out.j hlt
   have hg := HL.out g rfl
   have C0 := (hbw.cell (p := ⟨g, k * 11, none⟩) hg).trans c0
   have C1 := (hbw.cell (p := ⟨g, k * 11 + 1, none⟩) hg).trans c1
   have C2 := (hbw.cell (p := ⟨g, k * 11 + 2, none⟩) hg).trans c2
   have C3 := (hbw.cell (p := ⟨g, k * 11 + 3, none⟩) hg).trans c3
   have C4 := (hbw.cell (p := ⟨g, k * 11 + 4, none⟩) hg).trans c4
   have C5 := (hbw.cell (p := ⟨g, k * 11 + 5, none⟩) hg).trans c5
   have C6 := (hbw.cell (p := ⟨g, k * 11 + 6, none⟩) hg).trans c6
   have C7 := (hbw.cell (p := ⟨g, k * 11 + 7, none⟩) hg).trans c7
   have C8 := (hbw.cell (p := ⟨g, k * 11 + 8, none⟩) hg).trans c8
   have C9 := (hbw.cell (p := ⟨g, k * 11 + 9, none⟩) hg).trans c9
   have C10 := (hbw.cell (p := ⟨g, k * 11 + 10, none⟩) hg).trans c10
   have hgr : g < wr.heap.size := Nat.lt_of_lt_of_le hg hbw.size
   have HQ := Lib.hid hq
   have HB := Lib.hid hbw
   clear hq hbw c0 c1 c2 c3 c4 c5 c6 c7 c8 c9 c10
   go_wp2_with fail
   refine (jobOk_raw q _).mono ?_
   rintro e w1 ⟨rfl, hb1⟩
   have hs1 := hb1.size
   (try simp at hs1)
   have hx1 := fun o => hb1.cell (p := ⟨wr.heap.size, o, none⟩) (by simp)
   have hxs : wr.heap.size < w1.heap.size := by omega
   have hxg := fun o => hb1.cell (p := ⟨g, o, none⟩) zOm
   have HB1 := Lib.hid (show Below wr.heap.size wr w1 from zBe)
   cases hok : q.okB
   ·have HF := Lib.hid (queue_job HQ.out hok)
    clear hok
    go_wp2
    go_ret
    exact ⟨zAj HF.out.symm, zAc HB.out HB1.out⟩
   ·have HOK := Lib.hid hok
    clear hok
    go_wp2_with fail
    refine (containsFuncJ_any (some ⟨g, 0, none⟩) k c (js.take k) 129 #[.pointer (some ⟨wr.heap.size, 0, none⟩)] (fun x => x.id == q.id) _ (by have := HN.out; omega) (((HR.out.below HL.out HB.out).below (zAi HL.out HB.out) HB1.out).takeJ (by omega)) (zAi (zAi HL.out HB.out) HB1.out) EG.out (fun x W hW => queueClos_any x wr.heap.size q.id W ((hW.cell (p := ⟨wr.heap.size, 0, none⟩) hxs).trans ((hx1 0).trans (by simp [go_sem]))) (Nat.lt_of_lt_of_le hxs hW.size))).mono ?_
    rintro e w2 ⟨rfl, hb2⟩
    have HB2 := Lib.hid (zAc HB1.out hb2)
    cases hany : (js.take k).any fun x => x.id == q.id
    ·have HA := Lib.hid (any_id hany)
     clear hany
     go_wp2
     go_roundw
     case rel => exact ⟨k + 1, by omega, by go_num, zAc HB.out HB2.out, Lib.hid (qAt_succ hall.out HQ.out HOK.out HA.out)⟩
     case measure => simp [intOf]; omega
    ·have HF : Hid (queueB js = false) := Lib.hid (by
      obtain ⟨i, y, hi, hy, he⟩ := any_dup hany
      exact queue_dup hi hy HQ.out he)
     clear hany
     go_wp2
     go_ret
     exact ⟨zAj HF.out.symm, zAc HB.out HB2.out⟩
  ·have hk9 : k = n := by omega
   subst hk9
   have HF := Lib.hid (queue_all HPL.out hall.out)
   clear hall
   go_wp2
   go_ret
   exact ⟨zAj (by rw [HF.out]; exact decide_eq_decide.2 (by omega)), hbw⟩
set_option maxHeartbeats 8000000 in
theorem squeueOk_any (A : Option Addr) (n c : Nat) (js : List J) (w : World) (hn : n ≤ 1048576) (hr : Rd w A n 11 (jflat js)) (hl : ∀ g, A = some ⟨g, 0, none⟩ → g < w.heap.size) :
  Calls Tryz.prog 59 #[.slice A n c] w fun e w' => e = .returned (.bool (queueB js)) ∧ Below w.heap.size w w' := by
 have hpl := hr.jlen
 have hm : n ≤ 9223372036854775807 := by omega
 have HN := Lib.hid hn
 have HR := Lib.hid hr
 have HL := Lib.hid hl
 have HPL := Lib.hid hpl
 clear hn hr hl hpl
 by_cases h60 : (n : Int) ≤ 60
 ·go_enter Tryz.func59, Tryz.ntmps59
  go_wp2
  go_loopw [11] (fun i wr => ∃ k : Nat, k ≤ n ∧ i = .int .i64 k ∧ Below w.heap.size w wr ∧ Hid (qAt js k)) (fun i _ => n - (intOf i).toNat)
  case atStart => exact ⟨0, Nat.zero_le _, rfl, Below.refl _ _, Lib.hid fun i j hi => absurd hi (by omega)⟩
  case round =>
  obtain ⟨k, hk, rfl, hbw, hall⟩ := hrel
  obtain ⟨wo, rfl⟩ : ∃ wo : World, wo = wr := ⟨_, rfl⟩
  by_cases hlt : k < n
  ·have hlt' : (k : Int) < n := by omega
   obtain ⟨g, q, rfl, hq, c0, c1, c2, c3, c4, c5, c6, c7, c8, c9, c10⟩ := HR.out.j hlt
   have hg := HL.out g rfl
   have C0 := (hbw.cell (p := ⟨g, k * 11, none⟩) hg).trans c0
   have C1 := (hbw.cell (p := ⟨g, k * 11 + 1, none⟩) hg).trans c1
   have C2 := (hbw.cell (p := ⟨g, k * 11 + 2, none⟩) hg).trans c2
   have C3 := (hbw.cell (p := ⟨g, k * 11 + 3, none⟩) hg).trans c3
   have C4 := (hbw.cell (p := ⟨g, k * 11 + 4, none⟩) hg).trans c4
   have C5 := (hbw.cell (p := ⟨g, k * 11 + 5, none⟩) hg).trans c5
   have C6 := (hbw.cell (p := ⟨g, k * 11 + 6, none⟩) hg).trans c6
   have C7 := (hbw.cell (p := ⟨g, k * 11 + 7, none⟩) hg).trans c7
   have C8 := (hbw.cell (p := ⟨g, k * 11 + 8, none⟩) hg).trans c8
   have C9 := (hbw.cell (p := ⟨g, k * 11 + 9, none⟩) hg).trans c9
   have C10 := (hbw.cell (p := ⟨g, k * 11 + 10, none⟩) hg).trans c10
   have hgr : g < wo.heap.size := Nat.lt_of_lt_of_le hg hbw.size
   have HQ := Lib.hid hq
   have HB := Lib.hid hbw
   clear hq hbw c0 c1 c2 c3 c4 c5 c6 c7 c8 c9 c10
   go_wp2_with fail
   refine (sjobOk_raw q _).mono ?_
   rintro e w1 ⟨rfl, hb1⟩
   have hs1 := hb1.size
   (try simp at hs1)
   have hx1 := fun o => hb1.cell (p := ⟨wo.heap.size, o, none⟩) (by simp)
   have hxs : wo.heap.size < w1.heap.size := by omega
   have hxg := fun o => hb1.cell (p := ⟨g, o, none⟩) zOm
   have HB1 := Lib.hid (show Below wo.heap.size wo w1 from zBe)
   cases hok : q.okB
   ·have HF := Lib.hid (queue_job HQ.out hok)
    clear hok
    go_wp2
    go_ret
    exact ⟨zAj HF.out.symm, zAc HB.out HB1.out⟩
   ·have HOK := Lib.hid hok
    clear hok
    have hxq := (hx1 0).trans (show _ = some (Value.int .i64 q.id) by simp [go_sem])
    have HXQ := Lib.hid hxq
    have HXS := Lib.hid hxs
    have HGS : Hid (g < w1.heap.size) := Lib.hid (by omega)
    clear hx1 hxg hxq
    go_wp2
    go_loopw [5] (fun v wi => ∃ i : Nat, i ≤ k ∧ v = .int .i64 i ∧ Below w1.heap.size w1 wi ∧ Hid (∀ h x, h < i → js[h]? = some x → x.id ≠ q.id)) (fun v _ => k - (intOf v).toNat)
    case atStart => exact ⟨0, Nat.zero_le _, rfl, Below.refl _ _, Lib.hid fun i j hi => absurd hi (by omega)⟩
    case round =>
    obtain ⟨i, hik, rfl, hbi, hin⟩ := hrel
    by_cases hlti : i < k
    ·have hlti' : (i : Int) < k := by omega
     have hltn : (i : Int) < n := by omega
     have hi0 : (0 : Int) ≤ (i : Int) := by omega
     obtain ⟨g2, q2, hg2, hq2, d0, _⟩ := HR.out.j (show i < n by omega)
     obtain rfl : g = g2 := by simpa using hg2
     have HB9 := Lib.hid (zAc (zAc HB.out HB1.out) hbi)
     have E0 := (HB9.out.cell (p := ⟨g, i * 11, none⟩) hg).trans d0
     have E1 := (hbi.cell (p := ⟨wo.heap.size, 0, none⟩) HXS.out).trans HXQ.out
     have HQ2 := Lib.hid hq2
     have HBI := Lib.hid hbi
     clear hg2 hq2 d0 hbi
     go_wp2
     go_quiet (fail)
     by_cases he : q2.id = q.id
     ·have HF := Lib.hid (queue_dup hlti HQ2.out HQ.out he)
      have he' : (q2.id == q.id) = true := by simp [he]
      clear he
      go_wp2
      go_ret
      exact ⟨zAj HF.out.symm, by have := HB9.out; repeat (first | exact Below.refl _ _ | assumption | (refine zAc ?_ (zAd _ _)) | exact zAc (by assumption) (by assumption) | (refine zAc ?_ (zAa _ _)) | (refine zAc ?_ (by assumption)) | (refine Below.setCell ?_ (by simp <;> omega) _) | refine Below.drew ?_)⟩
     ·have he' : (q2.id == q.id) = false := by simp [he]
      have HE := Lib.hid he
      clear he
      go_wp2
      go_roundw
      case rel =>
       refine ⟨i + 1, by omega, by go_num, by have := HBI.out; repeat (first | exact Below.refl _ _ | assumption | (refine zAc ?_ (zAd _ _)) | exact zAc (by assumption) (by assumption) | (refine zAc ?_ (zAa _ _)) | (refine zAc ?_ (by assumption)) | (refine Below.setCell ?_ (by simp <;> omega) _) | refine Below.drew ?_), Lib.hid fun h x hh hx => ?_⟩
       by_cases hhi : h < i
       ·exact hin.out h x hhi hx
       ·have : h = i := by omega
        subst this
        rw [HQ2.out] at hx
        rw [← Option.some.inj hx]; exact HE.out
      case measure => simp [intOf]; omega
    ·have hik9 : i = k := by omega
     subst hik9
     have HA := Lib.hid (qAt_succ hall.out HQ.out HOK.out hin.out)
     have HBI := Lib.hid hbi
     clear hbi
     go_wp2
     go_roundw
     case rel => exact ⟨i + 1, by omega, by go_num, zAc (zAc HB.out HB1.out) HBI.out, Lib.hid HA.out⟩
     case measure => simp [intOf]; omega
  ·have hk9 : k = n := by omega
   subst hk9
   have HF := Lib.hid ((queue_all HPL.out hall.out).trans (decide_eq_true (by omega)))
   go_wp2
   go_ret
   exact ⟨zAj HF.out.symm, hbw⟩
 ·have HF := Lib.hid (queue_len HPL.out (by omega))
  have h60' : (60 : Int) < n := by omega
  clear h60
  go_enter Tryz.func59, Tryz.ntmps59
  go_wp2
  go_ret
  exact ⟨zAj HF.out.symm, Below.refl _ _⟩
end Go.Proofs.YtnphjhbfpoekpaaGreat
