import Derived.Test.YtjnfdcojccgfoaaVb
import Derived.Test.YtjnfdcojccgfoaaNq
import Derived.Deep.RegionHeld3
import Derived.Deep.RegionWith
namespace Go.Proofs.Ytjnfdcojccgfoaa
set_option linter.unusedSimpArgs false
set_option linter.unusedVariables false
set_option linter.unnecessarySimpa false
open Go.RowKit
/-- A struct of a number and a vector: a point of a profile, a node. -/
structure Q where
  t : Int
  a : Int
  b : Int
  c : Int
def Q.cells (q : Q) : List Value := [.int .i64 q.t, .int .i64 q.a, .int .i64 q.b, .int .i64 q.c]
def flat (ps : List Q) : List Value := ps.flatMap Q.cells
theorem flat_len (ps : List Q) : (flat ps).length = ps.length * 4 := by
  induction ps with
  | nil => rfl
  | cons p ps ih => simp only [flat, List.flatMap_cons, List.length_append] at ih ⊢; rw [ih]; simp [Q.cells]; omega
theorem flat_get (ps : List Q) (k j : Nat) (q : Q) (hq : ps[k]? = some q) (hj : j < 4) : (flat ps)[k * 4 + j]? = q.cells[j]? := by
  induction ps generalizing k with
  | nil => simp at hq
  | cons p ps ih =>
    cases k with
    | zero =>
      simp at hq; subst hq
      simp only [flat, List.flatMap_cons, Nat.zero_mul, Nat.zero_add]
      rw [List.getElem?_append_left (by simp [Q.cells]; omega)]
    | succ k =>
      simp at hq
      simp only [flat, List.flatMap_cons]
      rw [List.getElem?_append_right (by simp [Q.cells]; omega)]
      have := ih k hq
      simp only [flat] at this
      rw [← this]
      congr 1
      simp [Q.cells]; omega
theorem Rd.q {w : World} {A : Option Addr} {n : Nat} {ps : List Q} (h : Rd w A n 4 (flat ps)) {k : Nat} (hk : k < n) : ∃ g q, A = some ⟨g, 0, none⟩ ∧ ps[k]? = some q ∧
    w.cell? ⟨g, k * 4, none⟩ = some (.int .i64 q.t) ∧ w.cell? ⟨g, k * 4 + 1, none⟩ = some (.int .i64 q.a) ∧ w.cell? ⟨g, k * 4 + 2, none⟩ = some (.int .i64 q.b) ∧ w.cell? ⟨g, k * 4 + 3, none⟩ = some (.int .i64 q.c) := by
  obtain ⟨g, rfl, hc⟩ := h.2 (by omega)
  have hl : k < ps.length := by
    have := h.1
    rw [flat_len] at this
    omega
  have hq : ps[k]? = some ps[k] := List.getElem?_eq_getElem hl
  refine ⟨g, ps[k], rfl, hq, ?_, ?_, ?_, ?_⟩
  · exact hc _ _ (by have := flat_get ps k 0 _ hq (by omega); simpa [Q.cells] using this)
  · exact hc _ _ (by have := flat_get ps k 1 _ hq (by omega); simpa [Q.cells] using this)
  · exact hc _ _ (by have := flat_get ps k 2 _ hq (by omega); simpa [Q.cells] using this)
  · exact hc _ _ (by have := flat_get ps k 3 _ hq (by omega); simpa [Q.cells] using this)
theorem eqVec_int (x y z : Int) (w : World) : Calls Try.prog 48 #[.agg #[.int .i64 x, .int .i64 y, .int .i64 z], .agg #[.int .i64 x, .int .i64 y, .int .i64 z]] w fun e w' => e = .returned (.bool true) ∧ Below w.heap.size w w' := by
  have := eqVec_raw ⟨x, y, z⟩ ⟨x, y, z⟩ w
  simpa [V.eqB] using this

set_option maxHeartbeats 1000000 in
theorem eqPt_any (q : Q) (w : World) :
    Calls Try.prog 163 #[.agg #[.int .i64 q.t, .int .i64 q.a, .int .i64 q.b, .int .i64 q.c], .agg #[.int .i64 q.t, .int .i64 q.a, .int .i64 q.b, .int .i64 q.c]] w fun e w' => e = .returned (.bool true) ∧ Below w.heap.size w w' := by
  go_enter Try.func163, Try.ntmps163
  go_wp2_with (go_at_call 48; refine (eqVec_int _ _ _ _).mono ?_; rintro e w1 ⟨rfl, hb1⟩; obtain ⟨hc1, hf1⟩ := bcell hb1; have hs1 := hb1.size; (try simp at hs1); have hy10 : w.heap.size < w1.heap.size := (by omega); have hk10 := fun o => hc1 (w.heap.size) o (by first | omega | (simp <;> omega)); have hg10 := fun o => hf1 (w.heap.size) o (by first | omega | (simp <;> omega)); have hy11 : w.heap.size + 1 < w1.heap.size := (by omega); have hk11 := fun o => hc1 (w.heap.size + 1) o (by first | omega | (simp <;> omega)); have hg11 := fun o => hf1 (w.heap.size + 1) o (by first | omega | (simp <;> omega)); clear hc1 hf1)
  all_goals go_ret
  all_goals exact ⟨rfl, (by repeat (first | exact Below.refl _ _ | (refine bstep ?_ (below_alloc _ _)) | (refine bstep ?_ (by assumption)) | (refine Below.setCell ?_ (by simp <;> omega) _) | refine Below.drew ?_))⟩

set_option maxHeartbeats 1000000 in
theorem eqNode_any (q : Q) (w : World) :
    Calls Try.prog 168 #[.agg #[.int .i64 q.t, .int .i64 q.a, .int .i64 q.b, .int .i64 q.c], .agg #[.int .i64 q.t, .int .i64 q.a, .int .i64 q.b, .int .i64 q.c]] w fun e w' => e = .returned (.bool true) ∧ Below w.heap.size w w' := by
  go_enter Try.func168, Try.ntmps168
  go_wp2_with (go_at_call 48; refine (eqVec_int _ _ _ _).mono ?_; rintro e w1 ⟨rfl, hb1⟩; obtain ⟨hc1, hf1⟩ := bcell hb1; have hs1 := hb1.size; (try simp at hs1); have hy10 : w.heap.size < w1.heap.size := (by omega); have hk10 := fun o => hc1 (w.heap.size) o (by first | omega | (simp <;> omega)); have hg10 := fun o => hf1 (w.heap.size) o (by first | omega | (simp <;> omega)); have hy11 : w.heap.size + 1 < w1.heap.size := (by omega); have hk11 := fun o => hc1 (w.heap.size + 1) o (by first | omega | (simp <;> omega)); have hg11 := fun o => hf1 (w.heap.size + 1) o (by first | omega | (simp <;> omega)); clear hc1 hf1)
  all_goals go_ret
  all_goals exact ⟨rfl, (by repeat (first | exact Below.refl _ _ | (refine bstep ?_ (below_alloc _ _)) | (refine bstep ?_ (by assumption)) | (refine Below.setCell ?_ (by simp <;> omega) _) | refine Below.drew ?_))⟩

set_option maxHeartbeats 1000000 in
theorem eqPtS_any (A A' : Option Addr) (n c c' : Nat) (ps : List Q) (w : World) (hn : n ≤ 1048577) (ha : Rd w A n 4 (flat ps)) (hb : Rd w A' n 4 (flat ps)) (hl : ∀ g, A = some ⟨g, 0, none⟩ → g < w.heap.size) (hl' : ∀ g, A' = some ⟨g, 0, none⟩ → g < w.heap.size) :
    Calls Try.prog 107 #[.slice A n c, .slice A' n c'] w fun e w' => e = .returned (.bool true) ∧ Below w.heap.size w w' := by
  have hm : n ≤ 9223372036854775807 := by omega
  clear hn
  have HA := Lib.hid ha
  have HB := Lib.hid hb
  have HL := Lib.hid hl
  have HL' := Lib.hid hl'
  clear ha hb hl hl'
  go_enter Try.func107, Try.ntmps107
  go_wp2
  go_loopw [5] (fun i wr => ∃ k : Nat, k ≤ n ∧ i = .int .i64 k ∧ Below w.heap.size w wr) (fun i _ => n - (intOf i).toNat)
  case atStart => exact ⟨0, Nat.zero_le _, rfl, Below.refl _ _⟩
  case round =>
    obtain ⟨k, hk, rfl, hbw⟩ := hrel
    by_cases hlt : k < n
    · obtain ⟨g, q, rfl, hq, c0, c1, c2, c3⟩ := HA.out.q hlt
      obtain ⟨g', q', rfl, hq', d0, d1, d2, d3⟩ := HB.out.q hlt
      obtain rfl : q = q' := by rw [hq] at hq'; exact Option.some.inj hq'
      have hg := HL.out g rfl
      have hg' := HL'.out g' rfl
      have C0 := (hbw.cell (p := ⟨g, k * 4, none⟩) hg).trans c0
      have C1 := (hbw.cell (p := ⟨g, k * 4 + 1, none⟩) hg).trans c1
      have C2 := (hbw.cell (p := ⟨g, k * 4 + 2, none⟩) hg).trans c2
      have C3 := (hbw.cell (p := ⟨g, k * 4 + 3, none⟩) hg).trans c3
      have D0 := (hbw.cell (p := ⟨g', k * 4, none⟩) hg').trans d0
      have D1 := (hbw.cell (p := ⟨g', k * 4 + 1, none⟩) hg').trans d1
      have D2 := (hbw.cell (p := ⟨g', k * 4 + 2, none⟩) hg').trans d2
      have D3 := (hbw.cell (p := ⟨g', k * 4 + 3, none⟩) hg').trans d3
      have hgr : g < wr.heap.size := Nat.lt_of_lt_of_le hg hbw.size
      have hgr' : g' < wr.heap.size := Nat.lt_of_lt_of_le hg' hbw.size
      clear hq hq' c0 c1 c2 c3 d0 d1 d2 d3 HA HB HL HL'
      have hlt' : (k : Int) < n := by omega
      go_wp2
      go_region_held3 (fun w' => w'.cell? ⟨g, k * 4, none⟩ = some (.int .i64 q.t) ∧ w'.cell? ⟨g, k * 4 + 1, none⟩ = some (.int .i64 q.a) ∧ w'.cell? ⟨g, k * 4 + 2, none⟩ = some (.int .i64 q.b) ∧ w'.cell? ⟨g, k * 4 + 3, none⟩ = some (.int .i64 q.c) ∧ w'.cell? ⟨g', k * 4, none⟩ = some (.int .i64 q.t) ∧ w'.cell? ⟨g', k * 4 + 1, none⟩ = some (.int .i64 q.a) ∧ w'.cell? ⟨g', k * 4 + 2, none⟩ = some (.int .i64 q.b) ∧ w'.cell? ⟨g', k * 4 + 3, none⟩ = some (.int .i64 q.c)) (simp [go_sem, *, World.cell?_alloc_some, World.cell?_setCell_far, Nat.lt_add_right, Nat.ne_of_gt]) (first | (go_at_call 163; refine (eqPt_any q _).mono ?_; rintro e w1 ⟨rfl, hb1⟩; have hk0 := fun o => hb1.cell (p := ⟨g, o, none⟩) (by simpa using hgr); have hk1 := fun o => hb1.cell (p := ⟨g', o, none⟩) (by simpa using hgr')))
      all_goals go_wp2
      all_goals exact ⟨⟨k + 1, by omega, by go_num, hbw.drew.trans (hb1.mono (by simpa using hbw.size))⟩, by simp [intOf]; omega⟩
    · go_wp2
      go_ret
      exact ⟨rfl, hbw⟩

set_option maxHeartbeats 1000000 in
theorem eqNodeS_any (A A' : Option Addr) (n c c' : Nat) (ps : List Q) (w : World) (hn : n ≤ 1048577) (ha : Rd w A n 4 (flat ps)) (hb : Rd w A' n 4 (flat ps)) (hl : ∀ g, A = some ⟨g, 0, none⟩ → g < w.heap.size) (hl' : ∀ g, A' = some ⟨g, 0, none⟩ → g < w.heap.size) :
    Calls Try.prog 134 #[.slice A n c, .slice A' n c'] w fun e w' => e = .returned (.bool true) ∧ Below w.heap.size w w' := by
  have hm : n ≤ 9223372036854775807 := by omega
  clear hn
  have HA := Lib.hid ha
  have HB := Lib.hid hb
  have HL := Lib.hid hl
  have HL' := Lib.hid hl'
  clear ha hb hl hl'
  go_enter Try.func134, Try.ntmps134
  go_wp2
  go_loopw [5] (fun i wr => ∃ k : Nat, k ≤ n ∧ i = .int .i64 k ∧ Below w.heap.size w wr) (fun i _ => n - (intOf i).toNat)
  case atStart => exact ⟨0, Nat.zero_le _, rfl, Below.refl _ _⟩
  case round =>
    obtain ⟨k, hk, rfl, hbw⟩ := hrel
    by_cases hlt : k < n
    · obtain ⟨g, q, rfl, hq, c0, c1, c2, c3⟩ := HA.out.q hlt
      obtain ⟨g', q', rfl, hq', d0, d1, d2, d3⟩ := HB.out.q hlt
      obtain rfl : q = q' := by rw [hq] at hq'; exact Option.some.inj hq'
      have hg := HL.out g rfl
      have hg' := HL'.out g' rfl
      have C0 := (hbw.cell (p := ⟨g, k * 4, none⟩) hg).trans c0
      have C1 := (hbw.cell (p := ⟨g, k * 4 + 1, none⟩) hg).trans c1
      have C2 := (hbw.cell (p := ⟨g, k * 4 + 2, none⟩) hg).trans c2
      have C3 := (hbw.cell (p := ⟨g, k * 4 + 3, none⟩) hg).trans c3
      have D0 := (hbw.cell (p := ⟨g', k * 4, none⟩) hg').trans d0
      have D1 := (hbw.cell (p := ⟨g', k * 4 + 1, none⟩) hg').trans d1
      have D2 := (hbw.cell (p := ⟨g', k * 4 + 2, none⟩) hg').trans d2
      have D3 := (hbw.cell (p := ⟨g', k * 4 + 3, none⟩) hg').trans d3
      have hgr : g < wr.heap.size := Nat.lt_of_lt_of_le hg hbw.size
      have hgr' : g' < wr.heap.size := Nat.lt_of_lt_of_le hg' hbw.size
      clear hq hq' c0 c1 c2 c3 d0 d1 d2 d3 HA HB HL HL'
      have hlt' : (k : Int) < n := by omega
      go_wp2
      go_region_held3 (fun w' => w'.cell? ⟨g, k * 4, none⟩ = some (.int .i64 q.t) ∧ w'.cell? ⟨g, k * 4 + 1, none⟩ = some (.int .i64 q.a) ∧ w'.cell? ⟨g, k * 4 + 2, none⟩ = some (.int .i64 q.b) ∧ w'.cell? ⟨g, k * 4 + 3, none⟩ = some (.int .i64 q.c) ∧ w'.cell? ⟨g', k * 4, none⟩ = some (.int .i64 q.t) ∧ w'.cell? ⟨g', k * 4 + 1, none⟩ = some (.int .i64 q.a) ∧ w'.cell? ⟨g', k * 4 + 2, none⟩ = some (.int .i64 q.b) ∧ w'.cell? ⟨g', k * 4 + 3, none⟩ = some (.int .i64 q.c)) (simp [go_sem, *, World.cell?_alloc_some, World.cell?_setCell_far, Nat.lt_add_right, Nat.ne_of_gt]) (first | (go_at_call 168; refine (eqNode_any q _).mono ?_; rintro e w1 ⟨rfl, hb1⟩; have hk0 := fun o => hb1.cell (p := ⟨g, o, none⟩) (by simpa using hgr); have hk1 := fun o => hb1.cell (p := ⟨g', o, none⟩) (by simpa using hgr')))
      all_goals go_wp2
      all_goals exact ⟨⟨k + 1, by omega, by go_num, hbw.drew.trans (hb1.mono (by simpa using hbw.size))⟩, by simp [intOf]; omega⟩
    · go_wp2
      go_ret
      exact ⟨rfl, hbw⟩
end Go.Proofs.Ytjnfdcojccgfoaa
