/-
  Jobs compared.
-/
import Derived.Test.YtjnfdcojccgfoaaJa
namespace Go.Proofs.Ytjnfdcojccgfoaa
set_option linter.unusedSimpArgs false
set_option linter.unusedVariables false
set_option linter.unnecessarySimpa false
open Go.RowKit

set_option maxHeartbeats 4000000 in
theorem eqJob_any (j : J) (w : World) :
    Calls Try.prog 115 #[.agg #[.int .i64 j.id, .int .i64 j.pr, .int .i64 j.nn, .int .i64 j.na, .int .i64 j.nb, .int .i64 j.nc, .int .i64 j.la, .int .i64 j.lb, .int .i64 j.lc, .int .i64 j.wl, .int .i64 j.lv], .agg #[.int .i64 j.id, .int .i64 j.pr, .int .i64 j.nn, .int .i64 j.na, .int .i64 j.nb, .int .i64 j.nc, .int .i64 j.la, .int .i64 j.lb, .int .i64 j.lc, .int .i64 j.wl, .int .i64 j.lv]] w fun e w' => e = .returned (.bool true) ∧ Below w.heap.size w w' := by
  go_enter Try.func115, Try.ntmps115
  go_wp2_with fail
  refine (eqVec_int _ _ _ _).mono ?_
  rintro e w1 ⟨rfl, hb1⟩
  have hs1 := hb1.size
  (try simp at hs1)
  have hy10 : w.heap.size < w1.heap.size := by omega
  have hy11 : w.heap.size + 1 < w1.heap.size := by omega
  have hk10 := fun o => hb1.cell (p := ⟨w.heap.size, o, none⟩) (by first | omega | (simp <;> omega))
  have hk11 := fun o => hb1.cell (p := ⟨w.heap.size + 1, o, none⟩) (by first | omega | (simp <;> omega))
  go_wp2_with fail
  refine (eqVec_int _ _ _ _).mono ?_
  rintro e w2 ⟨rfl, hb2⟩
  have hs2 := hb2.size
  (try simp at hs2)
  have hy20 : w.heap.size < w2.heap.size := by omega
  have hy21 : w.heap.size + 1 < w2.heap.size := by omega
  have hk20 := fun o => hb2.cell (p := ⟨w.heap.size, o, none⟩) (by first | omega | (simp <;> omega))
  have hk21 := fun o => hb2.cell (p := ⟨w.heap.size + 1, o, none⟩) (by first | omega | (simp <;> omega))
  go_wp2
  go_ret
  exact ⟨rfl, (by repeat (first | exact Below.refl _ _ | assumption | (refine bstep ?_ (below_drewN _ _)) | exact bstep (by assumption) (by assumption) | (refine bstep ?_ (below_alloc _ _)) | (refine bstep ?_ (by assumption)) | (refine Below.setCell ?_ (by simp <;> omega) _) | refine Below.drew ?_))⟩

set_option maxHeartbeats 8000000 in
theorem eqJobS_any (A A' : Option Addr) (n c c' : Nat) (js : List J) (w : World) (hn : n ≤ 1048577) (ha : Rd w A n 11 (jflat js)) (hb : Rd w A' n 11 (jflat js)) (hl : ∀ g, A = some ⟨g, 0, none⟩ → g < w.heap.size) (hl' : ∀ g, A' = some ⟨g, 0, none⟩ → g < w.heap.size) :
    Calls Try.prog 43 #[.slice A n c, .slice A' n c'] w fun e w' => e = .returned (.bool true) ∧ Below w.heap.size w w' := by
  have hm : n ≤ 9223372036854775807 := by omega
  clear hn
  have HA := Lib.hid ha
  have HB := Lib.hid hb
  have HL := Lib.hid hl
  have HL' := Lib.hid hl'
  clear ha hb hl hl'
  go_enter Try.func43, Try.ntmps43
  go_wp2
  go_loopw [5] (fun i wr => ∃ k : Nat, k ≤ n ∧ i = .int .i64 k ∧ Below w.heap.size w wr) (fun i _ => n - (intOf i).toNat)
  case atStart => exact ⟨0, Nat.zero_le _, rfl, Below.refl _ _⟩
  case round =>
    obtain ⟨k, hk, rfl, hbw⟩ := hrel
    by_cases hlt : k < n
    · obtain ⟨g, q, rfl, hq, c0, c1, c2, c3, c4, c5, c6, c7, c8, c9, c10⟩ := HA.out.j hlt
      obtain ⟨g', q', rfl, hq', d0, d1, d2, d3, d4, d5, d6, d7, d8, d9, d10⟩ := HB.out.j hlt
      obtain rfl : q = q' := by rw [hq] at hq'; exact Option.some.inj hq'
      have hg := HL.out g rfl
      have hg' := HL'.out g' rfl
      have C0 := (hbw.cell (p := ⟨g, k * 11, none⟩) hg).trans c0
      have C1 := (hbw.cell (p := ⟨g, k * 11 + 1, none⟩) hg).trans c1
      have C2 := (hbw.cell (p := ⟨g, k * 11 + 2, none⟩) hg).trans c2
      have C3 := (hbw.cell (p := ⟨g, k * 11 + 3, none⟩) hg).trans c3
      have C4 := (hbw.cell (p := ⟨g, k * 11 + 4, none⟩) hg).trans c4
      have C5 := (hbw.cell (p := ⟨g, k * 11 + 5, none⟩) hg).trans c5
      have C6 := (hbw.cell (p := ⟨g, k * 11 + 6, none⟩) hg).trans c6
      have C7 := (hbw.cell (p := ⟨g, k * 11 + 7, none⟩) hg).trans c7
      have C8 := (hbw.cell (p := ⟨g, k * 11 + 8, none⟩) hg).trans c8
      have C9 := (hbw.cell (p := ⟨g, k * 11 + 9, none⟩) hg).trans c9
      have C10 := (hbw.cell (p := ⟨g, k * 11 + 10, none⟩) hg).trans c10
      have D0 := (hbw.cell (p := ⟨g', k * 11, none⟩) hg').trans d0
      have D1 := (hbw.cell (p := ⟨g', k * 11 + 1, none⟩) hg').trans d1
      have D2 := (hbw.cell (p := ⟨g', k * 11 + 2, none⟩) hg').trans d2
      have D3 := (hbw.cell (p := ⟨g', k * 11 + 3, none⟩) hg').trans d3
      have D4 := (hbw.cell (p := ⟨g', k * 11 + 4, none⟩) hg').trans d4
      have D5 := (hbw.cell (p := ⟨g', k * 11 + 5, none⟩) hg').trans d5
      have D6 := (hbw.cell (p := ⟨g', k * 11 + 6, none⟩) hg').trans d6
      have D7 := (hbw.cell (p := ⟨g', k * 11 + 7, none⟩) hg').trans d7
      have D8 := (hbw.cell (p := ⟨g', k * 11 + 8, none⟩) hg').trans d8
      have D9 := (hbw.cell (p := ⟨g', k * 11 + 9, none⟩) hg').trans d9
      have D10 := (hbw.cell (p := ⟨g', k * 11 + 10, none⟩) hg').trans d10
      have hgr : g < wr.heap.size := Nat.lt_of_lt_of_le hg hbw.size
      have hgr' : g' < wr.heap.size := Nat.lt_of_lt_of_le hg' hbw.size
      clear hq hq' c0 c1 c2 c3 c4 c5 c6 c7 c8 c9 c10 d0 d1 d2 d3 d4 d5 d6 d7 d8 d9 d10 HA HB HL HL'
      have hlt' : (k : Int) < n := by omega
      go_wp2
      go_region_held3 (fun w' => w'.cell? ⟨g, k * 11, none⟩ = some (.int .i64 q.id) ∧ w'.cell? ⟨g, k * 11 + 1, none⟩ = some (.int .i64 q.pr) ∧ w'.cell? ⟨g, k * 11 + 2, none⟩ = some (.int .i64 q.nn) ∧ w'.cell? ⟨g, k * 11 + 3, none⟩ = some (.int .i64 q.na) ∧ w'.cell? ⟨g, k * 11 + 4, none⟩ = some (.int .i64 q.nb) ∧ w'.cell? ⟨g, k * 11 + 5, none⟩ = some (.int .i64 q.nc) ∧ w'.cell? ⟨g, k * 11 + 6, none⟩ = some (.int .i64 q.la) ∧ w'.cell? ⟨g, k * 11 + 7, none⟩ = some (.int .i64 q.lb) ∧ w'.cell? ⟨g, k * 11 + 8, none⟩ = some (.int .i64 q.lc) ∧ w'.cell? ⟨g, k * 11 + 9, none⟩ = some (.int .i64 q.wl) ∧ w'.cell? ⟨g, k * 11 + 10, none⟩ = some (.int .i64 q.lv) ∧ w'.cell? ⟨g', k * 11, none⟩ = some (.int .i64 q.id) ∧ w'.cell? ⟨g', k * 11 + 1, none⟩ = some (.int .i64 q.pr) ∧ w'.cell? ⟨g', k * 11 + 2, none⟩ = some (.int .i64 q.nn) ∧ w'.cell? ⟨g', k * 11 + 3, none⟩ = some (.int .i64 q.na) ∧ w'.cell? ⟨g', k * 11 + 4, none⟩ = some (.int .i64 q.nb) ∧ w'.cell? ⟨g', k * 11 + 5, none⟩ = some (.int .i64 q.nc) ∧ w'.cell? ⟨g', k * 11 + 6, none⟩ = some (.int .i64 q.la) ∧ w'.cell? ⟨g', k * 11 + 7, none⟩ = some (.int .i64 q.lb) ∧ w'.cell? ⟨g', k * 11 + 8, none⟩ = some (.int .i64 q.lc) ∧ w'.cell? ⟨g', k * 11 + 9, none⟩ = some (.int .i64 q.wl) ∧ w'.cell? ⟨g', k * 11 + 10, none⟩ = some (.int .i64 q.lv)) (simp [go_sem, *, World.cell?_alloc_some, World.cell?_setCell_far, Nat.lt_add_right, Nat.ne_of_gt]) (first | (go_at_call 115; refine (eqJob_any q _).mono ?_; rintro e w1 ⟨rfl, hb1⟩; have hk0 := fun o => hb1.cell (p := ⟨g, o, none⟩) (by simpa using hgr); have hk1 := fun o => hb1.cell (p := ⟨g', o, none⟩) (by simpa using hgr')))
      all_goals go_wp2
      all_goals exact ⟨⟨k + 1, by omega, by go_num, hbw.drew.trans (hb1.mono (by simpa using hbw.size))⟩, by simp [intOf]; omega⟩
    · go_wp2
      go_ret
      exact ⟨rfl, hbw⟩
end Go.Proofs.Ytjnfdcojccgfoaa
