import Derived.Test.YtjnfdcojccgfoaaPf
import Derived.Test.YtjnfdcojccgfoaaPg
namespace Go.Proofs.Ytjnfdcojccgfoaa
set_option linter.unusedSimpArgs false
set_option linter.unusedVariables false
set_option linter.unnecessarySimpa false
open Go.RowKit
theorem foldl_step {α β : Type} (f : β → α → β) (b : β) {l : List α} {k : Nat} {x : α} (h : l[k]? = some x) : (l.take (k + 1)).foldl f b = f ((l.take k).foldl f b) x := by
  rw [List.take_add_one, h]; simp
theorem take_all {α : Type} {l : List α} {k : Nat} (h : l.length = k) : l.take k = l := List.take_of_length_le (by omega)

set_option maxHeartbeats 4000000 in
theorem free_any (A : Option Addr) (n c : Nat) (ps : List Q) (t : Int) (w : World) (hn : n ≤ 1048576) (hr : Rd w A n 4 (flat ps)) (hl : ∀ g, A = some ⟨g, 0, none⟩ → g < w.heap.size) :
    Calls Try.prog 118 #[.agg #[.slice A n c], .int .i64 t] w fun e w' => e = .returned (.agg #[.int .i64 (freeV t ps).A, .int .i64 (freeV t ps).B, .int .i64 (freeV t ps).C]) ∧ Below w.heap.size w w' := by
  have hpl : ps.length = n := by have := hr.1; rw [flat_len] at this; omega
  have hm : n ≤ 9223372036854775807 := by omega
  have HN := Lib.hid hn
  have HR := Lib.hid hr
  have HL := Lib.hid hl
  have HP := Lib.hid hpl
  clear hn hr hl hpl
  go_enter Try.func118, Try.ntmps118
  go_wp2_with fail
  go_loopw [12] (fun i wr => ∃ k : Nat, k ≤ n ∧ i = .int .i64 k ∧ Below w.heap.size w wr ∧ w.heap.size + 1 + 1 < wr.heap.size ∧ wr.cell? ⟨w.heap.size + 1 + 1, 0, none⟩ = some (.int .i64 ((ps.take k).foldl (freeF t) V.zero).A) ∧ wr.cell? ⟨w.heap.size + 1 + 1, 1, none⟩ = some (.int .i64 ((ps.take k).foldl (freeF t) V.zero).B) ∧ wr.cell? ⟨w.heap.size + 1 + 1, 2, none⟩ = some (.int .i64 ((ps.take k).foldl (freeF t) V.zero).C) ∧ wr.frozen? ⟨w.heap.size + 1 + 1, 0, none⟩ = false ∧ wr.frozen? ⟨w.heap.size + 1 + 1, 1, none⟩ = false ∧ wr.frozen? ⟨w.heap.size + 1 + 1, 2, none⟩ = false ∧ wr.frozen? ⟨w.heap.size + 1, 0, none⟩ = false ∧ wr.frozen? ⟨w.heap.size + 1, 1, none⟩ = false ∧ wr.frozen? ⟨w.heap.size + 1, 2, none⟩ = false ∧ wr.cell? ⟨w.heap.size + 1, 0, none⟩ = some (.int .i64 0) ∧ wr.cell? ⟨w.heap.size + 1, 1, none⟩ = some (.int .i64 0) ∧ wr.cell? ⟨w.heap.size + 1, 2, none⟩ = some (.int .i64 0)) (fun i _ => n - (intOf i).toNat)
  case atStart => refine ⟨0, Nat.zero_le _, rfl, (by repeat (first | exact Below.refl _ _ | assumption | exact bstep (by assumption) (by assumption) | (refine bstep ?_ (below_alloc _ _)) | (refine bstep ?_ (by assumption)) | (refine Below.setCell ?_ (by simp <;> omega) _) | refine Below.drew ?_)), ?_⟩; (simp [go_sem, V.zero])
  case round =>
    obtain ⟨k, hk, rfl, hbw, hsz, v0, v1, v2, f0, f1, f2, f3, f4, f5, r0, r1, r2⟩ := hrel
    have hsz1 : w.heap.size + 1 < wr.heap.size := by omega
    by_cases hlt : k < n
    · have hlt' : (k : Int) < n := by omega
      obtain ⟨g, q, rfl, hq, d0, d1, d2, d3⟩ := HR.out.q hlt
      have hg := HL.out g rfl
      have D0 := (hbw.cell (p := ⟨g, k * 4, none⟩) hg).trans d0
      have D1 := (hbw.cell (p := ⟨g, k * 4 + 1, none⟩) hg).trans d1
      have D2 := (hbw.cell (p := ⟨g, k * 4 + 2, none⟩) hg).trans d2
      have D3 := (hbw.cell (p := ⟨g, k * 4 + 3, none⟩) hg).trans d3
      have hgr : g < wr.heap.size := Nat.lt_of_lt_of_le hg hbw.size
      have hst := foldl_step (freeF t) V.zero hq
      have HS := Lib.hid hst
      have HB := Lib.hid hbw
      clear d0 d1 d2 d3 hst hq hbw
      by_cases hle : q.t ≤ t
      · have hfr : freeF t ((ps.take k).foldl (freeF t) V.zero) q = q.v := if_pos hle
        have HF := Lib.hid hfr
        clear hfr
        go_wp2
        go_roundw
        case rel =>
          refine ⟨k + 1, by omega, by go_num, ?_, ?_⟩
          · have := HB.out; repeat (first | exact Below.refl _ _ | assumption | exact bstep (by assumption) (by assumption) | (refine bstep ?_ (below_alloc _ _)) | (refine bstep ?_ (by assumption)) | (refine Below.setCell ?_ (by simp <;> omega) _) | refine Below.drew ?_)
          · rw [HS.out, HF.out]; simp [go_sem, Q.v, *]
        case measure => simp [intOf]; omega
      · have hfr : freeF t ((ps.take k).foldl (freeF t) V.zero) q = (ps.take k).foldl (freeF t) V.zero := if_neg hle
        have hle' : t < q.t := by omega
        have HF := Lib.hid hfr
        clear hfr hle
        go_wp2
        go_roundw
        case rel =>
          refine ⟨k + 1, by omega, by go_num, ?_, ?_⟩
          · have := HB.out; repeat (first | exact Below.refl _ _ | assumption | exact bstep (by assumption) (by assumption) | (refine bstep ?_ (below_alloc _ _)) | (refine bstep ?_ (by assumption)) | (refine Below.setCell ?_ (by simp <;> omega) _) | refine Below.drew ?_)
          · rw [HS.out, HF.out]; simp [go_sem, *]
        case measure => simp [intOf]; omega
    · have hk9 : k = n := by omega
      subst hk9
      rw [take_all HP.out] at v0 v1 v2
      have HB := Lib.hid hbw
      clear hbw
      go_wp2
      (try go_light)
      refine bodyPost_ret (v := .agg #[.int .i64 (freeV t ps).A, .int .i64 (freeV t ps).B, .int .i64 (freeV t ps).C]) (by simp [results, Try.results118, go_sem, freeV, *]) rfl ⟨rfl, ?_⟩
      have := HB.out; repeat (first | exact Below.refl _ _ | assumption | exact bstep (by assumption) (by assumption) | (refine bstep ?_ (below_alloc _ _)) | (refine bstep ?_ (by assumption)) | (refine Below.setCell ?_ (by simp <;> omega) _) | refine Below.drew ?_)

set_option maxHeartbeats 4000000 in
theorem sfree_any (A : Option Addr) (n c : Nat) (ps : List Q) (t : Int) (w : World) (hn : n ≤ 1048576) (hr : Rd w A n 4 (flat ps)) (hl : ∀ g, A = some ⟨g, 0, none⟩ → g < w.heap.size) :
    Calls Try.prog 117 #[.agg #[.slice A n c], .int .i64 t] w fun e w' => e = .returned (.agg #[.int .i64 (freeV t ps).A, .int .i64 (freeV t ps).B, .int .i64 (freeV t ps).C]) ∧ Below w.heap.size w w' := by
  have hpl : ps.length = n := by have := hr.1; rw [flat_len] at this; omega
  have hm : n ≤ 9223372036854775807 := by omega
  have HN := Lib.hid hn
  have HR := Lib.hid hr
  have HL := Lib.hid hl
  have HP := Lib.hid hpl
  clear hn hr hl hpl
  go_enter Try.func117, Try.ntmps117
  go_wp2_with fail
  go_loopw [12] (fun i wr => ∃ k : Nat, k ≤ n ∧ i = .int .i64 k ∧ Below w.heap.size w wr ∧ w.heap.size + 1 + 1 < wr.heap.size ∧ wr.cell? ⟨w.heap.size + 1 + 1, 0, none⟩ = some (.int .i64 ((ps.take k).foldl (freeF t) V.zero).A) ∧ wr.cell? ⟨w.heap.size + 1 + 1, 1, none⟩ = some (.int .i64 ((ps.take k).foldl (freeF t) V.zero).B) ∧ wr.cell? ⟨w.heap.size + 1 + 1, 2, none⟩ = some (.int .i64 ((ps.take k).foldl (freeF t) V.zero).C) ∧ wr.frozen? ⟨w.heap.size + 1 + 1, 0, none⟩ = false ∧ wr.frozen? ⟨w.heap.size + 1 + 1, 1, none⟩ = false ∧ wr.frozen? ⟨w.heap.size + 1 + 1, 2, none⟩ = false ∧ wr.frozen? ⟨w.heap.size + 1, 0, none⟩ = false ∧ wr.frozen? ⟨w.heap.size + 1, 1, none⟩ = false ∧ wr.frozen? ⟨w.heap.size + 1, 2, none⟩ = false ∧ wr.cell? ⟨w.heap.size + 1, 0, none⟩ = some (.int .i64 0) ∧ wr.cell? ⟨w.heap.size + 1, 1, none⟩ = some (.int .i64 0) ∧ wr.cell? ⟨w.heap.size + 1, 2, none⟩ = some (.int .i64 0)) (fun i _ => n - (intOf i).toNat)
  case atStart => refine ⟨0, Nat.zero_le _, rfl, (by repeat (first | exact Below.refl _ _ | assumption | exact bstep (by assumption) (by assumption) | (refine bstep ?_ (below_alloc _ _)) | (refine bstep ?_ (by assumption)) | (refine Below.setCell ?_ (by simp <;> omega) _) | refine Below.drew ?_)), ?_⟩; (simp [go_sem, V.zero])
  case round =>
    obtain ⟨k, hk, rfl, hbw, hsz, v0, v1, v2, f0, f1, f2, f3, f4, f5, r0, r1, r2⟩ := hrel
    have hsz1 : w.heap.size + 1 < wr.heap.size := by omega
    by_cases hlt : k < n
    · have hlt' : (k : Int) < n := by omega
      obtain ⟨g, q, rfl, hq, d0, d1, d2, d3⟩ := HR.out.q hlt
      have hg := HL.out g rfl
      have D0 := (hbw.cell (p := ⟨g, k * 4, none⟩) hg).trans d0
      have D1 := (hbw.cell (p := ⟨g, k * 4 + 1, none⟩) hg).trans d1
      have D2 := (hbw.cell (p := ⟨g, k * 4 + 2, none⟩) hg).trans d2
      have D3 := (hbw.cell (p := ⟨g, k * 4 + 3, none⟩) hg).trans d3
      have hgr : g < wr.heap.size := Nat.lt_of_lt_of_le hg hbw.size
      have hst := foldl_step (freeF t) V.zero hq
      have HS := Lib.hid hst
      have HB := Lib.hid hbw
      clear d0 d1 d2 d3 hst hq hbw
      by_cases hle : q.t ≤ t
      · have hfr : freeF t ((ps.take k).foldl (freeF t) V.zero) q = q.v := if_pos hle
        have HF := Lib.hid hfr
        clear hfr
        go_wp2
        go_roundw
        case rel =>
          refine ⟨k + 1, by omega, by go_num, ?_, ?_⟩
          · have := HB.out; repeat (first | exact Below.refl _ _ | assumption | exact bstep (by assumption) (by assumption) | (refine bstep ?_ (below_alloc _ _)) | (refine bstep ?_ (by assumption)) | (refine Below.setCell ?_ (by simp <;> omega) _) | refine Below.drew ?_)
          · rw [HS.out, HF.out]; simp [go_sem, Q.v, *]
        case measure => simp [intOf]; omega
      · have hfr : freeF t ((ps.take k).foldl (freeF t) V.zero) q = (ps.take k).foldl (freeF t) V.zero := if_neg hle
        have hle' : t < q.t := by omega
        have HF := Lib.hid hfr
        clear hfr hle
        go_wp2
        go_roundw
        case rel =>
          refine ⟨k + 1, by omega, by go_num, ?_, ?_⟩
          · have := HB.out; repeat (first | exact Below.refl _ _ | assumption | exact bstep (by assumption) (by assumption) | (refine bstep ?_ (below_alloc _ _)) | (refine bstep ?_ (by assumption)) | (refine Below.setCell ?_ (by simp <;> omega) _) | refine Below.drew ?_)
          · rw [HS.out, HF.out]; simp [go_sem, *]
        case measure => simp [intOf]; omega
    · have hk9 : k = n := by omega
      subst hk9
      rw [take_all HP.out] at v0 v1 v2
      have HB := Lib.hid hbw
      clear hbw
      go_wp2
      (try go_light)
      refine bodyPost_ret (v := .agg #[.int .i64 (freeV t ps).A, .int .i64 (freeV t ps).B, .int .i64 (freeV t ps).C]) (by simp [results, Try.results117, go_sem, freeV, *]) rfl ⟨rfl, ?_⟩
      have := HB.out; repeat (first | exact Below.refl _ _ | assumption | exact bstep (by assumption) (by assumption) | (refine bstep ?_ (below_alloc _ _)) | (refine bstep ?_ (by assumption)) | (refine Below.setCell ?_ (by simp <;> omega) _) | refine Below.drew ?_)
end Go.Proofs.Ytjnfdcojccgfoaa
