import Derived.Test.YtjnfdcojccgfoaaPc
import Derived.Deep.Light
import Derived.Deep.DeepCutAuto
namespace Go.Proofs.Ytjnfdcojccgfoaa
set_option linter.unusedSimpArgs false
set_option linter.unusedVariables false
set_option linter.unnecessarySimpa false
open Go.RowKit
/-- A slice that came in and reads as the points ps. -/
def RdE (w : World) (A : Option Addr) (n : Nat) (ps : List Q) : Prop :=
  ps.length = n ∧ (0 < n → ∃ b off, A = some ⟨b, off, none⟩ ∧ b < w.heap.size ∧ ∀ (k : Nat) q, ps[k]? = some q →
    w.cell? ⟨b, off + k * 4, none⟩ = some (.int .i64 q.t) ∧ w.cell? ⟨b, off + k * 4 + 1, none⟩ = some (.int .i64 q.a) ∧ w.cell? ⟨b, off + k * 4 + 2, none⟩ = some (.int .i64 q.b) ∧ w.cell? ⟨b, off + k * 4 + 3, none⟩ = some (.int .i64 q.c))
theorem RdE.below {w w' : World} {A : Option Addr} {n : Nat} {ps : List Q} (h : RdE w A n ps) (hb : Below w.heap.size w w') : RdE w' A n ps :=
  ⟨h.1, fun hn => by
    obtain ⟨b, off, rfl, hl, hc⟩ := h.2 hn
    refine ⟨b, off, rfl, Nat.lt_of_lt_of_le hl hb.size, fun k q hq => ?_⟩
    obtain ⟨h1, h2, h3, h4⟩ := hc k q hq
    exact ⟨(hb.cell (p := ⟨b, _, none⟩) hl).trans h1, (hb.cell (p := ⟨b, _, none⟩) hl).trans h2, (hb.cell (p := ⟨b, _, none⟩) hl).trans h3, (hb.cell (p := ⟨b, _, none⟩) hl).trans h4⟩⟩
theorem infoPt : (Try.prog.info? 97).map (fun i => (i.zero, i.size, i.bytes)) = some (some (.agg #[.int .i64 0, .int .i64 0, .int .i64 0, .int .i64 0]), 4, 32) := by kernel_rfl
theorem toVec_int (x y z : Int) (w : World) : Calls Try.prog 35 #[.agg #[.int .i64 x, .int .i64 y, .int .i64 z]] w fun e w' => e = .returned (.agg #[.int .i64 x, .int .i64 y, .int .i64 z]) ∧ Below w.heap.size w w' := toVec_raw x y z w

theorem below_setCells {B : Nat} {w : World} (b : Nat) (hB : B ≤ b) : ∀ (vs : List Value) (o : Nat) (w' : World), Below B w w' → Below B w (w'.setCells b o vs)
  | [], _, _, h => h
  | v :: vs, o, w', h => below_setCells b hB vs (o + 1) (w'.setCell ⟨b, o, none⟩ v) (h.setCell hB v)

set_option maxHeartbeats 1000000 in
theorem toPt_any (q : Q) (w : World) :
    Calls Try.prog 162 #[.agg #[.int .i64 q.t, .int .i64 q.a, .int .i64 q.b, .int .i64 q.c]] w fun e w' => e = .returned (.agg #[.int .i64 q.t, .int .i64 q.a, .int .i64 q.b, .int .i64 q.c]) ∧ Below w.heap.size w w' := by
  go_enter Try.func162, Try.ntmps162
  go_upto_region 3 with (go_at_call 35; refine (toVec_int _ _ _ _).mono ?_; rintro e w1 ⟨rfl, hb1⟩; obtain ⟨hc1, hf1⟩ := bcell hb1; have hs1 := hb1.size; (try simp at hs1); have hy10 : w.heap.size < w1.heap.size := (by omega); have hk10 := fun o => hc1 (w.heap.size) o (by first | omega | (simp <;> omega)); have hg10 := fun o => hf1 (w.heap.size) o (by first | omega | (simp <;> omega)); have hy11 : w.heap.size + 1 < w1.heap.size := (by omega); have hk11 := fun o => hc1 (w.heap.size + 1) o (by first | omega | (simp <;> omega)); have hg11 := fun o => hf1 (w.heap.size + 1) o (by first | omega | (simp <;> omega)); have hy12 : w.heap.size + 1 + 1 < w1.heap.size := (by omega); have hk12 := fun o => hc1 (w.heap.size + 1 + 1) o (by first | omega | (simp <;> omega)); have hg12 := fun o => hf1 (w.heap.size + 1 + 1) o (by first | omega | (simp <;> omega)); clear hc1 hf1)
  go_cut [] (fun wr => (wr.cell? ⟨w.heap.size + 1 + 1, 0, none⟩ = some (.int .i64 q.t) ∧ wr.cell? ⟨w.heap.size + 1 + 1, 1, none⟩ = some (.int .i64 q.a) ∧ wr.cell? ⟨w.heap.size + 1 + 1, 2, none⟩ = some (.int .i64 q.b) ∧ wr.cell? ⟨w.heap.size + 1 + 1, 3, none⟩ = some (.int .i64 q.c)) ∧ (∀ k, k < 4 → (wr.cell? ⟨w.heap.size + 1, k, none⟩).isSome = true) ∧ (∀ k, wr.frozen? ⟨w.heap.size + 1, k, none⟩ = false) ∧ Below w.heap.size w wr)
  case first =>
    go_wp2_with (go_at_call 35; refine (toVec_int _ _ _ _).mono ?_; rintro e w1 ⟨rfl, hb1⟩; obtain ⟨hc1, hf1⟩ := bcell hb1; have hs1 := hb1.size; (try simp at hs1); have hy10 : w.heap.size < w1.heap.size := (by omega); have hk10 := fun o => hc1 (w.heap.size) o (by first | omega | (simp <;> omega)); have hg10 := fun o => hf1 (w.heap.size) o (by first | omega | (simp <;> omega)); have hy11 : w.heap.size + 1 < w1.heap.size := (by omega); have hk11 := fun o => hc1 (w.heap.size + 1) o (by first | omega | (simp <;> omega)); have hg11 := fun o => hf1 (w.heap.size + 1) o (by first | omega | (simp <;> omega)); have hy12 : w.heap.size + 1 + 1 < w1.heap.size := (by omega); have hk12 := fun o => hc1 (w.heap.size + 1 + 1) o (by first | omega | (simp <;> omega)); have hg12 := fun o => hf1 (w.heap.size + 1 + 1) o (by first | omega | (simp <;> omega)); clear hc1 hf1)
    go_meet
    case rel =>
      refine ⟨by simp [go_sem, *], ?_, ?_, (by repeat (first | exact Below.refl _ _ | (refine bstep ?_ (below_alloc _ _)) | (refine bstep ?_ (by assumption)) | (refine Below.setCell ?_ (by simp <;> omega) _) | refine Below.drew ?_))⟩
      · intro k hk
        match k, hk with
        | 0, _ | 1, _ | 2, _ | 3, _ => simp [go_sem, *]
      · intro k
        simp [go_sem, *]
  case rest =>
    obtain ⟨⟨c0, c1, c2, c3⟩, he, hf, hb⟩ := hcut
    have hE := Lib.hid he
    have e0 := he 0 (by omega); have e1 := he 1 (by omega); have e2 := he 2 (by omega); have e3 := he 3 (by omega);
    obtain ⟨o0, e0⟩ := Option.isSome_iff_exists.1 e0; obtain ⟨o1, e1⟩ := Option.isSome_iff_exists.1 e1; obtain ⟨o2, e2⟩ := Option.isSome_iff_exists.1 e2; obtain ⟨o3, e3⟩ := Option.isSome_iff_exists.1 e3;
    clear he
    go_wp2
    have hin := World.cell?_setCells_in (w.heap.size + 1) ([.int .i64 q.t, .int .i64 q.a, .int .i64 q.b, .int .i64 q.c] : List Value) 0 wc (fun k hk => by simpa using hE.out k (by simpa using hk))
    have hbw := below_setCells (w.heap.size + 1) (by omega) ([.int .i64 q.t, .int .i64 q.a, .int .i64 q.b, .int .i64 q.c] : List Value) 0 wc hb
    change bodyPost _ _ _ _ _ (wc.setCells (w.heap.size + 1) 0 ([.int .i64 q.t, .int .i64 q.a, .int .i64 q.b, .int .i64 q.c] : List Value))
    have f0 := hin 0 (by simp); have f1 := hin 1 (by simp); have f2 := hin 2 (by simp); have f3 := hin 3 (by simp);
    generalize wc.setCells (w.heap.size + 1) 0 ([.int .i64 q.t, .int .i64 q.a, .int .i64 q.b, .int .i64 q.c] : List Value) = W at *
    simp only [Nat.zero_add, List.getElem_cons_zero, List.getElem_cons_succ, Nat.reduceAdd] at f0 f1 f2 f3
    clear hin hE
    exact bodyPost_ret (v := .agg #[.int .i64 q.t, .int .i64 q.a, .int .i64 q.b, .int .i64 q.c]) (by simp [results, Try.results162, go_sem, f0, f1, f2, f3]) rfl ⟨rfl, hbw⟩

set_option maxHeartbeats 4000000 in
theorem toPtS_any (A : Option Addr) (n c : Nat) (ps : List Q) (w : World) (hn : n ≤ 1048576) (hr : RdE w A n ps) :
    Calls Try.prog 103 #[.slice A n c] w fun e w' => ∃ v, e = .returned v ∧ w'.ownsRow w.heap.size 97 4 v n (flat ps) ∧ Below w.heap.size w w' := by
  obtain ⟨i0, hi, hz0, hz1, hz2⟩ := info_parts infoPt
  have hm : n ≤ 9223372036854775807 := by omega
  have HN := Lib.hid hn
  have HR := Lib.hid hr
  clear hn hr
  go_enter Try.func103, Try.ntmps103
  go_wp2_with (at_make; refine wpList_make_full _ rfl _ _ 33 rfl w.heap.size 97 i0 (.agg #[.int .i64 0, .int .i64 0, .int .i64 0, .int .i64 0]) 4 Try.underlying33 hi hz0 hz1 .i64 .i64 _ _ n rfl rfl rfl rfl (by rw [hz2]; have := HN.out; omega) (by unfold maxLen; have := HN.out; omega) (Nat.le_refl _) ?_; intro w0 hown0 hgrow0)
  have hb0 : Below w.heap.size w w0 := (Below.refl _ _).grown hgrow0 (Nat.le_refl _) (fun k hk => by cases hk)
  obtain ⟨cur0, hh0, hsz0⟩ : ∃ cur, w0.heap[w.heap.size]? = some (.cells cur 97 (0, 0)) ∧ cur.size = n * 4 := by
    rcases hown0.2 with ⟨h, _⟩ | ⟨g, cap, cur, hv, _, hh, h1, h2, h3, _⟩
    · cases h
    · injection hv with a1 a2 a3
      injection a1 with a1
      injection a1 with a1
      subst a1 a3
      exact ⟨cur, hh, h3⟩
  clear hown0 hgrow0
  go_wp2
  go_loopw [4] (fun i wr => ∃ k : Nat, k ≤ n ∧ i = .int .i64 k ∧ Below w.heap.size w wr ∧ ∃ cur, wr.heap[w.heap.size]? = some (.cells cur 97 (0, 0)) ∧ cur.size = n * 4 ∧ ∀ j, j < k * 4 → cur[j]? = (flat ps)[j]?) (fun i _ => n - (intOf i).toNat)
  case atStart => exact ⟨0, Nat.zero_le _, rfl, hb0, cur0, hh0, hsz0, fun j hj => absurd hj (by omega)⟩
  case round =>
    obtain ⟨k, hk, rfl, hbw, cur, hh, hsz, hm2⟩ := hrel
    clear hb0 hh0 hsz0
    by_cases hlt : k < n
    · obtain ⟨b, off, rfl, hbl, hc⟩ := HR.out.2 (by omega)
      have hl : k < ps.length := by have := HR.out.1; omega
      have hq : ps[k]? = some ps[k] := List.getElem?_eq_getElem hl
      generalize ps[k] = q at hq
      obtain ⟨d0, d1, d2, d3⟩ := hc k q hq
      have c0 := (hbw.cell (p := ⟨b, off + k * 4, none⟩) hbl).trans d0
      have c1 := (hbw.cell (p := ⟨b, off + k * 4 + 1, none⟩) hbl).trans d1
      have c2 := (hbw.cell (p := ⟨b, off + k * 4 + 2, none⟩) hbl).trans d2
      have c3 := (hbw.cell (p := ⟨b, off + k * 4 + 3, none⟩) hbl).trans d3
      have HQ := Lib.hid hq
      have HM := Lib.hid hm2
      have HH := Lib.hid hh
      have HZ := Lib.hid hsz
      clear hc d0 d1 d2 d3 hq hm2 hh hsz
      have hlt' : (k : Int) < n := by omega
      go_wp2_with fail
      refine (toPt_any q _).mono ?_
      rintro e w1 ⟨rfl, hb1⟩
      have hh1 : w1.heap[w.heap.size]? = some (.cells cur 97 (0, 0)) := (hb1.block _ (heap_lt HH.out)).trans HH.out
      obtain ⟨o0, ho0⟩ := cell_of_heap (i := k * 4) hh1 (by have := HZ.out; omega)
      obtain ⟨o1, ho1⟩ := cell_of_heap (i := k * 4 + 1) hh1 (by have := HZ.out; omega)
      obtain ⟨o2, ho2⟩ := cell_of_heap (i := k * 4 + 2) hh1 (by have := HZ.out; omega)
      obtain ⟨o3, ho3⟩ := cell_of_heap (i := k * 4 + 3) hh1 (by have := HZ.out; omega)
      have hf0 := frozen_of_heap (i := k * 4) hh1
      have hf1 := frozen_of_heap (i := k * 4 + 1) hh1
      have hf2 := frozen_of_heap (i := k * 4 + 2) hh1
      have hf3 := frozen_of_heap (i := k * 4 + 3) hh1
      have HH1 := Lib.hid hh1
      clear hh1
      go_wp2
      refine ⟨⟨k + 1, by omega, by go_num, ((((bstep hbw hb1).setCell (Nat.le_refl _) _).setCell (Nat.le_refl _) _).setCell (Nat.le_refl _) _).setCell (Nat.le_refl _) _, _, heap_set (heap_set (heap_set (heap_set HH1.out))), by simpa using HZ.out, ?_⟩, by simp [intOf]; omega⟩
      intro j hj
      have HM' := HM.out j
      have hz := HZ.out
      have g0 := flat_get ps k 0 q HQ.out (by omega)
      have g1 := flat_get ps k 1 q HQ.out (by omega)
      have g2 := flat_get ps k 2 q HQ.out (by omega)
      have g3 := flat_get ps k 3 q HQ.out (by omega)
      simp only [Q.cells] at g0 g1 g2 g3
      by_cases hj0 : j < k * 4
      · simp only [Array.getElem?_setIfInBounds]
        rw [if_neg (by omega), if_neg (by omega), if_neg (by omega), if_neg (by omega)]
        exact HM' hj0
      · have hj' : j = k * 4 ∨ j = k * 4 + 1 ∨ j = k * 4 + 2 ∨ j = k * 4 + 3 := by omega
        simp only [Array.getElem?_setIfInBounds, Array.size_setIfInBounds]
        rcases hj' with rfl | rfl | rfl | rfl
        · rw [show (flat ps)[k * 4]? = _ from g0]
          rw [if_neg (by omega), if_neg (by omega), if_neg (by omega), if_pos rfl, if_pos (by omega)]
          rfl
        · rw [show (flat ps)[k * 4 + 1]? = _ from g1]
          rw [if_neg (by omega), if_neg (by omega), if_pos rfl, if_pos (by omega)]
          rfl
        · rw [show (flat ps)[k * 4 + 2]? = _ from g2]
          rw [if_neg (by omega), if_pos rfl, if_pos (by omega)]
          rfl
        · rw [show (flat ps)[k * 4 + 3]? = _ from g3]
          rw [if_pos rfl, if_pos (by omega)]
          rfl
    · obtain rfl : k = n := by omega
      go_wp2
      go_ret
      refine ⟨_, rfl, ⟨by rw [flat_len, HR.out.1], Or.inr ⟨w.heap.size, k, cur, rfl, Nat.le_refl _, hh, Nat.le_refl _, by unfold maxLen; have := HN.out; omega, hsz, ?_⟩⟩, hbw⟩
      apply List.ext_getElem?
      intro j
      by_cases hj : j < k * 4
      · rw [List.getElem?_take, if_pos hj, ← hm2 j hj]
        simp
      · rw [List.getElem?_eq_none (by simp; omega), List.getElem?_eq_none (by rw [flat_len, HR.out.1]; omega)]
theorem infoNode : (Try.prog.info? 104).map (fun i => (i.zero, i.size, i.bytes)) = some (some (.agg #[.int .i64 0, .int .i64 0, .int .i64 0, .int .i64 0]), 4, 32) := by kernel_rfl

set_option maxHeartbeats 1000000 in
theorem toNode_any (q : Q) (w : World) :
    Calls Try.prog 167 #[.agg #[.int .i64 q.t, .int .i64 q.a, .int .i64 q.b, .int .i64 q.c]] w fun e w' => e = .returned (.agg #[.int .i64 q.t, .int .i64 q.a, .int .i64 q.b, .int .i64 q.c]) ∧ Below w.heap.size w w' := by
  go_enter Try.func167, Try.ntmps167
  go_upto_region 3 with (go_at_call 35; refine (toVec_int _ _ _ _).mono ?_; rintro e w1 ⟨rfl, hb1⟩; obtain ⟨hc1, hf1⟩ := bcell hb1; have hs1 := hb1.size; (try simp at hs1); have hy10 : w.heap.size < w1.heap.size := (by omega); have hk10 := fun o => hc1 (w.heap.size) o (by first | omega | (simp <;> omega)); have hg10 := fun o => hf1 (w.heap.size) o (by first | omega | (simp <;> omega)); have hy11 : w.heap.size + 1 < w1.heap.size := (by omega); have hk11 := fun o => hc1 (w.heap.size + 1) o (by first | omega | (simp <;> omega)); have hg11 := fun o => hf1 (w.heap.size + 1) o (by first | omega | (simp <;> omega)); have hy12 : w.heap.size + 1 + 1 < w1.heap.size := (by omega); have hk12 := fun o => hc1 (w.heap.size + 1 + 1) o (by first | omega | (simp <;> omega)); have hg12 := fun o => hf1 (w.heap.size + 1 + 1) o (by first | omega | (simp <;> omega)); clear hc1 hf1)
  go_cut [] (fun wr => (wr.cell? ⟨w.heap.size + 1 + 1, 0, none⟩ = some (.int .i64 q.t) ∧ wr.cell? ⟨w.heap.size + 1 + 1, 1, none⟩ = some (.int .i64 q.a) ∧ wr.cell? ⟨w.heap.size + 1 + 1, 2, none⟩ = some (.int .i64 q.b) ∧ wr.cell? ⟨w.heap.size + 1 + 1, 3, none⟩ = some (.int .i64 q.c)) ∧ (∀ k, k < 4 → (wr.cell? ⟨w.heap.size + 1, k, none⟩).isSome = true) ∧ (∀ k, wr.frozen? ⟨w.heap.size + 1, k, none⟩ = false) ∧ Below w.heap.size w wr)
  case first =>
    go_wp2_with (go_at_call 35; refine (toVec_int _ _ _ _).mono ?_; rintro e w1 ⟨rfl, hb1⟩; obtain ⟨hc1, hf1⟩ := bcell hb1; have hs1 := hb1.size; (try simp at hs1); have hy10 : w.heap.size < w1.heap.size := (by omega); have hk10 := fun o => hc1 (w.heap.size) o (by first | omega | (simp <;> omega)); have hg10 := fun o => hf1 (w.heap.size) o (by first | omega | (simp <;> omega)); have hy11 : w.heap.size + 1 < w1.heap.size := (by omega); have hk11 := fun o => hc1 (w.heap.size + 1) o (by first | omega | (simp <;> omega)); have hg11 := fun o => hf1 (w.heap.size + 1) o (by first | omega | (simp <;> omega)); have hy12 : w.heap.size + 1 + 1 < w1.heap.size := (by omega); have hk12 := fun o => hc1 (w.heap.size + 1 + 1) o (by first | omega | (simp <;> omega)); have hg12 := fun o => hf1 (w.heap.size + 1 + 1) o (by first | omega | (simp <;> omega)); clear hc1 hf1)
    go_meet
    case rel =>
      refine ⟨by simp [go_sem, *], ?_, ?_, (by repeat (first | exact Below.refl _ _ | (refine bstep ?_ (below_alloc _ _)) | (refine bstep ?_ (by assumption)) | (refine Below.setCell ?_ (by simp <;> omega) _) | refine Below.drew ?_))⟩
      · intro k hk
        match k, hk with
        | 0, _ | 1, _ | 2, _ | 3, _ => simp [go_sem, *]
      · intro k
        simp [go_sem, *]
  case rest =>
    obtain ⟨⟨c0, c1, c2, c3⟩, he, hf, hb⟩ := hcut
    have hE := Lib.hid he
    have e0 := he 0 (by omega); have e1 := he 1 (by omega); have e2 := he 2 (by omega); have e3 := he 3 (by omega);
    obtain ⟨o0, e0⟩ := Option.isSome_iff_exists.1 e0; obtain ⟨o1, e1⟩ := Option.isSome_iff_exists.1 e1; obtain ⟨o2, e2⟩ := Option.isSome_iff_exists.1 e2; obtain ⟨o3, e3⟩ := Option.isSome_iff_exists.1 e3;
    clear he
    go_wp2
    have hin := World.cell?_setCells_in (w.heap.size + 1) ([.int .i64 q.t, .int .i64 q.a, .int .i64 q.b, .int .i64 q.c] : List Value) 0 wc (fun k hk => by simpa using hE.out k (by simpa using hk))
    have hbw := below_setCells (w.heap.size + 1) (by omega) ([.int .i64 q.t, .int .i64 q.a, .int .i64 q.b, .int .i64 q.c] : List Value) 0 wc hb
    change bodyPost _ _ _ _ _ (wc.setCells (w.heap.size + 1) 0 ([.int .i64 q.t, .int .i64 q.a, .int .i64 q.b, .int .i64 q.c] : List Value))
    have f0 := hin 0 (by simp); have f1 := hin 1 (by simp); have f2 := hin 2 (by simp); have f3 := hin 3 (by simp);
    generalize wc.setCells (w.heap.size + 1) 0 ([.int .i64 q.t, .int .i64 q.a, .int .i64 q.b, .int .i64 q.c] : List Value) = W at *
    simp only [Nat.zero_add, List.getElem_cons_zero, List.getElem_cons_succ, Nat.reduceAdd] at f0 f1 f2 f3
    clear hin hE
    exact bodyPost_ret (v := .agg #[.int .i64 q.t, .int .i64 q.a, .int .i64 q.b, .int .i64 q.c]) (by simp [results, Try.results167, go_sem, f0, f1, f2, f3]) rfl ⟨rfl, hbw⟩

set_option maxHeartbeats 4000000 in
theorem toNodeS_any (A : Option Addr) (n c : Nat) (ps : List Q) (w : World) (hn : n ≤ 1048576) (hr : RdE w A n ps) :
    Calls Try.prog 131 #[.slice A n c] w fun e w' => ∃ v, e = .returned v ∧ w'.ownsRow w.heap.size 104 4 v n (flat ps) ∧ Below w.heap.size w w' := by
  obtain ⟨i0, hi, hz0, hz1, hz2⟩ := info_parts infoNode
  have hm : n ≤ 9223372036854775807 := by omega
  have HN := Lib.hid hn
  have HR := Lib.hid hr
  clear hn hr
  go_enter Try.func131, Try.ntmps131
  go_wp2_with (at_make; refine wpList_make_full _ rfl _ _ 78 rfl w.heap.size 104 i0 (.agg #[.int .i64 0, .int .i64 0, .int .i64 0, .int .i64 0]) 4 Try.underlying78 hi hz0 hz1 .i64 .i64 _ _ n rfl rfl rfl rfl (by rw [hz2]; have := HN.out; omega) (by unfold maxLen; have := HN.out; omega) (Nat.le_refl _) ?_; intro w0 hown0 hgrow0)
  have hb0 : Below w.heap.size w w0 := (Below.refl _ _).grown hgrow0 (Nat.le_refl _) (fun k hk => by cases hk)
  obtain ⟨cur0, hh0, hsz0⟩ : ∃ cur, w0.heap[w.heap.size]? = some (.cells cur 104 (0, 0)) ∧ cur.size = n * 4 := by
    rcases hown0.2 with ⟨h, _⟩ | ⟨g, cap, cur, hv, _, hh, h1, h2, h3, _⟩
    · cases h
    · injection hv with a1 a2 a3
      injection a1 with a1
      injection a1 with a1
      subst a1 a3
      exact ⟨cur, hh, h3⟩
  clear hown0 hgrow0
  go_wp2
  go_loopw [4] (fun i wr => ∃ k : Nat, k ≤ n ∧ i = .int .i64 k ∧ Below w.heap.size w wr ∧ ∃ cur, wr.heap[w.heap.size]? = some (.cells cur 104 (0, 0)) ∧ cur.size = n * 4 ∧ ∀ j, j < k * 4 → cur[j]? = (flat ps)[j]?) (fun i _ => n - (intOf i).toNat)
  case atStart => exact ⟨0, Nat.zero_le _, rfl, hb0, cur0, hh0, hsz0, fun j hj => absurd hj (by omega)⟩
  case round =>
    obtain ⟨k, hk, rfl, hbw, cur, hh, hsz, hm2⟩ := hrel
    clear hb0 hh0 hsz0
    by_cases hlt : k < n
    · obtain ⟨b, off, rfl, hbl, hc⟩ := HR.out.2 (by omega)
      have hl : k < ps.length := by have := HR.out.1; omega
      have hq : ps[k]? = some ps[k] := List.getElem?_eq_getElem hl
      generalize ps[k] = q at hq
      obtain ⟨d0, d1, d2, d3⟩ := hc k q hq
      have c0 := (hbw.cell (p := ⟨b, off + k * 4, none⟩) hbl).trans d0
      have c1 := (hbw.cell (p := ⟨b, off + k * 4 + 1, none⟩) hbl).trans d1
      have c2 := (hbw.cell (p := ⟨b, off + k * 4 + 2, none⟩) hbl).trans d2
      have c3 := (hbw.cell (p := ⟨b, off + k * 4 + 3, none⟩) hbl).trans d3
      have HQ := Lib.hid hq
      have HM := Lib.hid hm2
      have HH := Lib.hid hh
      have HZ := Lib.hid hsz
      clear hc d0 d1 d2 d3 hq hm2 hh hsz
      have hlt' : (k : Int) < n := by omega
      go_wp2_with fail
      refine (toNode_any q _).mono ?_
      rintro e w1 ⟨rfl, hb1⟩
      have hh1 : w1.heap[w.heap.size]? = some (.cells cur 104 (0, 0)) := (hb1.block _ (heap_lt HH.out)).trans HH.out
      obtain ⟨o0, ho0⟩ := cell_of_heap (i := k * 4) hh1 (by have := HZ.out; omega)
      obtain ⟨o1, ho1⟩ := cell_of_heap (i := k * 4 + 1) hh1 (by have := HZ.out; omega)
      obtain ⟨o2, ho2⟩ := cell_of_heap (i := k * 4 + 2) hh1 (by have := HZ.out; omega)
      obtain ⟨o3, ho3⟩ := cell_of_heap (i := k * 4 + 3) hh1 (by have := HZ.out; omega)
      have hf0 := frozen_of_heap (i := k * 4) hh1
      have hf1 := frozen_of_heap (i := k * 4 + 1) hh1
      have hf2 := frozen_of_heap (i := k * 4 + 2) hh1
      have hf3 := frozen_of_heap (i := k * 4 + 3) hh1
      have HH1 := Lib.hid hh1
      clear hh1
      go_wp2
      refine ⟨⟨k + 1, by omega, by go_num, ((((bstep hbw hb1).setCell (Nat.le_refl _) _).setCell (Nat.le_refl _) _).setCell (Nat.le_refl _) _).setCell (Nat.le_refl _) _, _, heap_set (heap_set (heap_set (heap_set HH1.out))), by simpa using HZ.out, ?_⟩, by simp [intOf]; omega⟩
      intro j hj
      have HM' := HM.out j
      have hz := HZ.out
      have g0 := flat_get ps k 0 q HQ.out (by omega)
      have g1 := flat_get ps k 1 q HQ.out (by omega)
      have g2 := flat_get ps k 2 q HQ.out (by omega)
      have g3 := flat_get ps k 3 q HQ.out (by omega)
      simp only [Q.cells] at g0 g1 g2 g3
      by_cases hj0 : j < k * 4
      · simp only [Array.getElem?_setIfInBounds]
        rw [if_neg (by omega), if_neg (by omega), if_neg (by omega), if_neg (by omega)]
        exact HM' hj0
      · have hj' : j = k * 4 ∨ j = k * 4 + 1 ∨ j = k * 4 + 2 ∨ j = k * 4 + 3 := by omega
        simp only [Array.getElem?_setIfInBounds, Array.size_setIfInBounds]
        rcases hj' with rfl | rfl | rfl | rfl
        · rw [show (flat ps)[k * 4]? = _ from g0]
          rw [if_neg (by omega), if_neg (by omega), if_neg (by omega), if_pos rfl, if_pos (by omega)]
          rfl
        · rw [show (flat ps)[k * 4 + 1]? = _ from g1]
          rw [if_neg (by omega), if_neg (by omega), if_pos rfl, if_pos (by omega)]
          rfl
        · rw [show (flat ps)[k * 4 + 2]? = _ from g2]
          rw [if_neg (by omega), if_pos rfl, if_pos (by omega)]
          rfl
        · rw [show (flat ps)[k * 4 + 3]? = _ from g3]
          rw [if_pos rfl, if_pos (by omega)]
          rfl
    · obtain rfl : k = n := by omega
      go_wp2
      go_ret
      refine ⟨_, rfl, ⟨by rw [flat_len, HR.out.1], Or.inr ⟨w.heap.size, k, cur, rfl, Nat.le_refl _, hh, Nat.le_refl _, by unfold maxLen; have := HN.out; omega, hsz, ?_⟩⟩, hbw⟩
      apply List.ext_getElem?
      intro j
      by_cases hj : j < k * 4
      · rw [List.getElem?_take, if_pos hj, ← hm2 j hj]
        simp
      · rw [List.getElem?_eq_none (by simp; omega), List.getElem?_eq_none (by rw [flat_len, HR.out.1]; omega)]
end Go.Proofs.Ytjnfdcojccgfoaa
