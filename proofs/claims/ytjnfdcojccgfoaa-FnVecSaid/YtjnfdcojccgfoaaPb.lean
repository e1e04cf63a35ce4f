import Derived.Test.YtjnfdcojccgfoaaPa
namespace Go.Proofs.Ytjnfdcojccgfoaa
set_option linter.unusedSimpArgs false
set_option linter.unusedVariables false
set_option linter.unnecessarySimpa false
open Go.RowKit
/-- m cells that count on from k0. -/
def imarks (k0 : Int) (m : Nat) : List Value := (List.range m).map fun (j : Nat) => .int .i64 (k0 + (j : Int))
theorem imarks_get {k0 : Int} {m j : Nat} (h : j < m) : (imarks k0 m)[j]? = some (.int .i64 (k0 + (j : Int))) := by simp [imarks, h]
/-- The block under a slice: it may be written. -/
def Wr (w : World) (lo : Nat) (A : Option Addr) (m : Nat) (e : TypeId) : Prop := 0 < m → ∃ g cur, A = some ⟨g, 0, none⟩ ∧ lo ≤ g ∧ w.heap[g]? = some (.cells cur e (0, 0)) ∧ m ≤ cur.size
theorem heap_lt {w : World} {g : Nat} {o : Obj} (h : w.heap[g]? = some o) : g < w.heap.size := by
  rcases Nat.lt_or_ge g w.heap.size with h' | h'
  · exact h'
  · rw [Array.getElem?_eq_none h'] at h; cases h
theorem heap_set {w : World} {g i : Nat} {cur : Array Value} {e : TypeId} {fr : Nat × Nat} {v : Value} (h : w.heap[g]? = some (.cells cur e fr)) :
    (w.setCell ⟨g, i, none⟩ v).heap[g]? = some (.cells (cur.setIfInBounds i v) e fr) := by
  simp [World.setCell, Array.getElem?_modify, h]
theorem cell_of_heap {w : World} {g i : Nat} {cur : Array Value} {e : TypeId} {fr : Nat × Nat} (h : w.heap[g]? = some (.cells cur e fr)) (hi : i < cur.size) : ∃ v, w.cell? ⟨g, i, none⟩ = some v := by
  refine ⟨cur[i], ?_⟩
  simp [World.cell?, h, hi]
theorem frozen_of_heap {w : World} {g i : Nat} {cur : Array Value} {e : TypeId} (h : w.heap[g]? = some (.cells cur e (0, 0))) : w.frozen? ⟨g, i, none⟩ = false := by simp [World.frozen?, h]
theorem rd_of_heap {w : World} {A : Option Addr} {n size : Nat} {k0 : Int} (h : 0 < n * size → ∃ g cur e fr, A = some ⟨g, 0, none⟩ ∧ w.heap[g]? = some (.cells cur e fr) ∧ ∀ j, j < n * size → cur[j]? = some (.int .i64 (k0 + j))) (hs : 0 < size) : Rd w A n size (imarks k0 (n * size)) := by
  refine ⟨by simp [imarks], fun hn => ?_⟩
  obtain ⟨g, cur, e, fr, hA, hh, hc⟩ := h (Nat.mul_pos hn hs)
  refine ⟨g, hA, fun j u hj => ?_⟩
  have hjn : j < n * size := by
    have := (List.getElem?_eq_some_iff.1 hj).1
    simpa [imarks] using this
  rw [imarks_get hjn] at hj
  simp only [World.cell?, hh]
  simpa using (hc j hjn).trans hj

set_option maxHeartbeats 1000000 in
theorem markInt_any (A : Option Addr) (n c lo : Nat) (k0 : Int) (w : World) (hn : n ≤ 1048577) (hk0 : 0 ≤ k0) (hk1 : k0 ≤ 1099511627776) (hlo : lo ≤ w.heap.size) (hw : Wr w lo A (n * 1) 3) :
    Calls Try.prog 61 #[.slice A n c, .int .i64 k0] w fun e w' => e = .returned (.int .i64 (k0 + 1 * (n : Int))) ∧ Rd w' A n 1 (imarks k0 (n * 1)) ∧ Below lo w w' := by
  have hm : n ≤ 9223372036854775807 := by omega
  have hkm : k0 + 1 * (n : Int) ≤ 9223372036854775800 := by omega
  have HW := Lib.hid hw
  clear hn hk1 hw
  go_enter Try.func61, Try.ntmps61
  go_wp2
  go_loopw [1, 5] (fun q i wr => ∃ k : Nat, k ≤ n ∧ i = .int .i64 k ∧ q = .int .i64 (k0 + 1 * (k : Int)) ∧ Below lo w wr ∧ (0 < n * 1 → ∃ g cur, A = some ⟨g, 0, none⟩ ∧ lo ≤ g ∧ wr.heap[g]? = some (.cells cur 3 (0, 0)) ∧ n * 1 ≤ cur.size ∧ ∀ j, j < k * 1 → cur[j]? = some (.int .i64 (k0 + j)))) (fun _ i _ => n - (intOf i).toNat)
  case atStart =>
    refine ⟨0, Nat.zero_le _, rfl, by simp, Below.refl _ _, fun h => ?_⟩
    obtain ⟨g, cur, hA, hg, hh, hs⟩ := HW.out h
    exact ⟨g, cur, hA, hg, hh, hs, fun j hj => absurd hj (by omega)⟩
  case round =>
    obtain ⟨k, hk, rfl, rfl, hb, hcur⟩ := hrel
    by_cases hlt : k < n
    · obtain ⟨g, cur, rfl, hg, hh, hs, hm2⟩ := hcur (by omega)
      obtain ⟨o0, ho0⟩ := cell_of_heap (i := k) hh (by omega)
      have hf0 := frozen_of_heap (i := k) hh
      have HM := Lib.hid hm2
      have HH := Lib.hid hh
      clear hm2 hh hcur
      have hlt' : (k : Int) < n := by omega
      have hlt2 : k0 + 1 * (k : Int) + 1 ≤ 9223372036854775807 := by omega
      have hlt3 : 0 ≤ k0 + 1 * (k : Int) := by omega
      go_wp2
      refine ⟨⟨k + 1, by omega, by go_num, congrArg (Value.int IntKind.i64) (by omega), (hb.setCell hg _), fun _ => ⟨g, _, rfl, hg, (heap_set HH.out), ?_, ?_⟩⟩, by simp [intOf]; omega⟩
      · simpa using hs
      · intro j hj
        simp only [Array.getElem?_setIfInBounds, Array.size_setIfInBounds]
        have HM' := HM.out j
        repeat' split
        all_goals first
          | omega
          | exact HM' (by omega)
          | exact congrArg (fun z => some (Value.int IntKind.i64 z)) (by omega)
    · obtain rfl : k = n := by omega
      go_wp2
      go_ret
      refine ⟨rfl, rd_of_heap (fun h => ?_) (by omega), hb⟩
      obtain ⟨g, cur, hA, hg, hh, hs, hm2⟩ := hcur h
      exact ⟨g, cur, _, _, hA, hh, hm2⟩

set_option maxHeartbeats 1000000 in
theorem markPt_any (A : Option Addr) (n c lo : Nat) (k0 : Int) (w : World) (hn : n ≤ 1048577) (hk0 : 0 ≤ k0) (hk1 : k0 ≤ 1099511627776) (hlo : lo ≤ w.heap.size) (hw : Wr w lo A (n * 4) 97) :
    Calls Try.prog 108 #[.slice A n c, .int .i64 k0] w fun e w' => e = .returned (.int .i64 (k0 + 4 * (n : Int))) ∧ Rd w' A n 4 (imarks k0 (n * 4)) ∧ Below lo w w' := by
  have hm : n ≤ 9223372036854775807 := by omega
  have hkm : k0 + 4 * (n : Int) ≤ 9223372036854775800 := by omega
  have HW := Lib.hid hw
  clear hn hk1 hw
  go_enter Try.func108, Try.ntmps108
  go_wp2
  go_loopw [1, 5] (fun q i wr => ∃ k : Nat, k ≤ n ∧ i = .int .i64 k ∧ q = .int .i64 (k0 + 4 * (k : Int)) ∧ Below lo w wr ∧ (0 < n * 4 → ∃ g cur, A = some ⟨g, 0, none⟩ ∧ lo ≤ g ∧ wr.heap[g]? = some (.cells cur 97 (0, 0)) ∧ n * 4 ≤ cur.size ∧ ∀ j, j < k * 4 → cur[j]? = some (.int .i64 (k0 + j)))) (fun _ i _ => n - (intOf i).toNat)
  case atStart =>
    refine ⟨0, Nat.zero_le _, rfl, by simp, Below.refl _ _, fun h => ?_⟩
    obtain ⟨g, cur, hA, hg, hh, hs⟩ := HW.out h
    exact ⟨g, cur, hA, hg, hh, hs, fun j hj => absurd hj (by omega)⟩
  case round =>
    obtain ⟨k, hk, rfl, rfl, hb, hcur⟩ := hrel
    by_cases hlt : k < n
    · obtain ⟨g, cur, rfl, hg, hh, hs, hm2⟩ := hcur (by omega)
      obtain ⟨o0, ho0⟩ := cell_of_heap (i := k * 4) hh (by omega)
      have hf0 := frozen_of_heap (i := k * 4) hh
      obtain ⟨o1, ho1⟩ := cell_of_heap (i := k * 4 + 1) hh (by omega)
      have hf1 := frozen_of_heap (i := k * 4 + 1) hh
      obtain ⟨o2, ho2⟩ := cell_of_heap (i := k * 4 + 2) hh (by omega)
      have hf2 := frozen_of_heap (i := k * 4 + 2) hh
      obtain ⟨o3, ho3⟩ := cell_of_heap (i := k * 4 + 3) hh (by omega)
      have hf3 := frozen_of_heap (i := k * 4 + 3) hh
      have HM := Lib.hid hm2
      have HH := Lib.hid hh
      clear hm2 hh hcur
      have hlt' : (k : Int) < n := by omega
      have hlt2 : k0 + 4 * (k : Int) + 4 ≤ 9223372036854775807 := by omega
      have hlt3 : 0 ≤ k0 + 4 * (k : Int) := by omega
      go_wp2
      refine ⟨⟨k + 1, by omega, by go_num, congrArg (Value.int IntKind.i64) (by omega), ((((hb.setCell hg _).setCell hg _).setCell hg _).setCell hg _), fun _ => ⟨g, _, rfl, hg, (heap_set (heap_set (heap_set (heap_set HH.out)))), ?_, ?_⟩⟩, by simp [intOf]; omega⟩
      · simpa using hs
      · intro j hj
        simp only [Array.getElem?_setIfInBounds, Array.size_setIfInBounds]
        have HM' := HM.out j
        repeat' split
        all_goals first
          | omega
          | exact HM' (by omega)
          | exact congrArg (fun z => some (Value.int IntKind.i64 z)) (by omega)
    · obtain rfl : k = n := by omega
      go_wp2
      go_ret
      refine ⟨rfl, rd_of_heap (fun h => ?_) (by omega), hb⟩
      obtain ⟨g, cur, hA, hg, hh, hs, hm2⟩ := hcur h
      exact ⟨g, cur, _, _, hA, hh, hm2⟩

set_option maxHeartbeats 1000000 in
theorem markNode_any (A : Option Addr) (n c lo : Nat) (k0 : Int) (w : World) (hn : n ≤ 1048577) (hk0 : 0 ≤ k0) (hk1 : k0 ≤ 1099511627776) (hlo : lo ≤ w.heap.size) (hw : Wr w lo A (n * 4) 104) :
    Calls Try.prog 146 #[.slice A n c, .int .i64 k0] w fun e w' => e = .returned (.int .i64 (k0 + 4 * (n : Int))) ∧ Rd w' A n 4 (imarks k0 (n * 4)) ∧ Below lo w w' := by
  have hm : n ≤ 9223372036854775807 := by omega
  have hkm : k0 + 4 * (n : Int) ≤ 9223372036854775800 := by omega
  have HW := Lib.hid hw
  clear hn hk1 hw
  go_enter Try.func146, Try.ntmps146
  go_wp2
  go_loopw [1, 5] (fun q i wr => ∃ k : Nat, k ≤ n ∧ i = .int .i64 k ∧ q = .int .i64 (k0 + 4 * (k : Int)) ∧ Below lo w wr ∧ (0 < n * 4 → ∃ g cur, A = some ⟨g, 0, none⟩ ∧ lo ≤ g ∧ wr.heap[g]? = some (.cells cur 104 (0, 0)) ∧ n * 4 ≤ cur.size ∧ ∀ j, j < k * 4 → cur[j]? = some (.int .i64 (k0 + j)))) (fun _ i _ => n - (intOf i).toNat)
  case atStart =>
    refine ⟨0, Nat.zero_le _, rfl, by simp, Below.refl _ _, fun h => ?_⟩
    obtain ⟨g, cur, hA, hg, hh, hs⟩ := HW.out h
    exact ⟨g, cur, hA, hg, hh, hs, fun j hj => absurd hj (by omega)⟩
  case round =>
    obtain ⟨k, hk, rfl, rfl, hb, hcur⟩ := hrel
    by_cases hlt : k < n
    · obtain ⟨g, cur, rfl, hg, hh, hs, hm2⟩ := hcur (by omega)
      obtain ⟨o0, ho0⟩ := cell_of_heap (i := k * 4) hh (by omega)
      have hf0 := frozen_of_heap (i := k * 4) hh
      obtain ⟨o1, ho1⟩ := cell_of_heap (i := k * 4 + 1) hh (by omega)
      have hf1 := frozen_of_heap (i := k * 4 + 1) hh
      obtain ⟨o2, ho2⟩ := cell_of_heap (i := k * 4 + 2) hh (by omega)
      have hf2 := frozen_of_heap (i := k * 4 + 2) hh
      obtain ⟨o3, ho3⟩ := cell_of_heap (i := k * 4 + 3) hh (by omega)
      have hf3 := frozen_of_heap (i := k * 4 + 3) hh
      have HM := Lib.hid hm2
      have HH := Lib.hid hh
      clear hm2 hh hcur
      have hlt' : (k : Int) < n := by omega
      have hlt2 : k0 + 4 * (k : Int) + 4 ≤ 9223372036854775807 := by omega
      have hlt3 : 0 ≤ k0 + 4 * (k : Int) := by omega
      go_wp2
      refine ⟨⟨k + 1, by omega, by go_num, congrArg (Value.int IntKind.i64) (by omega), ((((hb.setCell hg _).setCell hg _).setCell hg _).setCell hg _), fun _ => ⟨g, _, rfl, hg, (heap_set (heap_set (heap_set (heap_set HH.out)))), ?_, ?_⟩⟩, by simp [intOf]; omega⟩
      · simpa using hs
      · intro j hj
        simp only [Array.getElem?_setIfInBounds, Array.size_setIfInBounds]
        have HM' := HM.out j
        repeat' split
        all_goals first
          | omega
          | exact HM' (by omega)
          | exact congrArg (fun z => some (Value.int IntKind.i64 z)) (by omega)
    · obtain rfl : k = n := by omega
      go_wp2
      go_ret
      refine ⟨rfl, rd_of_heap (fun h => ?_) (by omega), hb⟩
      obtain ⟨g, cur, hA, hg, hh, hs, hm2⟩ := hcur h
      exact ⟨g, cur, _, _, hA, hh, hm2⟩
end Go.Proofs.Ytjnfdcojccgfoaa
