/-
  Marks: what is written into the blocks under a slice, and the frame of it.
-/
import Derived.Test.YtjnfdcojccgfoaaPg
import Derived.Test.YtjnfdcojccgfoaaPc
namespace Go.Proofs.Ytjnfdcojccgfoaa
set_option linter.unusedSimpArgs false
set_option linter.unusedVariables false
set_option linter.unnecessarySimpa false
open Go.RowKit
/-- Of what lay in w all blocks but those of S are as they were. -/
structure Fr (S : Nat → Prop) (w w' : World) : Prop where
  os : w'.os = w.os
  tape : w'.tape = w.tape
  output : w'.output = w.output
  size : w.heap.size ≤ w'.heap.size
  block : ∀ k, k < w.heap.size → ¬ S k → w'.heap[k]? = w.heap[k]?
theorem Fr.refl (S : Nat → Prop) (w : World) : Fr S w w := ⟨rfl, rfl, rfl, Nat.le_refl _, fun _ _ _ => rfl⟩
theorem Fr.trans {S : Nat → Prop} {a b c : World} (h : Fr S a b) (k : Fr S b c) : Fr S a c :=
  ⟨k.os.trans h.os, k.tape.trans h.tape, k.output.trans h.output, Nat.le_trans h.size k.size, fun i hi hn => (k.block i (Nat.lt_of_lt_of_le hi h.size) hn).trans (h.block i hi hn)⟩
theorem Fr.of_below (S : Nat → Prop) {w w' : World} (h : Below w.heap.size w w') : Fr S w w' := ⟨h.os, h.tape, h.output, h.size, fun k hk _ => h.block k hk⟩
theorem Fr.step {S : Nat → Prop} {a w w' : World} (h : Fr S a w) (h' : Below w.heap.size w w') : Fr S a w' := h.trans (.of_below S h')
theorem Fr.mono {S T : Nat → Prop} {w w' : World} (h : Fr S w w') (hS : ∀ k, S k → T k) : Fr T w w' := ⟨h.os, h.tape, h.output, h.size, fun k hk hn => h.block k hk fun hs => hn (hS k hs)⟩
theorem Fr.below {S : Nat → Prop} {lo : Nat} {w w' : World} (h : Fr S w w') (hS : ∀ k, S k → lo ≤ k) (hlo : lo ≤ w.heap.size) : Below lo w w' :=
  ⟨h.os, h.tape, h.output, h.size, fun k hk => h.block k (Nat.lt_of_lt_of_le hk hlo) fun hs => absurd (hS k hs) (by omega)⟩
theorem Fr.cell {S : Nat → Prop} {w w' : World} (h : Fr S w w') {b : Nat} (hb : b < w.heap.size) (hn : ¬ S b) (o : Nat) : w'.cell? ⟨b, o, none⟩ = w.cell? ⟨b, o, none⟩ := World.cell?_of_block (w := w) (h.block b hb hn)
theorem Fr.frozen {S : Nat → Prop} {w w' : World} (h : Fr S w w') {b : Nat} (hb : b < w.heap.size) (hn : ¬ S b) (o : Nat) : w'.frozen? ⟨b, o, none⟩ = w.frozen? ⟨b, o, none⟩ := World.frozen?_of_block (w := w) (h.block b hb hn)
theorem Fr.setCell {S : Nat → Prop} {a w : World} (h : Fr S a w) {p : Addr} (hp : S p.block ∨ a.heap.size ≤ p.block) (u : Value) : Fr S a (w.setCell p u) := by
  refine ⟨h.os, h.tape, h.output, by simpa using h.size, fun k hk hn => ?_⟩
  rw [Below.heap_setCell w p u k (fun e => by
    subst e
    rcases hp with hp | hp
    · exact hn hp
    · omega)]
  exact h.block k hk hn
theorem Fr.drew {S : Nat → Prop} {a w : World} (h : Fr S a w) : Fr S a w.drew := ⟨h.os, h.tape, h.output, h.size, h.block⟩
theorem Fr.alloc {S : Nat → Prop} {a w : World} (h : Fr S a w) (o : Obj) : Fr S a (w.alloc o) := h.step (below_alloc w o)
/-- The block under a slice. -/
def atB (A : Option Addr) (k : Nat) : Prop := ∃ o, A = some ⟨k, o, none⟩
theorem own_wr2 {w : World} {lo : Nat} {e : TypeId} {size : Nat} {A : Option Addr} {n c : Nat} {xs : List Value} (h : w.ownsRow lo e size (.slice A n c) n xs) : Wr w lo A (n * size) e := by
  rcases h with ⟨_, ⟨_, rfl⟩ | ⟨g, cap, cur, hv, hg, hh, h1, _, h3, _⟩⟩
  · intro h; simp at h
  · intro _
    injection hv with a1
    exact ⟨g, cur, a1, hg, hh, by rw [h3]; exact Nat.mul_le_mul_right _ h1⟩
theorem own_rng {w : World} {lo : Nat} {e : TypeId} {size : Nat} {A : Option Addr} {n c : Nat} {xs : List Value} (h : w.ownsRow lo e size (.slice A n c) n xs) : ∀ k, atB A k → lo ≤ k ∧ k < w.heap.size := by
  intro k hk
  obtain ⟨o, hA⟩ := hk
  rcases h with ⟨_, ⟨hv, _⟩ | ⟨g, cap, cur, hv, hg, hh, _⟩⟩
  · injection hv with a1; rw [a1] at hA; cases hA
  · injection hv with a1
    rw [a1] at hA
    injection hA with hA
    injection hA with h1
    subst h1
    exact ⟨hg, heap_lt hh⟩
theorem Wr.below {w w' : World} {lo : Nat} {A : Option Addr} {m : Nat} {e : TypeId} (h : Wr w lo A m e) (hb : Below w.heap.size w w') : Wr w' lo A m e := fun hm => by
  obtain ⟨g, cur, hA, hg, hh, hs⟩ := h hm
  exact ⟨g, cur, hA, hg, (hb.block g (heap_lt hh)).trans hh, hs⟩
theorem Wr.fr {S : Nat → Prop} {w w' : World} {lo : Nat} {A : Option Addr} {m : Nat} {e : TypeId} (h : Wr w lo A m e) (hb : Fr S w w') (hn : ∀ k, atB A k → ¬ S k) : Wr w' lo A m e := fun hm => by
  obtain ⟨g, cur, hA, hg, hh, hs⟩ := h hm
  exact ⟨g, cur, hA, hg, (hb.block g (heap_lt hh) (hn g ⟨0, hA⟩)).trans hh, hs⟩
theorem Rd.fr {S : Nat → Prop} {w w' : World} {A : Option Addr} {n size : Nat} {xs : List Value} (h : Rd w A n size xs) (hl : ∀ g, A = some ⟨g, 0, none⟩ → g < w.heap.size) (hb : Fr S w w') (hn : ∀ k, atB A k → ¬ S k) : Rd w' A n size xs :=
  ⟨h.1, fun h0 => by
    obtain ⟨g, rfl, hc⟩ := h.2 h0
    exact ⟨g, rfl, fun j u hj => (hb.cell (hl g rfl) (hn g ⟨0, rfl⟩) j).trans (hc j u hj)⟩⟩
theorem lt_fr {S : Nat → Prop} {w w' : World} {A : Option Addr} (hl : ∀ g, A = some ⟨g, 0, none⟩ → g < w.heap.size) (hb : Fr S w w') : ∀ g, A = some ⟨g, 0, none⟩ → g < w'.heap.size :=
  fun g hg => Nat.lt_of_lt_of_le (hl g hg) hb.size
theorem below_eqN {w w' : World} {k : Nat} (h : w' = w.drewN k) : Below w.heap.size w w' := by rw [h]; exact below_drewN w k
theorem below_same {w w' : World} (h : w = w') : Below w.heap.size w w' := by rw [← h]; exact Below.refl _ _
theorem rng_below {w w' : World} {A : Option Addr} {lo : Nat} (h : ∀ k, atB A k → lo ≤ k ∧ k < w.heap.size) (hb : w.heap.size ≤ w'.heap.size) : ∀ k, atB A k → lo ≤ k ∧ k < w'.heap.size :=
  fun k hk => ⟨(h k hk).1, Nat.lt_of_lt_of_le (h k hk).2 hb⟩

set_option maxHeartbeats 1000000 in
theorem markIntF (A : Option Addr) (n c lo : Nat) (k0 : Int) (w : World) (hn : n ≤ 1048577) (hk0 : 0 ≤ k0) (hk1 : k0 ≤ 1099511627776) (hw : Wr w lo A (n * 1) 3) :
    Calls Try.prog 61 #[.slice A n c, .int .i64 k0] w fun e w' => e = .returned (.int .i64 (k0 + 1 * (n : Int))) ∧ Rd w' A n 1 (imarks k0 (n * 1)) ∧ Fr (atB A) w w' := by
  have hm : n ≤ 9223372036854775807 := by omega
  have hkm : k0 + 1 * (n : Int) ≤ 9223372036854775800 := by omega
  have HW := Lib.hid hw
  clear hn hk1 hw
  go_enter Try.func61, Try.ntmps61
  go_wp2
  go_loopw [1, 5] (fun q i wr => ∃ k : Nat, k ≤ n ∧ i = .int .i64 k ∧ q = .int .i64 (k0 + 1 * (k : Int)) ∧ Fr (atB A) w wr ∧ (0 < n * 1 → ∃ g cur, A = some ⟨g, 0, none⟩ ∧ wr.heap[g]? = some (.cells cur 3 (0, 0)) ∧ n * 1 ≤ cur.size ∧ ∀ j, j < k * 1 → cur[j]? = some (.int .i64 (k0 + j)))) (fun _ i _ => n - (intOf i).toNat)
  case atStart =>
    refine ⟨0, Nat.zero_le _, rfl, by simp, Fr.refl _ _, fun h => ?_⟩
    obtain ⟨g, cur, hA, hg, hh, hs⟩ := HW.out h
    exact ⟨g, cur, hA, hh, hs, fun j hj => absurd hj (by omega)⟩
  case round =>
    obtain ⟨k, hk, rfl, rfl, hb, hcur⟩ := hrel
    by_cases hlt : k < n
    · obtain ⟨g, cur, rfl, hh, hs, hm2⟩ := hcur (by omega)
      obtain ⟨o0, ho0⟩ := cell_of_heap (i := k) hh (by omega)
      have hf0 := frozen_of_heap (i := k) hh
      have HM := Lib.hid hm2
      have HH := Lib.hid hh
      clear hm2 hh hcur
      have hlt' : (k : Int) < n := by omega
      have hlt2 : k0 + 1 * (k : Int) + 1 ≤ 9223372036854775807 := by omega
      have hlt3 : 0 ≤ k0 + 1 * (k : Int) := by omega
      go_wp2
      refine ⟨⟨k + 1, by omega, by go_num, congrArg (Value.int IntKind.i64) (by omega), (hb.setCell (Or.inl ⟨0, rfl⟩) _), fun _ => ⟨g, _, rfl, (heap_set HH.out), ?_, ?_⟩⟩, by simp [intOf]; omega⟩
      · simpa using hs
      · intro j hj
        simp only [Array.getElem?_setIfInBounds, Array.size_setIfInBounds]
        have HM' := HM.out j
        repeat' split
        all_goals first
          | omega
          | exact HM' (by omega)
          | exact congrArg (fun z => some (Value.int IntKind.i64 z)) (by omega)
    · obtain rfl : k = n := by omega
      go_wp2
      go_ret
      refine ⟨rfl, rd_of_heap (fun h => ?_) (by omega), hb⟩
      obtain ⟨g, cur, hA, hh, hs, hm2⟩ := hcur h
      exact ⟨g, cur, _, _, hA, hh, hm2⟩

set_option maxHeartbeats 1000000 in
theorem markPtF (A : Option Addr) (n c lo : Nat) (k0 : Int) (w : World) (hn : n ≤ 1048577) (hk0 : 0 ≤ k0) (hk1 : k0 ≤ 1099511627776) (hw : Wr w lo A (n * 4) 97) :
    Calls Try.prog 108 #[.slice A n c, .int .i64 k0] w fun e w' => e = .returned (.int .i64 (k0 + 4 * (n : Int))) ∧ Rd w' A n 4 (imarks k0 (n * 4)) ∧ Fr (atB A) w w' := by
  have hm : n ≤ 9223372036854775807 := by omega
  have hkm : k0 + 4 * (n : Int) ≤ 9223372036854775800 := by omega
  have HW := Lib.hid hw
  clear hn hk1 hw
  go_enter Try.func108, Try.ntmps108
  go_wp2
  go_loopw [1, 5] (fun q i wr => ∃ k : Nat, k ≤ n ∧ i = .int .i64 k ∧ q = .int .i64 (k0 + 4 * (k : Int)) ∧ Fr (atB A) w wr ∧ (0 < n * 4 → ∃ g cur, A = some ⟨g, 0, none⟩ ∧ wr.heap[g]? = some (.cells cur 97 (0, 0)) ∧ n * 4 ≤ cur.size ∧ ∀ j, j < k * 4 → cur[j]? = some (.int .i64 (k0 + j)))) (fun _ i _ => n - (intOf i).toNat)
  case atStart =>
    refine ⟨0, Nat.zero_le _, rfl, by simp, Fr.refl _ _, fun h => ?_⟩
    obtain ⟨g, cur, hA, hg, hh, hs⟩ := HW.out h
    exact ⟨g, cur, hA, hh, hs, fun j hj => absurd hj (by omega)⟩
  case round =>
    obtain ⟨k, hk, rfl, rfl, hb, hcur⟩ := hrel
    by_cases hlt : k < n
    · obtain ⟨g, cur, rfl, hh, hs, hm2⟩ := hcur (by omega)
      obtain ⟨o0, ho0⟩ := cell_of_heap (i := k * 4) hh (by omega)
      have hf0 := frozen_of_heap (i := k * 4) hh
      obtain ⟨o1, ho1⟩ := cell_of_heap (i := k * 4 + 1) hh (by omega)
      have hf1 := frozen_of_heap (i := k * 4 + 1) hh
      obtain ⟨o2, ho2⟩ := cell_of_heap (i := k * 4 + 2) hh (by omega)
      have hf2 := frozen_of_heap (i := k * 4 + 2) hh
      obtain ⟨o3, ho3⟩ := cell_of_heap (i := k * 4 + 3) hh (by omega)
      have hf3 := frozen_of_heap (i := k * 4 + 3) hh
      have HM := Lib.hid hm2
      have HH := Lib.hid hh
      clear hm2 hh hcur
      have hlt' : (k : Int) < n := by omega
      have hlt2 : k0 + 4 * (k : Int) + 4 ≤ 9223372036854775807 := by omega
      have hlt3 : 0 ≤ k0 + 4 * (k : Int) := by omega
      go_wp2
      refine ⟨⟨k + 1, by omega, by go_num, congrArg (Value.int IntKind.i64) (by omega), ((((hb.setCell (Or.inl ⟨0, rfl⟩) _).setCell (Or.inl ⟨0, rfl⟩) _).setCell (Or.inl ⟨0, rfl⟩) _).setCell (Or.inl ⟨0, rfl⟩) _), fun _ => ⟨g, _, rfl, (heap_set (heap_set (heap_set (heap_set HH.out)))), ?_, ?_⟩⟩, by simp [intOf]; omega⟩
      · simpa using hs
      · intro j hj
        simp only [Array.getElem?_setIfInBounds, Array.size_setIfInBounds]
        have HM' := HM.out j
        repeat' split
        all_goals first
          | omega
          | exact HM' (by omega)
          | exact congrArg (fun z => some (Value.int IntKind.i64 z)) (by omega)
    · obtain rfl : k = n := by omega
      go_wp2
      go_ret
      refine ⟨rfl, rd_of_heap (fun h => ?_) (by omega), hb⟩
      obtain ⟨g, cur, hA, hh, hs, hm2⟩ := hcur h
      exact ⟨g, cur, _, _, hA, hh, hm2⟩

set_option maxHeartbeats 1000000 in
theorem markNodeF (A : Option Addr) (n c lo : Nat) (k0 : Int) (w : World) (hn : n ≤ 1048577) (hk0 : 0 ≤ k0) (hk1 : k0 ≤ 1099511627776) (hw : Wr w lo A (n * 4) 104) :
    Calls Try.prog 146 #[.slice A n c, .int .i64 k0] w fun e w' => e = .returned (.int .i64 (k0 + 4 * (n : Int))) ∧ Rd w' A n 4 (imarks k0 (n * 4)) ∧ Fr (atB A) w w' := by
  have hm : n ≤ 9223372036854775807 := by omega
  have hkm : k0 + 4 * (n : Int) ≤ 9223372036854775800 := by omega
  have HW := Lib.hid hw
  clear hn hk1 hw
  go_enter Try.func146, Try.ntmps146
  go_wp2
  go_loopw [1, 5] (fun q i wr => ∃ k : Nat, k ≤ n ∧ i = .int .i64 k ∧ q = .int .i64 (k0 + 4 * (k : Int)) ∧ Fr (atB A) w wr ∧ (0 < n * 4 → ∃ g cur, A = some ⟨g, 0, none⟩ ∧ wr.heap[g]? = some (.cells cur 104 (0, 0)) ∧ n * 4 ≤ cur.size ∧ ∀ j, j < k * 4 → cur[j]? = some (.int .i64 (k0 + j)))) (fun _ i _ => n - (intOf i).toNat)
  case atStart =>
    refine ⟨0, Nat.zero_le _, rfl, by simp, Fr.refl _ _, fun h => ?_⟩
    obtain ⟨g, cur, hA, hg, hh, hs⟩ := HW.out h
    exact ⟨g, cur, hA, hh, hs, fun j hj => absurd hj (by omega)⟩
  case round =>
    obtain ⟨k, hk, rfl, rfl, hb, hcur⟩ := hrel
    by_cases hlt : k < n
    · obtain ⟨g, cur, rfl, hh, hs, hm2⟩ := hcur (by omega)
      obtain ⟨o0, ho0⟩ := cell_of_heap (i := k * 4) hh (by omega)
      have hf0 := frozen_of_heap (i := k * 4) hh
      obtain ⟨o1, ho1⟩ := cell_of_heap (i := k * 4 + 1) hh (by omega)
      have hf1 := frozen_of_heap (i := k * 4 + 1) hh
      obtain ⟨o2, ho2⟩ := cell_of_heap (i := k * 4 + 2) hh (by omega)
      have hf2 := frozen_of_heap (i := k * 4 + 2) hh
      obtain ⟨o3, ho3⟩ := cell_of_heap (i := k * 4 + 3) hh (by omega)
      have hf3 := frozen_of_heap (i := k * 4 + 3) hh
      have HM := Lib.hid hm2
      have HH := Lib.hid hh
      clear hm2 hh hcur
      have hlt' : (k : Int) < n := by omega
      have hlt2 : k0 + 4 * (k : Int) + 4 ≤ 9223372036854775807 := by omega
      have hlt3 : 0 ≤ k0 + 4 * (k : Int) := by omega
      go_wp2
      refine ⟨⟨k + 1, by omega, by go_num, congrArg (Value.int IntKind.i64) (by omega), ((((hb.setCell (Or.inl ⟨0, rfl⟩) _).setCell (Or.inl ⟨0, rfl⟩) _).setCell (Or.inl ⟨0, rfl⟩) _).setCell (Or.inl ⟨0, rfl⟩) _), fun _ => ⟨g, _, rfl, (heap_set (heap_set (heap_set (heap_set HH.out)))), ?_, ?_⟩⟩, by simp [intOf]; omega⟩
      · simpa using hs
      · intro j hj
        simp only [Array.getElem?_setIfInBounds, Array.size_setIfInBounds]
        have HM' := HM.out j
        repeat' split
        all_goals first
          | omega
          | exact HM' (by omega)
          | exact congrArg (fun z => some (Value.int IntKind.i64 z)) (by omega)
    · obtain rfl : k = n := by omega
      go_wp2
      go_ret
      refine ⟨rfl, rd_of_heap (fun h => ?_) (by omega), hb⟩
      obtain ⟨g, cur, hA, hh, hs, hm2⟩ := hcur h
      exact ⟨g, cur, _, _, hA, hh, hm2⟩

set_option maxHeartbeats 1000000 in
theorem markProf_any (A : Option Addr) (n c lo : Nat) (k0 : Int) (w : World) (hn : n ≤ 1048577) (hk0 : 0 ≤ k0) (hk1 : k0 ≤ 1099511627776) (hw : Wr w lo A (n * 4) 97) :
    Calls Try.prog 37 #[.agg #[.slice A n c], .int .i64 k0] w fun e w' => e = .returned (.int .i64 (k0 + 4 * (n : Int))) ∧ Rd w' A n 4 (imarks k0 (n * 4)) ∧ Fr (atB A) w w' := by
  have HN := Lib.hid hn
  have HW := Lib.hid hw
  have H0 := Lib.hid hk0
  have H1 := Lib.hid hk1
  clear hn hk0 hk1 hw
  go_enter Try.func37, Try.ntmps37
  go_wp2_with fail
  refine (markPtF A n c lo k0 _ HN.out H0.out H1.out (HW.out.below (below_alloc _ _))).mono ?_
  rintro e w1 ⟨rfl, rd1, fr1⟩
  have RD1 := Lib.hid rd1
  have FR1 := Lib.hid fr1
  clear rd1 fr1
  go_wp2
  go_ret
  exact ⟨rfl, RD1.out, (Fr.of_below _ (below_alloc _ _)).trans FR1.out⟩
set_option maxHeartbeats 1000000 in
theorem heldProf_any (A : Option Addr) (n c : Nat) (k0 : Int) (w : World) (hn : n ≤ 1048577) (hk0 : 0 ≤ k0) (hk1 : k0 ≤ 1099511627776) (hr : Rd w A n 4 (imarks k0 (n * 4))) (hl : ∀ g, A = some ⟨g, 0, none⟩ → g < w.heap.size) :
    Calls Try.prog 38 #[.agg #[.slice A n c], .int .i64 k0] w fun e w' => e = .returned (.int .i64 (k0 + 4 * (n : Int))) ∧ Below w.heap.size w w' := by
  have HN := Lib.hid hn
  have HR := Lib.hid hr
  have HL := Lib.hid hl
  have H0 := Lib.hid hk0
  have H1 := Lib.hid hk1
  have hq : 0 ≤ k0 + 4 * (n : Int) := by omega
  clear hn hk0 hk1 hr hl
  go_enter Try.func38, Try.ntmps38
  go_wp2_with fail
  refine (heldPt_any A n c k0 _ HN.out H0.out H1.out (HR.out.below HL.out (below_alloc _ _))).mono ?_
  rintro e w1 ⟨rfl, rfl⟩
  go_wp2
  go_ret
  exact ⟨rfl, below_alloc _ _⟩
end Go.Proofs.Ytjnfdcojccgfoaa
