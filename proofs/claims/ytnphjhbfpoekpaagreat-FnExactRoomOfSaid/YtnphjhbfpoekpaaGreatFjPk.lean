import Derived.Test.YtnphjhbfpoekpaaGreatFfPk
import Derived.Test.YtnphjhbfpoekpaaGreatA22Pk
namespace Go.Proofs.YtnphjhbfpoekpaaGreat
set_option linter.unusedSimpArgs false
set_option linter.unusedVariables false
set_option linter.unnecessarySimpa false
open Go.RowKit
def bmk (k : Int) : Value := .bool (k % 3 == 0)
def bmarks (k0 : Int) (m : Nat) : List Value := (List.range m).map fun (j : Nat) => bmk (k0 + (j : Int))
theorem bmarks_get {k0 : Int} {m j : Nat} (h : j < m) : (bmarks k0 m)[j]? = some (bmk (k0 + (j : Int))) := by simp [bmarks, h]
theorem rd_of_bheap {w : World} {A : Option Addr} {n : Nat} {k0 : Int} (h : 0 < n → ∃ g cur e fr, A = some ⟨g, 0, none⟩ ∧ w.heap[g]? = some (.cells cur e fr) ∧ ∀ j, j < n → cur[j]? = some (bmk (k0 + j))) : Rd w A n 1 (bmarks k0 n) := by
  refine ⟨by simp [bmarks], fun hn => ?_⟩
  obtain ⟨g, cur, e, fr, hA, hh, hc⟩ := h hn
  refine ⟨g, hA, fun j u hj => ?_⟩
  have hjn : j < n := by
    have := (List.getElem?_eq_some_iff.1 hj).1
    simpa [bmarks] using this
  rw [bmarks_get hjn] at hj
  simp only [World.cell?, hh]
  simpa using (hc j hjn).trans hj
set_option maxHeartbeats 2000000 in
theorem markBoolG (A : Option Addr) (n c lo : Nat) (k0 : Int) (w : World) (hn : n ≤ 1048577) (hk0 : 0 ≤ k0) (hk1 : k0 ≤ 2305843009213693952) (hw : Wr w lo A (n * 1) 4) :
    Calls Tryz.prog 106 #[.slice A n c, .int .i64 k0] w fun e w' => e = .returned (.int .i64 (k0 + (n : Int))) ∧ Rd w' A n 1 (bmarks k0 n) ∧ Fr (atB A) w w' := by
  have hm : n ≤ 9223372036854775807 := by omega
  have hkm : k0 + (n : Int) ≤ 9223372036854775800 := by omega
  have HW := Lib.hid hw
  clear hn hk1 hw
  go_enter Tryz.func106, Tryz.ntmps106
  go_wp2
  go_loopw [1, 5] (fun q i wr => ∃ k : Nat, k ≤ n ∧ i = .int .i64 k ∧ q = .int .i64 (k0 + (k : Int)) ∧ Fr (atB A) w wr ∧ (0 < n * 1 → ∃ g cur, A = some ⟨g, 0, none⟩ ∧ wr.heap[g]? = some (.cells cur 4 (0, 0)) ∧ n * 1 ≤ cur.size ∧ ∀ j, j < k → cur[j]? = some (bmk (k0 + j)))) (fun _ i _ => n - (intOf i).toNat)
  case atStart =>
    refine ⟨0, Nat.zero_le _, rfl, by simp, Fr.refl _ _, fun h => ?_⟩
    obtain ⟨g, cur, hA, hg, hh, hs⟩ := HW.out h
    exact ⟨g, cur, hA, hh, hs, fun j hj => absurd hj (by omega)⟩
  case round =>
    obtain ⟨k, hk, rfl, rfl, hb, hcur⟩ := hrel
    by_cases hlt : k < n
    · obtain ⟨g, cur, rfl, hh, hs, hm2⟩ := hcur (by omega)
      obtain ⟨o0, ho0⟩ := zAj (i := k) hh (by omega)
      have hf0 := zAi (i := k) hh
      have HH := Lib.hid hh
      have HM := Lib.hid hm2
      clear hh hcur hm2
      have hlt' : (k : Int) < n := by omega
      have hlt2 : k0 + (k : Int) + 1 ≤ 9223372036854775807 := by omega
      have hlt3 : 0 ≤ k0 + (k : Int) := by omega
      go_wp2
      refine ⟨⟨k + 1, by omega, by go_num, congrArg (Value.int IntKind.i64) (by omega), (hb.setCell (Or.inl ⟨0, rfl⟩) _), fun _ => ⟨g, _, rfl, (zAk HH.out), ?_, ?_⟩⟩, by simp [intOf]; omega⟩
      · simpa using hs
      · intro j hj
        simp only [Array.getElem?_setIfInBounds, Array.size_setIfInBounds]
        have HM' := HM.out j
        split
        · subst_vars
          rw [if_pos (by omega)]
          unfold bmk
          first | rfl | (congr; done) | simp
        · exact HM' (by omega)
    · obtain rfl : k = n := by omega
      go_wp2
      go_ret
      refine ⟨rfl, rd_of_bheap (fun h => ?_), hb⟩
      obtain ⟨g, cur, hA, hh, hs, hm2⟩ := hcur (by omega)
      exact ⟨g, cur, _, _, hA, hh, hm2⟩
set_option maxHeartbeats 1000000 in
theorem heldBoolG (A : Option Addr) (n c : Nat) (k0 : Int) (w : World) (hn : n ≤ 1048577) (hk0 : 0 ≤ k0) (hk1 : k0 ≤ 2305843009213693952) (hr : Rd w A n 1 (bmarks k0 n)) :
    Calls Tryz.prog 112 #[.slice A n c, .int .i64 k0] w fun e w' => e = .returned (.int .i64 (k0 + (n : Int))) ∧ w = w' := by
  have hm : n ≤ 9223372036854775807 := by omega
  have hkm : k0 + (n : Int) ≤ 9223372036854775800 := by omega
  have HR := Lib.hid hr
  clear hn hk1 hr
  go_enter Tryz.func112, Tryz.ntmps112
  go_wp2
  go_loop [1, 5] (fun q i => ∃ k : Nat, k ≤ n ∧ i = .int .i64 k ∧ q = .int .i64 (k0 + (k : Int))) (fun _ i => n - (intOf i).toNat)
  case atStart => exact ⟨0, Nat.zero_le _, rfl, by simp⟩
  case round =>
    obtain ⟨k, hk, rfl, rfl⟩ := hrel
    by_cases hlt : k < n
    · obtain ⟨g, u, rfl, hu, hc⟩ := HR.out.at_ hlt
      rw [bmarks_get hlt] at hu
      obtain rfl := Option.some.inj hu
      have hlt' : (k : Int) < n := by omega
      have hlt2 : k0 + (k : Int) + 1 ≤ 9223372036854775807 := by omega
      have hlt3 : 0 ≤ k0 + (k : Int) := by omega
      clear HR hu
      by_cases h3 : (k0 + (k : Int)) % 3 = 0
      · have c0 : w.cell? ⟨g, k, none⟩ = some (.bool true) := hc.trans (by simp [bmk, h3])
        clear hc
        go_wp2
        exact ⟨⟨k + 1, by omega, by go_num, congrArg (Value.int IntKind.i64) (by omega)⟩, by simp [intOf]; omega⟩
      · have c0 : w.cell? ⟨g, k, none⟩ = some (.bool false) := hc.trans (by simp [bmk, h3])
        clear hc
        go_wp2
        exact ⟨⟨k + 1, by omega, by go_num, congrArg (Value.int IntKind.i64) (by omega)⟩, by simp [intOf]; omega⟩
    · obtain rfl : k = n := by omega
      go_wp2
      go_ret
      exact ⟨rfl, rfl⟩
set_option maxHeartbeats 1000000 in
theorem heldPtG (A : Option Addr) (n c : Nat) (k0 : Int) (w : World) (hn : n ≤ 1048577) (hk0 : 0 ≤ k0) (hk1 : k0 ≤ 2305843009213693952) (hr : Rd w A n 4 (imarks k0 (n * 4))) :
    Calls Tryz.prog 184 #[.slice A n c, .int .i64 k0] w fun e w' => e = .returned (.int .i64 (k0 + 4 * (n : Int))) ∧ w = w' := by
  have hm : n ≤ 9223372036854775807 := by omega
  have hkm : k0 + 4 * (n : Int) ≤ 9223372036854775800 := by omega
  have HR := Lib.hid hr
  clear hn hk1 hr
  go_enter Tryz.func184, Tryz.ntmps184
  go_wp2
  go_loop [1, 5] (fun q i => ∃ k : Nat, k ≤ n ∧ i = .int .i64 k ∧ q = .int .i64 (k0 + 4 * (k : Int))) (fun _ i => n - (intOf i).toNat)
  case atStart => exact ⟨0, Nat.zero_le _, rfl, by simp⟩
  case round =>
    obtain ⟨k, hk, rfl, rfl⟩ := hrel
    by_cases hlt : k < n
    · obtain ⟨g, rfl, hc⟩ := HR.out.mk_at hlt
      have c0 : w.cell? ⟨g, k * 4, none⟩ = some (.int .i64 (k0 + 4 * (k : Int))) := (hc _ (by omega)).trans (congrArg (fun z => some (Value.int IntKind.i64 z)) (by omega))
      have c1 : w.cell? ⟨g, k * 4 + 1, none⟩ = some (.int .i64 (k0 + 4 * (k : Int) + 1)) := (hc _ (by omega)).trans (congrArg (fun z => some (Value.int IntKind.i64 z)) (by omega))
      have c2 : w.cell? ⟨g, k * 4 + 2, none⟩ = some (.int .i64 (k0 + 4 * (k : Int) + 1 + 1)) := (hc _ (by omega)).trans (congrArg (fun z => some (Value.int IntKind.i64 z)) (by omega))
      have c3 : w.cell? ⟨g, k * 4 + 3, none⟩ = some (.int .i64 (k0 + 4 * (k : Int) + 1 + 1 + 1)) := (hc _ (by omega)).trans (congrArg (fun z => some (Value.int IntKind.i64 z)) (by omega))
      clear hc HR
      have hlt' : (k : Int) < n := by omega
      have hlt2 : k0 + 4 * (k : Int) + 4 ≤ 9223372036854775807 := by omega
      have hlt3 : 0 ≤ k0 + 4 * (k : Int) := by omega
      go_wp2
      exact ⟨⟨k + 1, by omega, by go_num, congrArg (Value.int IntKind.i64) (by omega)⟩, by simp [intOf]; omega⟩
    · obtain rfl : k = n := by omega
      go_wp2
      go_ret
      exact ⟨rfl, rfl⟩
set_option maxHeartbeats 1000000 in
theorem heldProfG (A : Option Addr) (n c : Nat) (k0 : Int) (w : World) (hn : n ≤ 1048577) (hk0 : 0 ≤ k0) (hk1 : k0 ≤ 2305843009213693952) (hr : Rd w A n 4 (imarks k0 (n * 4))) (hl : ∀ g, A = some ⟨g, 0, none⟩ → g < w.heap.size) :
    Calls Tryz.prog 114 #[.agg #[.slice A n c], .int .i64 k0] w fun e w' => e = .returned (.int .i64 (k0 + 4 * (n : Int))) ∧ Below w.heap.size w w' := by
  have HN := Lib.hid hn
  have HR := Lib.hid hr
  have HL := Lib.hid hl
  have H0 := Lib.hid hk0
  have H1 := Lib.hid hk1
  have hq : 0 ≤ k0 + 4 * (n : Int) := by omega
  clear hn hk0 hk1 hr hl
  go_enter Tryz.func114, Tryz.ntmps114
  go_wp2_with fail
  refine (heldPtG A n c k0 _ HN.out H0.out H1.out (HR.out.below HL.out (zAa _ _))).mono ?_
  rintro e w1 ⟨rfl, rfl⟩
  go_wp2
  go_ret
  exact ⟨rfl, zAa _ _⟩
set_option maxHeartbeats 1000000 in
theorem markProfR (A : Option Addr) (n c lo : Nat) (k0 : Int) (w : World) (hn : n ≤ 1048577) (hk0 : 0 ≤ k0) (hk1 : k0 ≤ 2305843009213693952) (hw : Wr w lo A (n * 4) 177) :
    Calls Tryz.prog 110 #[.agg #[.slice A n c], .int .i64 k0] w fun e w' => e = .returned (.int .i64 (k0 + 4 * (n : Int))) ∧ Rd w' A n 4 (imarks k0 (n * 4)) ∧ Fr (atB A) w w' := by
  have HN := Lib.hid hn
  have HW := Lib.hid hw
  have H0 := Lib.hid hk0
  have H1 := Lib.hid hk1
  clear hn hk0 hk1 hw
  go_enter Tryz.func110, Tryz.ntmps110
  go_wp2_with fail
  refine (markPtG A n c lo k0 _ HN.out H0.out H1.out (HW.out.below (zAa _ _))).mono ?_
  rintro e w1 ⟨rfl, rd1, fr1⟩
  have FR1 := Lib.hid fr1
  have RD1 := Lib.hid rd1
  clear rd1 fr1
  go_wp2
  go_ret
  exact ⟨rfl, RD1.out, (Fr.of_below _ (zAa _ _)).trans FR1.out⟩
set_option maxHeartbeats 1000000 in
theorem markIntG (A : Option Addr) (n c lo : Nat) (k0 : Int) (w : World) (hn : n ≤ 1048577) (hk0 : 0 ≤ k0) (hk1 : k0 ≤ 2305843009213693952) (hw : Wr w lo A (n * 1) 3) :
    Calls Tryz.prog 123 #[.slice A n c, .int .i64 k0] w fun e w' => e = .returned (.int .i64 (k0 + 1 * (n : Int))) ∧ Rd w' A n 1 (imarks k0 (n * 1)) ∧ Fr (atB A) w w' := by
  have hm : n ≤ 9223372036854775807 := by omega
  have hkm : k0 + 1 * (n : Int) ≤ 9223372036854775800 := by omega
  have HW := Lib.hid hw
  clear hn hk1 hw
  go_enter Tryz.func123, Tryz.ntmps123
  go_wp2
  go_loopw [1, 5] (fun q i wr => ∃ k : Nat, k ≤ n ∧ i = .int .i64 k ∧ q = .int .i64 (k0 + 1 * (k : Int)) ∧ Fr (atB A) w wr ∧ (0 < n * 1 → ∃ g cur, A = some ⟨g, 0, none⟩ ∧ wr.heap[g]? = some (.cells cur 3 (0, 0)) ∧ n * 1 ≤ cur.size ∧ ∀ j, j < k * 1 → cur[j]? = some (.int .i64 (k0 + j)))) (fun _ i _ => n - (intOf i).toNat)
  case atStart =>
    refine ⟨0, Nat.zero_le _, rfl, by simp, Fr.refl _ _, fun h => ?_⟩
    obtain ⟨g, cur, hA, hg, hh, hs⟩ := HW.out h
    exact ⟨g, cur, hA, hh, hs, fun j hj => absurd hj (by omega)⟩
  case round =>
    obtain ⟨k, hk, rfl, rfl, hb, hcur⟩ := hrel
    by_cases hlt : k < n
    · obtain ⟨g, cur, rfl, hh, hs, hm2⟩ := hcur (by omega)
      obtain ⟨o0, ho0⟩ := zAj (i := k) hh (by omega)
      have hf0 := zAi (i := k) hh
      have HM := Lib.hid hm2
      have HH := Lib.hid hh
      clear hm2 hh hcur
      have hlt' : (k : Int) < n := by omega
      have hlt2 : k0 + 1 * (k : Int) + 1 ≤ 9223372036854775807 := by omega
      have hlt3 : 0 ≤ k0 + 1 * (k : Int) := by omega
      go_wp2
      refine ⟨⟨k + 1, by omega, by go_num, congrArg (Value.int IntKind.i64) (by omega), (hb.setCell (Or.inl ⟨0, rfl⟩) _), fun _ => ⟨g, _, rfl, (zAk HH.out), ?_, ?_⟩⟩, by simp [intOf]; omega⟩
      · simpa using hs
      · intro j hj
        simp only [Array.getElem?_setIfInBounds, Array.size_setIfInBounds]
        have HM' := HM.out j
        repeat' split
        all_goals first
          | omega
          | exact HM' (by omega)
          | exact congrArg (fun z => some (Value.int IntKind.i64 z)) (by omega)
    · obtain rfl : k = n := by omega
      go_wp2
      go_ret
      refine ⟨rfl, rd_of_heap (fun h => ?_) (by omega), hb⟩
      obtain ⟨g, cur, hA, hh, hs, hm2⟩ := hcur h
      exact ⟨g, cur, _, _, hA, hh, hm2⟩
set_option maxHeartbeats 1000000 in
theorem markTopoG (A B : Option Addr) (n c m d lo lo2 : Nat) (w : World) (hn : n ≤ 1048577) (hm : m ≤ 1048577) (hw : Wr w lo A (n * 1) 3) (hw2 : Wr w lo2 B (m * 4) 199) (hne : ∀ k, atB A k → ¬ atB B k) (hnb : ∀ k, atB A k → k < w.heap.size) :
    Calls Tryz.prog 43 #[.agg #[.slice A n c, .slice B m d], .int .i64 1] w fun e w' => e = .returned (.int .i64 (1 + 1 * (n : Int) + 4 * (m : Int))) ∧ Rd w' A n 1 (imarks 1 (n * 1)) ∧ Rd w' B m 4 (imarks (1 + 1 * (n : Int)) (m * 4)) ∧ Fr (atT A B) w w' := by
  have hp : 0 ≤ 1 + 1 * (n : Int) := by omega
  have hp2 : 1 + 1 * (n : Int) ≤ 1099511627776 := by omega
  have HN := Lib.hid hn
  have HM := Lib.hid hm
  have HW := Lib.hid hw
  have HW2 := Lib.hid hw2
  have HNE := Lib.hid hne
  have HNB := Lib.hid hnb
  clear hn hm hw hw2 hne hnb
  go_enter Tryz.func43, Tryz.ntmps43
  go_wp2_with fail
  refine (markIntF A n c lo 1 _ HN.out (by omega) (by omega) (HW.out.below (zAa _ _))).mono ?_
  rintro e w1 ⟨rfl, rd1, fr1⟩
  have RD1 := Lib.hid rd1
  clear rd1
  have hk1 := fun o => fr1.cell (b := w.heap.size) (by simp) (fun h => by
    obtain ⟨o, hA⟩ := h
    have hb := HNB.out _ ⟨o, hA⟩
    omega) o
  have FR1 := Lib.hid fr1
  clear fr1
  go_wp2_with fail
  refine (markNodeF B m d lo2 _ _ HM.out (by omega) (by omega) (Wr.fr (HW2.out.below (zAa _ _)) FR1.out (fun k h1 h2 => HNE.out k h2 h1))).mono ?_
  rintro e w2 ⟨rfl, rd2, fr2⟩
  have RD2 := Lib.hid rd2
  clear rd2
  have RD1' := Lib.hid (Rd.fr RD1.out (fun g hg => Nat.lt_of_lt_of_le (HNB.out g ⟨0, hg⟩) (Nat.le_trans (by simp) FR1.out.size)) fr2 (fun k h1 h2 => HNE.out k h1 h2))
  have FR2 := Lib.hid fr2
  clear fr2
  go_wp2
  go_ret
  exact ⟨ret_int (by omega), RD1'.out, by rw [show (1 + 1 * (n : Int)) = 1 + n by omega]; exact RD2.out, ((Fr.of_below _ (zAa _ _)).trans (FR1.out.mono (fun k hk => Or.inl hk))).trans (FR2.out.mono (fun k hk => Or.inr hk))⟩
set_option maxHeartbeats 1000000 in
theorem heldTopoG (A B : Option Addr) (n c m d : Nat) (w : World) (hn : n ≤ 1048577) (hm : m ≤ 1048577) (hr : Rd w A n 1 (imarks 1 (n * 1))) (hq : Rd w B m 4 (imarks (1 + 1 * (n : Int)) (m * 4))) (hl : ∀ g, A = some ⟨g, 0, none⟩ → g < w.heap.size) (hl2 : ∀ g, B = some ⟨g, 0, none⟩ → g < w.heap.size) :
    Calls Tryz.prog 111 #[.agg #[.slice A n c, .slice B m d], .int .i64 1] w fun e w' => e = .returned (.int .i64 (1 + 1 * (n : Int) + 4 * (m : Int))) ∧ Below w.heap.size w w' := by
  have hp : 0 ≤ 1 + (n : Int) := by omega
  have hp2 : 1 + (n : Int) ≤ 1099511627776 := by omega
  have hp3 : 0 ≤ 1 + (n : Int) + 4 * (m : Int) := by omega
  have hq' : Rd w B m 4 (imarks (1 + (n : Int)) (m * 4)) := by simpa using hq
  have HN := Lib.hid hn
  have HM := Lib.hid hm
  have HR := Lib.hid hr
  have HQ := Lib.hid hq'
  have HL := Lib.hid hl
  have HL2 := Lib.hid hl2
  clear hn hm hr hq hq' hl hl2
  go_enter Tryz.func111, Tryz.ntmps111
  go_wp2_with fail
  refine (heldInt_any A n c 1 _ HN.out (by omega) (by omega) (HR.out.below HL.out (zAa _ _))).mono ?_
  rintro e w1 ⟨rfl, rfl⟩
  go_wp2_with fail
  refine (heldNode_any B m d _ _ HM.out (by omega) (by omega) (HQ.out.below HL2.out (zAa _ _))).mono ?_
  rintro e w2 ⟨rfl, rfl⟩
  go_wp2
  go_ret
  exact ⟨ret_int (by omega), zAa _ _⟩
def cntP (pss : List (List Q)) : Nat := (pss.map List.length).sum
theorem cntP_snoc {pss : List (List Q)} {k : Nat} {ps : List Q} (h : pss[k]? = some ps) : cntP (pss.take (k + 1)) = cntP (pss.take k) + ps.length := by
  rw [take_snoc' h]; simp [cntP]
structure PM (w : World) (A : Option Addr) (n : Nat) (xs : List Value) (pss : List (List Q)) (k0 : Int) (k : Nat) : Prop where
  row : Rd w A n 1 xs
  rl : ∀ g, A = some ⟨g, 0, none⟩ → g < w.heap.size
  len : pss.length = n
  each : ∀ (i : Nat) x ps, i < k → xs[i]? = some x → pss[i]? = some ps → ps.length ≤ 1048576 ∧ ∃ B c, x = .slice B ps.length c ∧ Rd w B ps.length 4 (imarks (k0 + 4 * (cntP (pss.take i) : Int)) (ps.length * 4)) ∧ ∀ g, B = some ⟨g, 0, none⟩ → g < w.heap.size
theorem PM.fr {S : Nat → Prop} {w w' : World} {A : Option Addr} {n : Nat} {xs : List Value} {pss : List (List Q)} {k0 : Int} {k : Nat} (h : PM w A n xs pss k0 k) (hb : Fr S w w') (h1 : ∀ b, atB A b → ¬ S b) (h2 : ∀ b, atX xs k b → ¬ S b) : PM w' A n xs pss k0 k :=
  ⟨h.row.fr h.rl hb h1, fun g hg => Nat.lt_of_lt_of_le (h.rl g hg) hb.size, h.len, fun i x ps hi hx hp => by
    obtain ⟨hl, B, c, rfl, hr, hB⟩ := h.each i x ps hi hx hp
    exact ⟨hl, B, c, rfl, hr.fr hB hb (fun b hb2 => h2 b ⟨i, _, hi, hx, atB_own' hb2⟩), fun g hg => Nat.lt_of_lt_of_le (hB g hg) hb.size⟩⟩
theorem PM.bel {w w' : World} {A : Option Addr} {n : Nat} {xs : List Value} {pss : List (List Q)} {k0 : Int} {k : Nat} (h : PM w A n xs pss k0 k) (hb : Below w.heap.size w w') : PM w' A n xs pss k0 k :=
  h.fr (Fr.of_below (fun _ => False) hb) (fun _ _ h => h) (fun _ _ h => h)
set_option maxHeartbeats 2000000 in
theorem markProfS_rd (A : Option Addr) (n c lo : Nat) (k0 : Int) (pss : List (List Q)) (xs : List Value) (w : World) (hn : n ≤ 1048577) (hk0 : 0 ≤ k0) (hk1 : k0 ≤ 1099511627776) (hp : OwnP w lo (.slice A n c) n xs pss) :
    Calls Tryz.prog 109 #[.slice A n c, .int .i64 k0] w fun e w' => e = .returned (.int .i64 (k0 + 4 * (cntP pss : Int))) ∧ 4 * (cntP pss : Int) ≤ 4194304 * (n : Int) ∧ PM w' A n xs pss k0 n ∧ Fr (atX xs n) w w' := by
  have hm : n ≤ 9223372036854775807 := by omega
  have hxl := hp.xlen
  have HP := Lib.hid hp
  have HN := Lib.hid hn
  have hK1 := Lib.hid hk1
  clear hp hn
  go_enter Tryz.func109, Tryz.ntmps109
  go_wp2
  go_loopw [1, 5] (fun q i wr => ∃ (k : Nat) (K : Int), k ≤ n ∧ i = .int .i64 k ∧ q = .int .i64 K ∧ 0 ≤ K ∧ K ≤ k0 + 4194304 * (k : Int) ∧ Fr (atX xs k) w wr ∧ K = k0 + 4 * (cntP (pss.take k) : Int) ∧ PM wr A n xs pss k0 k) (fun _ i _ => n - (intOf i).toNat)
  case atStart => exact ⟨0, k0, Nat.zero_le _, rfl, rfl, hk0, by omega, Fr.refl _ _, by simp [cntP], ⟨own_rdd' HP.out.own, own_blk HP.out.own, HP.out.len, fun i x ps hi => absurd hi (by omega)⟩⟩
  case round =>
    obtain ⟨k, K, hk, rfl, rfl, hK0, hK9, hb, hKc, hpm⟩ := hrel
    have KC := Lib.hid hKc
    have PM1 := Lib.hid hpm
    clear hKc hpm
    by_cases hlt : k < n
    · have hlt' : (k : Int) < n := by omega
      obtain ⟨g, x, rfl, hx, hc⟩ := (own_rdd' HP.out.own).at_ hlt
      have hps : ∃ ps, pss[k]? = some ps := ⟨_, zgh (by have := HP.out.len; omega)⟩
      obtain ⟨ps, hps⟩ := hps
      obtain ⟨hle, hox⟩ := HP.out.each k x ps hx hps
      obtain ⟨B, c', rfl, rdx⟩ := zAt hox
      have hgl := own_blk HP.out.own g rfl
      have hng : ¬ atX xs k g := by
        rintro ⟨i, x', hi, hx', ho⟩
        obtain ⟨ps', hps'⟩ : ∃ ps', pss[i]? = some ps' := ⟨_, zgh (by have := HP.out.len; omega)⟩
        exact own_ap (HP.out.each i x' ps' hx' hps').2 HP.out.own (by decide) g ho rfl
      have hcr := (hb.cell hgl hng k).trans hc
      have hw : Wr wr lo B (ps.length * 4) 177 := (own_wr2 hox).fr hb (by
        rintro b ⟨o, hB⟩ ⟨i, x', hi, hx', ho⟩
        subst hB
        exact HP.out.apart i k x' _ hi hx' hx b ho rfl)
      have HW := Lib.hid hw
      have HX := Lib.hid hx
      have HPS := Lib.hid hps
      have HLE := Lib.hid hle
      have HB := Lib.hid hb
      clear hx hps hox rdx hng hw hb hc
      have hk9 : K ≤ 2305843009213693952 := by have := hK1.out; have := HN.out; omega
      go_wp2_with fail
      refine (markPtG B ps.length c' lo K _ (by omega) hK0 hk9 HW.out).mono ?_
      rintro e w1 ⟨rfl, rd1, fr1⟩
      have hF1 : Fr (atX xs (k + 1)) w w1 := (HB.out.mono (by rintro b ⟨i, x', hi, h1, h2⟩; exact ⟨i, x', by omega, h1, h2⟩)).trans (fr1.mono (by
        rintro b ⟨o, hB⟩
        subst hB
        exact ⟨k, _, by omega, HX.out, rfl⟩))
      have HF1 := Lib.hid hF1
      have KC2 := Lib.hid (show K + 4 * (ps.length : Int) = k0 + 4 * (cntP (pss.take (k + 1)) : Int) by rw [cntP_snoc HPS.out, KC.out]; omega)
      have PM2 : Hid (PM w1 (some ⟨g, 0, none⟩) n xs pss k0 (k + 1)) := Lib.hid ⟨PM1.out.row.fr PM1.out.rl fr1 (fun b hb1 hb2 => own_ap (HP.out.each k _ ps HX.out HPS.out).2 HP.out.own (by decide) b (atB_own' hb2) (atB_own' hb1)), fun g hg => Nat.lt_of_lt_of_le (PM1.out.rl g hg) fr1.size, PM1.out.len, fun i x ps2 hi hx2 hp2 => by
        by_cases hik : i < k
        · obtain ⟨hl, B2, c2, rfl, hr2, hB2⟩ := PM1.out.each i x ps2 hik hx2 hp2
          exact ⟨hl, B2, c2, rfl, hr2.fr hB2 fr1 (fun b h1 h2 => HP.out.apart i k _ _ hik hx2 HX.out b (atB_own' h1) (atB_own' h2)), fun g hg => Nat.lt_of_lt_of_le (hB2 g hg) fr1.size⟩
        · obtain rfl : i = k := by omega
          rw [HX.out] at hx2
          rw [HPS.out] at hp2
          obtain rfl := Option.some.inj hx2
          obtain rfl := Option.some.inj hp2
          exact ⟨HLE.out, B, c', rfl, by rw [← KC.out]; exact rd1, fun g hg => Nat.lt_of_lt_of_le (own_lt (HP.out.each i _ ps HX.out HPS.out).2 g (atB_own' ⟨0, hg⟩)) (Nat.le_trans HB.out.size fr1.size)⟩⟩
      clear rd1 fr1 hF1
      go_wp2
      go_roundw
      case rel => exact ⟨k + 1, K + 4 * (ps.length : Int), by omega, by go_num, by first | rfl | (congr 1; omega), by omega, by omega, HF1.out, KC2.out, PM2.out⟩
      case measure => simp [intOf]; omega
    · obtain rfl : k = n := by omega
      go_wp2
      go_ret
      have KC2 := KC.out
      rw [List.take_of_length_le (by have := HP.out.len; omega)] at KC2
      subst KC2
      exact ⟨rfl, by omega, PM1.out, hb⟩
set_option maxHeartbeats 1000000 in
theorem heldProfS_rd (A : Option Addr) (n c : Nat) (k0 : Int) (pss : List (List Q)) (xs : List Value) (w : World) (hn : n ≤ 1048577) (hk0 : 0 ≤ k0) (hk1 : k0 ≤ 1099511627776) (hc : 4 * (cntP pss : Int) ≤ 4194304 * (n : Int)) (hp : PM w A n xs pss k0 n) :
    Calls Tryz.prog 113 #[.slice A n c, .int .i64 k0] w fun e w' => e = .returned (.int .i64 (k0 + 4 * (cntP pss : Int))) ∧ Below w.heap.size w w' := by
  have hm : n ≤ 9223372036854775807 := by omega
  have HP := Lib.hid hp
  have HN := Lib.hid hn
  have hK1 := Lib.hid hk1
  clear hp hn hc
  go_enter Tryz.func113, Tryz.ntmps113
  go_wp2
  go_loopw [1, 5] (fun q i wr => ∃ (k : Nat) (K : Int), k ≤ n ∧ i = .int .i64 k ∧ q = .int .i64 K ∧ 0 ≤ K ∧ K ≤ k0 + 4194304 * (k : Int) ∧ K = k0 + 4 * (cntP (pss.take k) : Int) ∧ Below w.heap.size w wr) (fun _ i _ => n - (intOf i).toNat)
  case atStart => exact ⟨0, k0, Nat.zero_le _, rfl, rfl, hk0, by omega, by simp [cntP], Below.refl _ _⟩
  case round =>
    obtain ⟨k, K, hk, rfl, rfl, hK0, hK9, hKc, hb⟩ := hrel
    have KC := Lib.hid hKc
    clear hKc
    by_cases hlt : k < n
    · have hlt' : (k : Int) < n := by omega
      obtain ⟨g, x, rfl, hx, hc⟩ := (HP.out.bel hb).row.at_ hlt
      obtain ⟨ps, hps⟩ : ∃ ps, pss[k]? = some ps := ⟨_, zgh (by have := HP.out.len; omega)⟩
      obtain ⟨hle, B, c', rfl, rdx, hB⟩ := (HP.out.bel hb).each k x ps hlt hx hps
      rw [← KC.out] at rdx
      have HRX := Lib.hid rdx
      have HPS := Lib.hid hps
      have HB := Lib.hid hb
      clear hx hps rdx hB hb
      have hk9 : K ≤ 2305843009213693952 := by have := hK1.out; have := HN.out; omega
      have hq : 0 ≤ K + 4 * (ps.length : Int) := by omega
      go_wp2_with fail
      refine (heldPtG B ps.length c' K _ (by omega) hK0 hk9 HRX.out).mono ?_
      rintro e w1 ⟨rfl, rfl⟩
      have KC2 := Lib.hid (show K + 4 * (ps.length : Int) = k0 + 4 * (cntP (pss.take (k + 1)) : Int) by rw [cntP_snoc HPS.out, KC.out]; omega)
      go_wp2
      go_roundw
      case rel => exact ⟨k + 1, K + 4 * (ps.length : Int), by omega, by go_num, by first | rfl | (congr 1; omega), by omega, by omega, KC2.out, HB.out⟩
      case measure => simp [intOf]; omega
    · obtain rfl : k = n := by omega
      have KC2 := KC.out
      rw [List.take_of_length_le (by have := HP.out.len; omega)] at KC2
      subst KC2
      go_wp2
      go_ret
      exact ⟨rfl, hb⟩
structure RoomMk (w : World) (a : RA) (r : Rm) (xs : List Value) : Prop where
  n : a.n ≤ 1048576
  m : a.m ≤ 1048576
  nu : a.nu ≤ 1048576
  np : a.np ≤ 1048576
  nl : a.nl ≤ 1048576
  cn : 4 * (cntP r.profs : Int) ≤ 4194304 * (a.np : Int)
  par : Rd w a.A a.n 1 (imarks 1 (a.n * 1))
  nodes : Rd w a.B a.m 4 (imarks (1 + 1 * (a.n : Int)) (a.m * 4))
  up : Rd w a.U a.nu 1 (bmarks (1 + 1 * (a.n : Int) + 4 * (a.m : Int)) a.nu)
  profs : PM w a.R a.np xs r.profs (1 + 1 * (a.n : Int) + 4 * (a.m : Int) + (a.nu : Int)) a.np
  lics : Rd w a.L a.nl 4 (imarks (1 + 1 * (a.n : Int) + 4 * (a.m : Int) + (a.nu : Int) + 4 * (cntP r.profs : Int)) (a.nl * 4))
  lA : ∀ g, a.A = some ⟨g, 0, none⟩ → g < w.heap.size
  lB : ∀ g, a.B = some ⟨g, 0, none⟩ → g < w.heap.size
  lU : ∀ g, a.U = some ⟨g, 0, none⟩ → g < w.heap.size
  lL : ∀ g, a.L = some ⟨g, 0, none⟩ → g < w.heap.size
def rmTot (a : RA) (r : Rm) : Int := 1 + 1 * (a.n : Int) + 4 * (a.m : Int) + (a.nu : Int) + 4 * (cntP r.profs : Int) + 4 * (a.nl : Int)
theorem RoomMk.bel {w w' : World} {a : RA} {r : Rm} {xs : List Value} (h : RoomMk w a r xs) (hb : Below w.heap.size w w') : RoomMk w' a r xs :=
  ⟨h.n, h.m, h.nu, h.np, h.nl, h.cn, h.par.below h.lA hb, h.nodes.below h.lB hb, h.up.below h.lU hb, h.profs.bel hb, h.lics.below h.lL hb, zAm h.lA hb, zAm h.lB hb, zAm h.lU hb, zAm h.lL hb⟩
theorem RoomMk.tot {w : World} {a : RA} {r : Rm} {xs : List Value} (h : RoomMk w a r xs) : 0 ≤ rmTot a r ∧ rmTot a r ≤ 2305843009213693952 := by
  have h1 := h.n; have h2 := h.m; have h3 := h.nu; have h4 := h.np; have h5 := h.nl; have h6 := h.cn
  unfold rmTot
  omega
theorem own_atB {w : World} {lo : Nat} {e : TypeId} {size : Nat} {A : Option Addr} {n c m : Nat} {xs : List Value} (h : w.ownsRow lo e size (.slice A n c) m xs) {k : Nat} (hk : (Value.slice A n c).ownBlock = some k) : atB A k := by
  rcases h.2 with ⟨h0, _⟩ | ⟨g, cap, cur, hv, _⟩
  · cases h0; cases hk
  · cases hv; cases hk; exact ⟨0, rfl⟩
def atQ (a : RA) (xs : List Value) (b : Nat) : Prop := atR a xs b ∨ atB a.R b
theorem room_rng2 {w : World} {lo : Nat} {a : RA} {r : Rm} {xs : List Value} (h : RoomOwn w lo a r xs) : ∀ k, atQ a xs k → lo ≤ k ∧ k < w.heap.size := by
  rintro k (h1 | h1)
  · exact room_rng h k h1
  · exact own_rng h.profs.own k h1
theorem RoomOwn.fr {S : Nat → Prop} {w w' : World} {lo : Nat} {a : RA} {r : Rm} {xs : List Value} (h : RoomOwn w lo a r xs) (hb : Fr S w w') (hd : ∀ b, atQ a xs b → ¬ S b) : RoomOwn w' lo a r xs :=
  ⟨h.n, h.m, h.nu, h.np, h.nl, own_fr h.par hb (fun k hk => hd k (Or.inl (Or.inl (own_atB h.par hk)))), own_fr h.nodes hb (fun k hk => hd k (Or.inl (Or.inr (Or.inl (own_atB h.nodes hk))))), own_fr h.up hb (fun k hk => hd k (Or.inl (Or.inr (Or.inr (Or.inl (own_atB h.up hk)))))),
   h.profs.fr hb (fun k hk => hd k (Or.inr hk)) (fun k hk => hd k (Or.inl (Or.inr (Or.inr (Or.inr (Or.inl hk)))))), own_fr h.lics hb (fun k hk => hd k (Or.inl (Or.inr (Or.inr (Or.inr (Or.inr (own_atB h.lics hk))))))), h.apart⟩
theorem RoomMk.fr {S : Nat → Prop} {w w' : World} {a : RA} {r : Rm} {xs : List Value} (h : RoomMk w a r xs) (hb : Fr S w w') (hd : ∀ b, atQ a xs b → ¬ S b) : RoomMk w' a r xs :=
  ⟨h.n, h.m, h.nu, h.np, h.nl, h.cn, h.par.fr h.lA hb (fun k hk => hd k (Or.inl (Or.inl hk))), h.nodes.fr h.lB hb (fun k hk => hd k (Or.inl (Or.inr (Or.inl hk)))), h.up.fr h.lU hb (fun k hk => hd k (Or.inl (Or.inr (Or.inr (Or.inl hk))))), h.profs.fr hb (fun k hk => hd k (Or.inr hk)) (fun k hk => hd k (Or.inl (Or.inr (Or.inr (Or.inr (Or.inl hk)))))), h.lics.fr h.lL hb (fun k hk => hd k (Or.inl (Or.inr (Or.inr (Or.inr (Or.inr hk)))))), lt_fr h.lA hb, lt_fr h.lB hb, lt_fr h.lU hb, lt_fr h.lL hb⟩
set_option maxHeartbeats 4000000 in
set_option maxRecDepth 20000 in
theorem markRoom_rd (a : RA) (r : Rm) (xs : List Value) (lo : Nat) (w : World) (h : RoomOwn w lo a r xs) :
    Calls Tryz.prog 35 #[a.v, .int .i64 1] w fun e w' => e = .returned (.int .i64 (rmTot a r)) ∧ RoomMk w' a r xs ∧ Fr (atR a xs) w w' := by
  have hrr := room_rng h
  obtain ⟨n9, m9, nu9, np9, nl9, hpar, hnod, hup, hpro, hlic, hap⟩ := h
  obtain ⟨A, B, U, R, L, n, m, nu, np, nl, c, d, cu, cp, cl⟩ := a
  have LR0 := Lib.hid (own_blk hpro.own)
  dsimp only [RA.v]
  dsimp only at *
  have HR := Lib.hid hrr
  have HAP := Lib.hid hap
  have HAB := Lib.hid (own_apart hpar hnod (by decide))
  have HAU := Lib.hid (own_apart hpar hup (by decide))
  have HBU := Lib.hid (own_apart hnod hup (by decide))
  have HAL := Lib.hid (own_apart hpar hlic (by decide))
  have HBL := Lib.hid (own_apart hnod hlic (by decide))
  have HUL := Lib.hid (own_apart hup hlic (by decide))
  have HAR := Lib.hid (own_apart hpar hpro.own (by decide))
  have HBR := Lib.hid (own_apart hnod hpro.own (by decide))
  have HUR := Lib.hid (own_apart hup hpro.own (by decide))
  have HAX := Lib.hid (ownp_x hpro hpar (by decide))
  have HBX := Lib.hid (ownp_x hpro hnod (by decide))
  have HUX := Lib.hid (ownp_x hpro hup (by decide))
  have HRL := Lib.hid (own_apart hpro.own hlic (by decide))
  have N1 := Lib.hid n9
  have N2 := Lib.hid m9
  have N3 := Lib.hid nu9
  have N4 := Lib.hid np9
  have N5 := Lib.hid nl9
  have WA := Lib.hid (own_wr2 hpar)
  have WB := Lib.hid (own_wr2 hnod)
  have WU := Lib.hid (own_wr2 hup)
  have WL := Lib.hid (own_wr2 hlic)
  have OP := Lib.hid hpro
  clear hrr hap hpar hnod hup hpro hlic
  go_enter Tryz.func35, Tryz.ntmps35
  go_wp2_with fail
  refine (markTopoG A B n c m d lo lo _ (by omega) (by omega) (WA.out.below (zAa _ _)) (WB.out.below (zAa _ _)) HAB.out (fun k hk => by have := HR.out k (Or.inl hk); simp; omega)).mono ?_
  rintro e w1 ⟨rfl, rda1, rdb1, fr1⟩
  have hb0 : 0 ≤ 1 + 1 * (n : Int) + 4 * (m : Int) := by omega
  have hb1 : 1 + 1 * (n : Int) + 4 * (m : Int) ≤ 549755813888 := by omega
  have RA1 := Lib.hid rda1
  have RB1 := Lib.hid rdb1
  clear rda1 rdb1
  obtain ⟨K1, hK1⟩ : ∃ y, y = 1 + 1 * (n : Int) + 4 * (m : Int) := ⟨_, rfl⟩
  rw [← hK1] at hb0 hb1 ⊢
  have KE1 := Lib.hid hK1
  clear hK1
  have NT : ¬ atT A B w.heap.size := by
    rintro (h | h)
    · have := HR.out _ (Or.inl h); omega
    · have := HR.out _ (Or.inr (Or.inl h)); omega
  have hs1 := fr1.size
  (try simp at hs1)
  have hk1 := fun o => fr1.cell (b := w.heap.size) (by simp) NT o
  have WU1 := Lib.hid ((WU.out.below (zAa _ (.cells #[.slice A n c, .slice B m d, .slice U nu cu, .slice R np cp, .slice L nl cl] 33))).fr fr1 (by
    rintro k hk (h | h)
    · exact HAU.out k h hk
    · exact HBU.out k h hk))
  have OP1 := Lib.hid ((OP.out.bel (zAa _ (.cells #[.slice A n c, .slice B m d, .slice U nu cu, .slice R np cp, .slice L nl cl] 33))).fr fr1 (by
    rintro k hk (h | h)
    · exact HAR.out k h hk
    · exact HBR.out k h hk) (by
    rintro k hk (h | h)
    · exact HAX.out k h hk
    · exact HBX.out k h hk))
  have WL1 := Lib.hid ((WL.out.below (zAa _ (.cells #[.slice A n c, .slice B m d, .slice U nu cu, .slice R np cp, .slice L nl cl] 33))).fr fr1 (by
    rintro k hk (h | h)
    · exact HAL.out k h hk
    · exact HBL.out k h hk))
  have F1 : Hid (Fr (atR ⟨A, B, U, R, L, n, m, nu, np, nl, c, d, cu, cp, cl⟩ xs) w w1) := Lib.hid ((Fr.of_below _ (zAa _ _)).trans (fr1.mono (by
    rintro k (h | h)
    · exact Or.inl h
    · exact Or.inr (Or.inl h))))
  clear WU OP WL NT
  have hb2 : K1 ≤ 2305843009213693952 := by omega
  go_wp2_with fail
  refine (markBoolG U nu cu lo K1 _ (by omega) hb0 hb2 WU1.out).mono ?_
  rintro e w2 ⟨rfl, rdu2, fr2⟩
  have RU2 := Lib.hid rdu2
  clear rdu2
  have hc0 : 0 ≤ K1 + (nu : Int) := by omega
  have hc1 : K1 + (nu : Int) ≤ 1099511627776 := by omega
  obtain ⟨K2, hK2⟩ : ∃ y, y = K1 + (nu : Int) := ⟨_, rfl⟩
  rw [← hK2] at hc0 hc1 ⊢
  have KE2 := Lib.hid hK2
  clear hK2
  have RA2 := Lib.hid (RA1.out.fr (w' := w2) (fun g hg => Nat.lt_of_lt_of_le (HR.out g (Or.inl ⟨0, hg⟩)).2 (by omega)) fr2 (fun k h1 h2 => HAU.out k h1 h2))
  have RB2 := Lib.hid (RB1.out.fr (w' := w2) (fun g hg => Nat.lt_of_lt_of_le (HR.out g (Or.inr (Or.inl ⟨0, hg⟩))).2 (by omega)) fr2 (fun k h1 h2 => HBU.out k h1 h2))
  clear RA1 RB1
  have NU : ¬ atB U w.heap.size := fun h => by have := HR.out _ (Or.inr (Or.inr (Or.inl h))); omega
  have hs2 := fr2.size
  have hk2 := fun o => (fr2.cell (b := w.heap.size) (by omega) NU o).trans (hk1 o)
  have OP2 := Lib.hid (OP1.out.fr fr2 (fun k hk h => HUR.out k h hk) (fun k hk h => HUX.out k h hk))
  have WL2 := Lib.hid (WL1.out.fr fr2 (fun k hk h => HUL.out k h hk))
  have F2 := Lib.hid (F1.out.trans (fr2.mono (T := atR ⟨A, B, U, R, L, n, m, nu, np, nl, c, d, cu, cp, cl⟩ xs) (fun k h => Or.inr (Or.inr (Or.inl h)))))
  clear WU1 OP1 WL1 F1 NU hk1 fr1 fr2
  go_wp2_with fail
  refine (markProfS_rd R np cp lo K2 r.profs xs _ (by omega) hc0 hc1 OP2.out).mono ?_
  rintro e w3 ⟨rfl, hcn, pm3, fr3⟩
  have PM3 := Lib.hid pm3
  clear pm3
  have LT2 := Lib.hid (fun (g : Nat) (hg : g < w.heap.size) => Nat.lt_of_lt_of_le hg (show w.heap.size ≤ w2.heap.size by omega))
  have RA3 := Lib.hid (RA2.out.fr (w' := w3) (fun g hg => LT2.out g (HR.out g (Or.inl ⟨0, hg⟩)).2) fr3 (fun k h1 h2 => HAX.out k h1 h2))
  have RB3 := Lib.hid (RB2.out.fr (w' := w3) (fun g hg => LT2.out g (HR.out g (Or.inr (Or.inl ⟨0, hg⟩))).2) fr3 (fun k h1 h2 => HBX.out k h1 h2))
  have RU3 := Lib.hid (RU2.out.fr (w' := w3) (fun g hg => LT2.out g (HR.out g (Or.inr (Or.inr (Or.inl ⟨0, hg⟩)))).2) fr3 (fun k h1 h2 => HUX.out k h1 h2))
  clear RA2 RB2 RU2
  have hK0 : 0 ≤ K2 + 4 * (cntP r.profs : Int) := by omega
  have hK1 : K2 + 4 * (cntP r.profs : Int) ≤ K2 + 4194304 * (np : Int) := by omega
  obtain ⟨K, hK⟩ : ∃ y, y = K2 + 4 * (cntP r.profs : Int) := ⟨_, rfl⟩
  rw [← hK] at hK0 hK1 ⊢
  have KE3 := Lib.hid hK
  have HCN := Lib.hid hcn
  clear hK hcn
  have NX : ¬ atX xs np w.heap.size := fun h => by have := HR.out _ (Or.inr (Or.inr (Or.inr (Or.inl h)))); omega
  have hs3 := fr3.size
  have hk3 := fun o => (fr3.cell (b := w.heap.size) (by omega) NX o).trans (hk2 o)
  have WL3 := Lib.hid (WL2.out.fr fr3 (by
    rintro k hk ⟨i, x, hi, hx, ho⟩
    exact HAP.out i x hx k ho hk))
  have F3 := Lib.hid (F2.out.trans (fr3.mono (T := atR ⟨A, B, U, R, L, n, m, nu, np, nl, c, d, cu, cp, cl⟩ xs) (fun k h => Or.inr (Or.inr (Or.inr (Or.inl h))))))
  clear OP2 WL2 F2 NX hk2 fr3
  have hd1 : K ≤ 2305843009213693952 := by omega
  go_wp2_with fail
  refine (markProfR L nl cl lo K _ (by omega) hK0 hd1 WL3.out).mono ?_
  rintro e w4 ⟨rfl, rdl4, fr4⟩
  have LT3 := Lib.hid (fun (g : Nat) (hg : g < w.heap.size) => Nat.lt_of_lt_of_le hg (show w.heap.size ≤ w3.heap.size by omega))
  have LT4 := Lib.hid (fun (g : Nat) (hg : g < w.heap.size) => Nat.lt_of_lt_of_le (LT3.out g hg) fr4.size)
  have RL4 := Lib.hid rdl4
  have RA4 := Lib.hid (RA3.out.fr (w' := w4) (fun g hg => LT3.out g (HR.out g (Or.inl ⟨0, hg⟩)).2) fr4 (fun k h1 h2 => HAL.out k h1 h2))
  have RB4 := Lib.hid (RB3.out.fr (w' := w4) (fun g hg => LT3.out g (HR.out g (Or.inr (Or.inl ⟨0, hg⟩))).2) fr4 (fun k h1 h2 => HBL.out k h1 h2))
  have RU4 := Lib.hid (RU3.out.fr (w' := w4) (fun g hg => LT3.out g (HR.out g (Or.inr (Or.inr (Or.inl ⟨0, hg⟩)))).2) fr4 (fun k h1 h2 => HUL.out k h1 h2))
  have PM4 := Lib.hid (PM3.out.fr fr4 (fun b h1 h2 => HRL.out b h1 h2) (fun b h1 h2 => by obtain ⟨i, x, hi, hx, ho⟩ := h1; exact HAP.out i x hx b ho h2))
  clear RA3 RB3 RU3 PM3 rdl4
  have F4 := Lib.hid (F3.out.trans (fr4.mono (T := atR ⟨A, B, U, R, L, n, m, nu, np, nl, c, d, cu, cp, cl⟩ xs) (fun k h => Or.inr (Or.inr (Or.inr (Or.inr h))))))
  clear F3 WL3 fr4
  go_wp2
  go_ret
  have hk1 := KE1.out
  have hk2 := KE2.out
  have hk3 := KE3.out
  subst hk1
  subst hk2
  subst hk3
  exact ⟨ret_int (by unfold rmTot; dsimp only), ⟨N1.out, N2.out, N3.out, N4.out, N5.out, HCN.out, RA4.out, RB4.out, RU4.out, PM4.out, RL4.out, fun g hg => LT4.out g (HR.out g (Or.inl ⟨0, hg⟩)).2, fun g hg => LT4.out g (HR.out g (Or.inr (Or.inl ⟨0, hg⟩))).2, fun g hg => LT4.out g (HR.out g (Or.inr (Or.inr (Or.inl ⟨0, hg⟩)))).2, fun g hg => LT4.out g (HR.out g (Or.inr (Or.inr (Or.inr (Or.inr ⟨0, hg⟩))))).2⟩, F4.out⟩
set_option maxHeartbeats 2000000 in
set_option maxRecDepth 20000 in
theorem heldRoom_rd (a : RA) (r : Rm) (xs : List Value) (w : World) (h : RoomMk w a r xs) :
    Calls Tryz.prog 36 #[a.v, .int .i64 1] w fun e w' => e = .returned (.int .i64 (rmTot a r)) ∧ Below w.heap.size w w' := by
  have ht := h.tot
  have H := Lib.hid h
  obtain ⟨n9, m9, nu9, np9, nl9, cn9, -, -, -, -, -, -, -, -, -⟩ := h
  obtain ⟨A, B, U, R, L, n, m, nu, np, nl, c, d, cu, cp, cl⟩ := a
  dsimp only [RA.v]
  obtain ⟨TT, hTT⟩ : ∃ y, y = rmTot ⟨A, B, U, R, L, n, m, nu, np, nl, c, d, cu, cp, cl⟩ r := ⟨_, rfl⟩
  rw [← hTT] at ht ⊢
  dsimp only [rmTot] at *
  obtain ⟨K1, hK1⟩ : ∃ y, y = 1 + 1 * (n : Int) + 4 * (m : Int) := ⟨_, rfl⟩
  obtain ⟨K2, hK2⟩ : ∃ y, y = K1 + (nu : Int) := ⟨_, rfl⟩
  obtain ⟨K3, hK3⟩ : ∃ y, y = K2 + 4 * (cntP r.profs : Int) := ⟨_, rfl⟩
  have hT4 : TT = K3 + 4 * (nl : Int) := by omega
  have b1 : 0 ≤ K1 := by omega
  have b2 : 0 ≤ K2 := by omega
  have b3 : 0 ≤ K3 := by omega
  have b4 : 0 ≤ TT := by omega
  have c1 : K1 ≤ 2305843009213693952 := by omega
  have c2 : K2 ≤ 1099511627776 := by omega
  have c3 : K3 ≤ 2305843009213693952 := by omega
  have c4 : TT ≤ 9223372036854775800 := by omega
  have N1 := Lib.hid (show n ≤ 1048577 by omega)
  have N2 := Lib.hid (show m ≤ 1048577 by omega)
  have N3 := Lib.hid (show nu ≤ 1048577 by omega)
  have N4 := Lib.hid (show np ≤ 1048577 by omega)
  have N5 := Lib.hid (show nl ≤ 1048577 by omega)
  have N6 := Lib.hid cn9
  have E1 := Lib.hid hK1
  have E2 := Lib.hid hK2
  have E3 := Lib.hid hK3
  have E4 := Lib.hid hT4
  clear n9 m9 nu9 np9 nl9 cn9 ht hTT hK1 hK2 hK3 hT4
  have HU : Hid (∀ W, RoomMk W ⟨A, B, U, R, L, n, m, nu, np, nl, c, d, cu, cp, cl⟩ r xs → Rd W U nu 1 (bmarks K1 nu) ∧ PM W R np xs r.profs K2 np ∧ Rd W L nl 4 (imarks K3 (nl * 4))) := Lib.hid (fun W hW => by
    have h1 := hW.up
    have h2 := hW.profs
    have h3 := hW.lics
    dsimp only at h1 h2 h3
    rw [← E1.out] at h1 h2 h3
    rw [← E2.out] at h2 h3
    rw [← E3.out] at h3
    exact ⟨h1, h2, h3⟩)
  go_enter Tryz.func36, Tryz.ntmps36
  have H0 : Hid (RoomMk (w.alloc (.cells #[.slice A n c, .slice B m d, .slice U nu cu, .slice R np cp, .slice L nl cl] 33)) _ r xs) := Lib.hid (H.out.bel (zAa _ _))
  go_wp2_with fail
  refine (heldTopoG A B n c m d _ N1.out N2.out H0.out.par H0.out.nodes H0.out.lA H0.out.lB).mono ?_
  rintro e w1 ⟨rfl, hb1⟩
  rw [← E1.out]
  have H1 := Lib.hid (H0.out.bel hb1)
  have B1 := Lib.hid (zAc (zAa w _) hb1)
  have hs1 := hb1.size
  (try simp at hs1)
  have hk1 := fun o => hb1.cell (p := ⟨w.heap.size, o, none⟩) zOm
  clear hb1
  go_wp2_with fail
  refine (heldBoolG U nu cu _ _ N3.out b1 c1 (HU.out _ H1.out).1).mono ?_
  rintro e w2 ⟨rfl, rfl⟩
  rw [← E2.out]
  go_wp2_with fail
  refine (heldProfS_rd R np cp _ r.profs xs _ N4.out b2 c2 N6.out (HU.out _ H1.out).2.1).mono ?_
  rintro e w3 ⟨rfl, hb3⟩
  rw [← E3.out]
  have H3 := Lib.hid (H1.out.bel hb3)
  have B3 := Lib.hid (zAc B1.out hb3)
  have hs3 := hb3.size
  (try simp at hs3)
  have hk3 := fun o => hb3.cell (p := ⟨w.heap.size, o, none⟩) zOm
  clear hb3
  go_wp2_with fail
  refine (heldProfG L nl cl _ _ N5.out b3 c3 (HU.out _ H3.out).2.2 H3.out.lL).mono ?_
  rintro e w4 ⟨rfl, hb4⟩
  rw [← E4.out]
  have B4 := Lib.hid (zAc B3.out hb4)
  clear hb4
  go_wp2
  go_ret
  exact ⟨rfl, B4.out⟩
end Go.Proofs.YtnphjhbfpoekpaaGreat
