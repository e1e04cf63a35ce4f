import Derived.Test.YtjnfdcojccgfoaaPb
namespace Go.Proofs.Ytjnfdcojccgfoaa
set_option linter.unusedSimpArgs false
set_option linter.unusedVariables false
set_option linter.unnecessarySimpa false
open Go.RowKit
theorem Rd.mk_at {w : World} {A : Option Addr} {n size : Nat} {k0 : Int} (h : Rd w A n size (imarks k0 (n * size))) {k : Nat} (hk : k < n) : ∃ g, A = some ⟨g, 0, none⟩ ∧ ∀ j, j < n * size → w.cell? ⟨g, j, none⟩ = some (.int .i64 (k0 + (j : Int))) := by
  obtain ⟨g, rfl, hc⟩ := h.2 (by omega)
  exact ⟨g, rfl, fun j hj => hc j _ (imarks_get hj)⟩

set_option maxHeartbeats 1000000 in
theorem heldInt_any (A : Option Addr) (n c : Nat) (k0 : Int) (w : World) (hn : n ≤ 1048577) (hk0 : 0 ≤ k0) (hk1 : k0 ≤ 1099511627776) (hr : Rd w A n 1 (imarks k0 (n * 1))) :
    Calls Try.prog 62 #[.slice A n c, .int .i64 k0] w fun e w' => e = .returned (.int .i64 (k0 + (n : Int))) ∧ w = w' := by
  have hm : n ≤ 9223372036854775807 := by omega
  have hkm : k0 + (n : Int) ≤ 9223372036854775800 := by omega
  have HR := Lib.hid hr
  clear hn hk1 hr
  go_enter Try.func62, Try.ntmps62
  go_wp2
  go_loop [1, 5] (fun q i => ∃ k : Nat, k ≤ n ∧ i = .int .i64 k ∧ q = .int .i64 (k0 + (k : Int))) (fun _ i => n - (intOf i).toNat)
  case atStart => exact ⟨0, Nat.zero_le _, rfl, by simp⟩
  case round =>
    obtain ⟨k, hk, rfl, rfl⟩ := hrel
    by_cases hlt : k < n
    · obtain ⟨g, rfl, hc⟩ := HR.out.mk_at hlt
      have c0 : w.cell? ⟨g, k, none⟩ = some (.int .i64 (k0 + (k : Int))) := (hc _ (by omega)).trans (congrArg (fun z => some (Value.int IntKind.i64 z)) (by omega))
      clear hc HR
      have hlt' : (k : Int) < n := by omega
      have hlt2 : k0 + (k : Int) + 1 ≤ 9223372036854775807 := by omega
      have hlt3 : 0 ≤ k0 + (k : Int) := by omega
      go_wp2
      exact ⟨⟨k + 1, by omega, by go_num, congrArg (Value.int IntKind.i64) (by omega)⟩, by simp [intOf]; omega⟩
    · obtain rfl : k = n := by omega
      go_wp2
      go_ret
      exact ⟨rfl, rfl⟩

set_option maxHeartbeats 1000000 in
theorem heldPt_any (A : Option Addr) (n c : Nat) (k0 : Int) (w : World) (hn : n ≤ 1048577) (hk0 : 0 ≤ k0) (hk1 : k0 ≤ 1099511627776) (hr : Rd w A n 4 (imarks k0 (n * 4))) :
    Calls Try.prog 109 #[.slice A n c, .int .i64 k0] w fun e w' => e = .returned (.int .i64 (k0 + 4 * (n : Int))) ∧ w = w' := by
  have hm : n ≤ 9223372036854775807 := by omega
  have hkm : k0 + 4 * (n : Int) ≤ 9223372036854775800 := by omega
  have HR := Lib.hid hr
  clear hn hk1 hr
  go_enter Try.func109, Try.ntmps109
  go_wp2
  go_loop [1, 5] (fun q i => ∃ k : Nat, k ≤ n ∧ i = .int .i64 k ∧ q = .int .i64 (k0 + 4 * (k : Int))) (fun _ i => n - (intOf i).toNat)
  case atStart => exact ⟨0, Nat.zero_le _, rfl, by simp⟩
  case round =>
    obtain ⟨k, hk, rfl, rfl⟩ := hrel
    by_cases hlt : k < n
    · obtain ⟨g, rfl, hc⟩ := HR.out.mk_at hlt
      have c0 : w.cell? ⟨g, k * 4, none⟩ = some (.int .i64 (k0 + 4 * (k : Int))) := (hc _ (by omega)).trans (congrArg (fun z => some (Value.int IntKind.i64 z)) (by omega))
      have c1 : w.cell? ⟨g, k * 4 + 1, none⟩ = some (.int .i64 (k0 + 4 * (k : Int) + 1)) := (hc _ (by omega)).trans (congrArg (fun z => some (Value.int IntKind.i64 z)) (by omega))
      have c2 : w.cell? ⟨g, k * 4 + 2, none⟩ = some (.int .i64 (k0 + 4 * (k : Int) + 1 + 1)) := (hc _ (by omega)).trans (congrArg (fun z => some (Value.int IntKind.i64 z)) (by omega))
      have c3 : w.cell? ⟨g, k * 4 + 3, none⟩ = some (.int .i64 (k0 + 4 * (k : Int) + 1 + 1 + 1)) := (hc _ (by omega)).trans (congrArg (fun z => some (Value.int IntKind.i64 z)) (by omega))
      clear hc HR
      have hlt' : (k : Int) < n := by omega
      have hlt2 : k0 + 4 * (k : Int) + 4 ≤ 9223372036854775807 := by omega
      have hlt3 : 0 ≤ k0 + 4 * (k : Int) := by omega
      go_wp2
      exact ⟨⟨k + 1, by omega, by go_num, congrArg (Value.int IntKind.i64) (by omega)⟩, by simp [intOf]; omega⟩
    · obtain rfl : k = n := by omega
      go_wp2
      go_ret
      exact ⟨rfl, rfl⟩

set_option maxHeartbeats 1000000 in
theorem heldNode_any (A : Option Addr) (n c : Nat) (k0 : Int) (w : World) (hn : n ≤ 1048577) (hk0 : 0 ≤ k0) (hk1 : k0 ≤ 1099511627776) (hr : Rd w A n 4 (imarks k0 (n * 4))) :
    Calls Try.prog 154 #[.slice A n c, .int .i64 k0] w fun e w' => e = .returned (.int .i64 (k0 + 4 * (n : Int))) ∧ w = w' := by
  have hm : n ≤ 9223372036854775807 := by omega
  have hkm : k0 + 4 * (n : Int) ≤ 9223372036854775800 := by omega
  have HR := Lib.hid hr
  clear hn hk1 hr
  go_enter Try.func154, Try.ntmps154
  go_wp2
  go_loop [1, 5] (fun q i => ∃ k : Nat, k ≤ n ∧ i = .int .i64 k ∧ q = .int .i64 (k0 + 4 * (k : Int))) (fun _ i => n - (intOf i).toNat)
  case atStart => exact ⟨0, Nat.zero_le _, rfl, by simp⟩
  case round =>
    obtain ⟨k, hk, rfl, rfl⟩ := hrel
    by_cases hlt : k < n
    · obtain ⟨g, rfl, hc⟩ := HR.out.mk_at hlt
      have c0 : w.cell? ⟨g, k * 4, none⟩ = some (.int .i64 (k0 + 4 * (k : Int))) := (hc _ (by omega)).trans (congrArg (fun z => some (Value.int IntKind.i64 z)) (by omega))
      have c1 : w.cell? ⟨g, k * 4 + 1, none⟩ = some (.int .i64 (k0 + 4 * (k : Int) + 1)) := (hc _ (by omega)).trans (congrArg (fun z => some (Value.int IntKind.i64 z)) (by omega))
      have c2 : w.cell? ⟨g, k * 4 + 2, none⟩ = some (.int .i64 (k0 + 4 * (k : Int) + 1 + 1)) := (hc _ (by omega)).trans (congrArg (fun z => some (Value.int IntKind.i64 z)) (by omega))
      have c3 : w.cell? ⟨g, k * 4 + 3, none⟩ = some (.int .i64 (k0 + 4 * (k : Int) + 1 + 1 + 1)) := (hc _ (by omega)).trans (congrArg (fun z => some (Value.int IntKind.i64 z)) (by omega))
      clear hc HR
      have hlt' : (k : Int) < n := by omega
      have hlt2 : k0 + 4 * (k : Int) + 4 ≤ 9223372036854775807 := by omega
      have hlt3 : 0 ≤ k0 + 4 * (k : Int) := by omega
      go_wp2
      exact ⟨⟨k + 1, by omega, by go_num, congrArg (Value.int IntKind.i64) (by omega)⟩, by simp [intOf]; omega⟩
    · obtain rfl : k = n := by omega
      go_wp2
      go_ret
      exact ⟨rfl, rfl⟩
end Go.Proofs.Ytjnfdcojccgfoaa
