import Derived.Test.YtjnfdcojccgfoaaVa
import Derived.Deep.Light
namespace Go.Proofs.Ytjnfdcojccgfoaa
set_option linter.unusedSimpArgs false
set_option linter.unusedVariables false
set_option linter.unnecessarySimpa false
open Go.RowKit
def timeB (x : Int) : Bool := inB x 0 1000000000
set_option maxHeartbeats 400000 in
theorem isTime_any (x : Int) (w : World) :
    Calls Try.prog 105 #[.int .i64 x] w fun e w' => e = .returned (.bool (timeB x)) ∧ w = w' := by
  go_enter Try.func105, Try.ntmps105
  go_wp2_with (go_at_call 104; refine (within_any _ _ _ _).mono ?_; rintro e w' ⟨rfl, rfl⟩)
  go_ret
  exact ⟨rfl, rfl⟩

/-- The digits of a number, first digit first. -/
def ntxt (n : Nat) : List UInt8 := if n < 10 then [UInt8.ofNat (48 + n)] else ntxt (n / 10) ++ [UInt8.ofNat (48 + n % 10)]
termination_by n
decreasing_by omega
theorem ntxt_lo {n : Nat} (h : n < 10) : ntxt n = [UInt8.ofNat (48 + n)] := by rw [ntxt, if_pos h]
theorem ntxt_hi {n : Nat} (h : ¬ n < 10) : ntxt n = ntxt (n / 10) ++ [UInt8.ofNat (48 + n % 10)] := by rw [ntxt, if_neg h]
def numB (n : Nat) : ByteArray := ⟨(ntxt n).toArray⟩
theorem conv_one (w : World) (c : Int) : (convert 22 9 (.slice (some ⟨w.heap.size, 0, none⟩) 1 1)).run Try.prog (w.alloc (.cells #[.int .u8 c] 5)) = .ok (.string (strOfNums [c])) (w.alloc (.cells #[.int .u8 c] 5)) :=
  run_convert_bytes_arg _ _ _ Try.underlying22 Try.underlying5 _ 0 1 1 [c] rfl (fun i hi => by
    obtain rfl : i = 0 := by omega
    simp) _ Try.underlying9
theorem ntxt_len (n : Nat) : (ntxt n).length ≤ n + 1 := by
  induction n using Nat.strongRecOn with
  | _ n ih =>
    by_cases h : n < 10
    · rw [ntxt_lo h]; simp
    · rw [ntxt_hi h]
      have := ih (n / 10) (by omega)
      simp; omega
theorem nums_data (c : Int) : (strOfNums [c]).data.toList = [UInt8.ofNat c.toNat] := by rw [strOfNums_data]; rfl
theorem ret_str {a b : ByteArray} (h : a.data.toList = b.data.toList) : Ending.returned (.string a) = .returned (.string b) := by
  rw [show a = b from by
    cases a; cases b; rename_i x y; simp at h; rw [h]]
theorem append_list (a b : ByteArray) : (a ++ b).data.toList = a.data.toList ++ b.data.toList := by simp
set_option maxHeartbeats 400000 in
theorem numText_any (n : Nat) (hn : n ≤ 1000000000) (w : World) :
    Calls Try.prog 120 #[.int .i64 n] w fun e w' => e = .returned (.string (numB n)) ∧ Below w.heap.size w w' := by
  have ht : timeB n = true := by simp [timeB, inB]; omega
  have kc := conv_one
  have kl : ∀ c : Int, (strOfNums [c]).size = 1 := fun c => strOfNums_size _
  go_enter Try.func120, Try.ntmps120
  go_wp2_with (go_at_call 105; refine (isTime_any _ _).mono ?_; rintro e w' ⟨rfl, rfl⟩; rw [ht])
  go_loopw [0, 3] (fun v s wr => ∃ (m : Nat) (b : ByteArray), m ≤ n ∧ v = .int .i64 m ∧ s = .string b ∧ ntxt n = ntxt m ++ b.data.toList ∧ Below w.heap.size w wr) (fun v _ _ => (intOf v).toNat)
  case atStart => exact ⟨n, _, Nat.le_refl _, rfl, rfl, by simp, Below.refl _ _⟩
  case round =>
    obtain ⟨m, b, hm, rfl, rfl, he, hb⟩ := hrel
    have hbs : b.size ≤ 1000000001 := by
      have h1 := congrArg List.length he
      have h2 := ntxt_len n
      simp at h1
      omega
    have HE := Lib.hid he
    have hmx : m ≤ 1000000000 := Nat.le_trans hm hn
    clear ht hn he
    by_cases h9 : 9 < m
    · go_wp2
      refine ⟨⟨m / 10, strOfNums [48 + ↑m % 10] ++ b, by omega, by simp, rfl, ?_, hb.alloc hb.size _⟩, by simp [intOf]; omega⟩
      rw [HE.out, append_list, nums_data, ntxt_hi (by omega)]
      simp [show ((48 : Int) + ↑m % 10).toNat = 48 + m % 10 from by omega]
    · go_wp2
      go_ret
      refine ⟨ret_str ?_, hb.alloc hb.size _⟩
      rw [append_list, nums_data]
      show _ = ntxt n
      rw [HE.out, ntxt_lo (by omega), show ((48 : Int) + ↑m).toNat = 48 + m from by omega]
end Go.Proofs.Ytjnfdcojccgfoaa
