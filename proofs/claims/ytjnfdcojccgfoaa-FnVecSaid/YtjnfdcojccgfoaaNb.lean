import Derived.Test.YtjnfdcojccgfoaaNa
import Derived.Deep.RegionWith
namespace Go.Proofs.Ytjnfdcojccgfoaa
set_option linter.unusedSimpArgs false
set_option linter.unusedVariables false
set_option linter.unnecessarySimpa false
open Go.RowKit
def txtB (n : Int) : ByteArray := if timeB n then numB n.toNat else ⟨#[]⟩
theorem numText_full (n : Int) (w : World) :
    Calls Try.prog 120 #[.int .i64 n] w fun e w' => e = .returned (.string (txtB n)) ∧ Below w.heap.size w w' := by
  by_cases ht : timeB n = true
  · have h : 0 ≤ n ∧ n ≤ 1000000000 := by simpa [timeB, inB] using ht
    obtain ⟨m, rfl⟩ := Int.eq_ofNat_of_zero_le h.1
    have := numText_any m (by omega) w
    simpa [txtB, ht] using this
  · have hf : timeB n = false := by simpa using ht
    have hx : txtB n = ⟨#[]⟩ := by simp [txtB, hf]
    rw [hx]
    go_enter Try.func120, Try.ntmps120
    go_wp2_with (go_at_call 105; refine (isTime_any _ _).mono ?_; rintro e w' ⟨rfl, rfl⟩; rw [hf])
    go_ret
    exact ⟨rfl, Below.refl _ _⟩
set_option maxHeartbeats 400000 in
theorem sTime_any (x : Int) (w : World) :
    Calls Try.prog 102 #[.int .i64 x] w fun e w' => e = .returned (.bool (timeB x)) ∧ w = w' := by
  by_cases h1 : 0 ≤ x
  · go_enter Try.func102, Try.ntmps102
    go_wp2
    go_ret
    exact ⟨ret_bool (by simp [timeB, inB, h1]), rfl⟩
  · go_enter Try.func102, Try.ntmps102
    go_wp2
    go_ret
    exact ⟨ret_bool (by simp [timeB, inB]; omega), rfl⟩
theorem numB_size (n : Nat) : (numB n).size ≤ n + 1 := by
  have := ntxt_len n
  simpa [numB, ByteArray.size] using this
theorem conv_at (w : World) (g : Nat) (c : Int) (h : w.cell? ⟨g, 0, none⟩ = some (.int .u8 c)) : (convert 22 9 (.slice (some ⟨g, 0, none⟩) 1 1)).run Try.prog w = .ok (.string (strOfNums [c])) w :=
  run_convert_bytes_arg _ _ _ Try.underlying22 Try.underlying5 _ 0 1 1 [c] rfl (fun i hi => by
    obtain rfl : i = 0 := by omega
    simpa using h) _ Try.underlying9
set_option maxHeartbeats 1000000 in
theorem sNumText_lo (n : Nat) (w : World) (h9 : n < 10) :
    Calls Try.prog 142 #[.int .i64 n] w fun e w' => e = .returned (.string (numB n)) ∧ Below w.heap.size w w' := by
  have ht : timeB n = true := by simp [timeB, inB]; omega
  have kc := conv_one
  have kl : ∀ c : Int, (strOfNums [c]).size = 1 := fun c => strOfNums_size _
  go_enter Try.func142, Try.ntmps142
  go_wp2_with (first | (go_at_call 102; refine (sTime_any _ _).mono ?_; rintro e w' ⟨rfl, rfl⟩; rw [ht]) | fail)
  go_ret
  refine ⟨ret_str ?_, below_alloc _ _⟩
  rw [nums_data]
  show _ = ntxt n
  rw [ntxt_lo h9, show ((48 : Int) + ↑n).toNat = 48 + n from by omega]
set_option maxRecDepth 100000 in
set_option maxHeartbeats 1000000 in
theorem sNumText_any (k : Nat) : ∀ (n : Nat) (w : World), n ≤ k → n ≤ 1000000000 →
    Calls Try.prog 142 #[.int .i64 n] w fun e w' => e = .returned (.string (numB n)) ∧ Below w.heap.size w w' := by
  induction k with
  | zero => exact fun n w hk hn => sNumText_lo n w (by omega)
  | succ k ih =>
    intro n w hk hn
    have HI := Lib.hid ih
    clear ih
    by_cases h9 : n < 10
    · exact sNumText_lo n w h9
    · have ht : timeB n = true := by simp [timeB, inB]; omega
      have kc := conv_one
      have kl : ∀ c : Int, (strOfNums [c]).size = 1 := fun c => strOfNums_size _
      have hd : ((n : Int) / 10) = ((n / 10 : Nat) : Int) := by simp
      have hsz := numB_size (n / 10)
      have hbd : (numB (n / 10)).size ≤ 1000000001 := by omega
      have hkn : n / 10 ≤ k := by omega
      have hHD := Lib.hid hd
      have hHN := Lib.hid hn
      have hHB := Lib.hid hbd
      clear hd hsz hn hbd
      go_enter Try.func142, Try.ntmps142
      go_wp2_with (first | (go_at_call 102; refine (sTime_any _ _).mono ?_; rintro e w' ⟨rfl, rfl⟩; rw [ht]) | fail)
      have hq := hHN.out
      have e1 : IntKind.i64.wrap ((n : Int) / 10) = (n : Int) / 10 := IntWalk.i64_in _ (by omega)
      have e2 : (n : Int).tmod 10 = (n : Int) % 10 := Int.tmod_eq_emod_of_nonneg (by omega)
      have e3 : IntKind.i64.wrap (48 + (n : Int) % 10) = 48 + (n : Int) % 10 := IntWalk.i64_in _ (by omega)
      have e4 : IntKind.u8.wrap (48 + (n : Int) % 10) = 48 + (n : Int) % 10 := IntWalk.u8_in _ (by omega)
      have hb2 : ¬ 9223372036854775807 < (numB (n / 10)).size + 1 := by have := hHB.out; omega
      clear hq
      have kc2 : ∀ (w : World) (g : Nat), w.cell? ⟨g, 0, none⟩ = some (.int .u8 (48 + (n : Int) % 10)) → (convert 22 9 (.slice (some ⟨g, 0, none⟩) 1 1)).run Try.prog w = .ok (.string (strOfNums [48 + (n : Int) % 10])) w := fun w g h => conv_at w g _ h
      clear kc
      go_region_with (first | (go_at_call 142; refine (HI.out (n / 10) _ hkn (by have := hHN.out; omega)).mono ?_; rintro e w1 ⟨rfl, hb1⟩; have hm1 := (fun h => hb1.cell (p := ⟨w.heap.size, 0, none⟩) h); (try simp at hm1)))
      all_goals (go_wp2; go_ret)
      all_goals refine ⟨ret_str ?_, ?_⟩
      all_goals first | (rw [append_list, nums_data]; show ntxt (n / 10) ++ _ = ntxt n; rw [ntxt_hi h9, show ((48 : Int) + (n : Int) % 10).toNat = 48 + n % 10 from by omega]) | skip
      all_goals exact (by repeat (first | exact Below.refl _ _ | (refine bstep ?_ (below_alloc _ _)) | (refine bstep ?_ (by assumption)) | (refine Below.setCell ?_ (by simp <;> omega) _) | refine Below.drew ?_))

theorem sNumText_full (n : Int) (w : World) :
    Calls Try.prog 142 #[.int .i64 n] w fun e w' => e = .returned (.string (txtB n)) ∧ Below w.heap.size w w' := by
  by_cases ht : timeB n = true
  · have h : 0 ≤ n ∧ n ≤ 1000000000 := by simpa [timeB, inB] using ht
    obtain ⟨m, rfl⟩ := Int.eq_ofNat_of_zero_le h.1
    have := sNumText_any m m w (Nat.le_refl _) (by omega)
    simpa [txtB, ht] using this
  · have hf : timeB n = false := by simpa using ht
    have hx : txtB n = ⟨#[]⟩ := by simp [txtB, hf]
    rw [hx]
    go_enter Try.func142, Try.ntmps142
    go_wp2_with (first | (go_at_call 102; refine (sTime_any _ _).mono ?_; rintro e w' ⟨rfl, rfl⟩; rw [hf]) | fail)
    go_ret
    exact ⟨rfl, Below.refl _ _⟩
theorem ntxt_ten (k : Nat) : ∀ n, n < 10 ^ (k + 1) → (ntxt n).length ≤ k + 1 := by
  induction k with
  | zero => intro n h; rw [ntxt_lo (by omega)]; simp
  | succ k ih =>
    intro n h
    by_cases h9 : n < 10
    · rw [ntxt_lo h9]; simp
    · rw [ntxt_hi h9]
      have := ih (n / 10) (by rw [Nat.pow_succ] at h; omega)
      simp; omega
theorem txtB_size (n : Int) : (txtB n).size ≤ 10 := by
  unfold txtB
  split
  · rename_i h
    have h' : 0 ≤ n ∧ n ≤ 1000000000 := by simpa [timeB, inB] using h
    have := ntxt_ten 9 n.toNat (by omega)
    simpa [numB, ByteArray.size] using this
  · decide
end Go.Proofs.Ytjnfdcojccgfoaa
