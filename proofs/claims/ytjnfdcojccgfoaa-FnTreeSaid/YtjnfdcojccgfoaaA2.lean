/-
  Texts of this proof, put together.
-/
import Derived.Test.YtjnfdcojccgfoaaA1
import Derived.Deep.RegionWith
import Derived.Deep.RegionHeld3
namespace Go.Proofs.Ytjnfdcojccgfoaa
set_option linter.unusedSimpArgs false
set_option linter.unusedVariables false
set_option linter.unnecessarySimpa false
open Go.RowKit
def txtB (n : Int) : ByteArray := if timeB n then numB n.toNat else ⟨#[]⟩
theorem numText_full (n : Int) (w : World) :
    Calls Try.prog 120 #[.int .i64 n] w fun e w' => e = .returned (.string (txtB n)) ∧ Below w.heap.size w w' := by
  by_cases ht : timeB n = true
  · have h : 0 ≤ n ∧ n ≤ 1000000000 := by simpa [timeB, inB] using ht
    obtain ⟨m, rfl⟩ := Int.eq_ofNat_of_zero_le h.1
    have := numText_any m (by omega) w
    simpa [txtB, ht] using this
  · have hf : timeB n = false := by simpa using ht
    have hx : txtB n = ⟨#[]⟩ := by simp [txtB, hf]
    rw [hx]
    go_enter Try.func120, Try.ntmps120
    go_wp2_with (go_at_call 105; refine (isTime_any _ _).mono ?_; rintro e w' ⟨rfl, rfl⟩; rw [hf])
    go_ret
    exact ⟨rfl, Below.refl _ _⟩
set_option maxHeartbeats 400000 in
theorem sTime_any (x : Int) (w : World) :
    Calls Try.prog 102 #[.int .i64 x] w fun e w' => e = .returned (.bool (timeB x)) ∧ w = w' := by
  by_cases h1 : 0 ≤ x
  · go_enter Try.func102, Try.ntmps102
    go_wp2
    go_ret
    exact ⟨ret_bool (by simp [timeB, inB, h1]), rfl⟩
  · go_enter Try.func102, Try.ntmps102
    go_wp2
    go_ret
    exact ⟨ret_bool (by simp [timeB, inB]; omega), rfl⟩
theorem numB_size (n : Nat) : (numB n).size ≤ n + 1 := by
  have := ntxt_len n
  simpa [numB, ByteArray.size] using this
theorem conv_at (w : World) (g : Nat) (c : Int) (h : w.cell? ⟨g, 0, none⟩ = some (.int .u8 c)) : (convert 22 9 (.slice (some ⟨g, 0, none⟩) 1 1)).run Try.prog w = .ok (.string (strOfNums [c])) w :=
  run_convert_bytes_arg _ _ _ Try.underlying22 Try.underlying5 _ 0 1 1 [c] rfl (fun i hi => by
    obtain rfl : i = 0 := by omega
    simpa using h) _ Try.underlying9
set_option maxHeartbeats 1000000 in
theorem sNumText_lo (n : Nat) (w : World) (h9 : n < 10) :
    Calls Try.prog 142 #[.int .i64 n] w fun e w' => e = .returned (.string (numB n)) ∧ Below w.heap.size w w' := by
  have ht : timeB n = true := by simp [timeB, inB]; omega
  have kc := conv_one
  have kl : ∀ c : Int, (strOfNums [c]).size = 1 := fun c => strOfNums_size _
  go_enter Try.func142, Try.ntmps142
  go_wp2_with (first | (go_at_call 102; refine (sTime_any _ _).mono ?_; rintro e w' ⟨rfl, rfl⟩; rw [ht]) | fail)
  go_ret
  refine ⟨ret_str ?_, below_alloc _ _⟩
  rw [nums_data]
  show _ = ntxt n
  rw [ntxt_lo h9, show ((48 : Int) + ↑n).toNat = 48 + n from by omega]
set_option maxRecDepth 100000 in
set_option maxHeartbeats 1000000 in
theorem sNumText_any (k : Nat) : ∀ (n : Nat) (w : World), n ≤ k → n ≤ 1000000000 →
    Calls Try.prog 142 #[.int .i64 n] w fun e w' => e = .returned (.string (numB n)) ∧ Below w.heap.size w w' := by
  induction k with
  | zero => exact fun n w hk hn => sNumText_lo n w (by omega)
  | succ k ih =>
    intro n w hk hn
    have HI := Lib.hid ih
    clear ih
    by_cases h9 : n < 10
    · exact sNumText_lo n w h9
    · have ht : timeB n = true := by simp [timeB, inB]; omega
      have kc := conv_one
      have kl : ∀ c : Int, (strOfNums [c]).size = 1 := fun c => strOfNums_size _
      have hd : ((n : Int) / 10) = ((n / 10 : Nat) : Int) := by simp
      have hsz := numB_size (n / 10)
      have hbd : (numB (n / 10)).size ≤ 1000000001 := by omega
      have hkn : n / 10 ≤ k := by omega
      have hHD := Lib.hid hd
      have hHN := Lib.hid hn
      have hHB := Lib.hid hbd
      clear hd hsz hn hbd
      go_enter Try.func142, Try.ntmps142
      go_wp2_with (first | (go_at_call 102; refine (sTime_any _ _).mono ?_; rintro e w' ⟨rfl, rfl⟩; rw [ht]) | fail)
      have hq := hHN.out
      have e1 : IntKind.i64.wrap ((n : Int) / 10) = (n : Int) / 10 := IntWalk.i64_in _ (by omega)
      have e2 : (n : Int).tmod 10 = (n : Int) % 10 := Int.tmod_eq_emod_of_nonneg (by omega)
      have e3 : IntKind.i64.wrap (48 + (n : Int) % 10) = 48 + (n : Int) % 10 := IntWalk.i64_in _ (by omega)
      have e4 : IntKind.u8.wrap (48 + (n : Int) % 10) = 48 + (n : Int) % 10 := IntWalk.u8_in _ (by omega)
      have hb2 : ¬ 9223372036854775807 < (numB (n / 10)).size + 1 := by have := hHB.out; omega
      clear hq
      have kc2 : ∀ (w : World) (g : Nat), w.cell? ⟨g, 0, none⟩ = some (.int .u8 (48 + (n : Int) % 10)) → (convert 22 9 (.slice (some ⟨g, 0, none⟩) 1 1)).run Try.prog w = .ok (.string (strOfNums [48 + (n : Int) % 10])) w := fun w g h => conv_at w g _ h
      clear kc
      go_region_with (first | (go_at_call 142; refine (HI.out (n / 10) _ hkn (by have := hHN.out; omega)).mono ?_; rintro e w1 ⟨rfl, hb1⟩; have hm1 := (fun h => hb1.cell (p := ⟨w.heap.size, 0, none⟩) h); (try simp at hm1)))
      all_goals (go_wp2; go_ret)
      all_goals refine ⟨ret_str ?_, ?_⟩
      all_goals first | (rw [append_list, nums_data]; show ntxt (n / 10) ++ _ = ntxt n; rw [ntxt_hi h9, show ((48 : Int) + (n : Int) % 10).toNat = 48 + n % 10 from by omega]) | skip
      all_goals exact (by repeat (first | exact Below.refl _ _ | (refine bstep ?_ (below_alloc _ _)) | (refine bstep ?_ (by assumption)) | (refine Below.setCell ?_ (by simp <;> omega) _) | refine Below.drew ?_))

theorem sNumText_full (n : Int) (w : World) :
    Calls Try.prog 142 #[.int .i64 n] w fun e w' => e = .returned (.string (txtB n)) ∧ Below w.heap.size w w' := by
  by_cases ht : timeB n = true
  · have h : 0 ≤ n ∧ n ≤ 1000000000 := by simpa [timeB, inB] using ht
    obtain ⟨m, rfl⟩ := Int.eq_ofNat_of_zero_le h.1
    have := sNumText_any m m w (Nat.le_refl _) (by omega)
    simpa [txtB, ht] using this
  · have hf : timeB n = false := by simpa using ht
    have hx : txtB n = ⟨#[]⟩ := by simp [txtB, hf]
    rw [hx]
    go_enter Try.func142, Try.ntmps142
    go_wp2_with (first | (go_at_call 102; refine (sTime_any _ _).mono ?_; rintro e w' ⟨rfl, rfl⟩; rw [hf]) | fail)
    go_ret
    exact ⟨rfl, Below.refl _ _⟩
theorem ntxt_ten (k : Nat) : ∀ n, n < 10 ^ (k + 1) → (ntxt n).length ≤ k + 1 := by
  induction k with
  | zero => intro n h; rw [ntxt_lo (by omega)]; simp
  | succ k ih =>
    intro n h
    by_cases h9 : n < 10
    · rw [ntxt_lo h9]; simp
    · rw [ntxt_hi h9]
      have := ih (n / 10) (by rw [Nat.pow_succ] at h; omega)
      simp; omega
theorem txtB_size (n : Int) : (txtB n).size ≤ 10 := by
  unfold txtB
  split
  · rename_i h
    have h' : 0 ≤ n ∧ n ≤ 1000000000 := by simpa [timeB, inB] using h
    have := ntxt_ten 9 n.toNat (by omega)
    simpa [numB, ByteArray.size] using this
  · decide
end Go.Proofs.Ytjnfdcojccgfoaa

namespace Go.Proofs.Ytjnfdcojccgfoaa
set_option linter.unusedSimpArgs false
set_option linter.unusedVariables false
set_option linter.unnecessarySimpa false
open Go.RowKit
def slashB : ByteArray := ⟨#[47]⟩
def vtxtB (a b c : Int) : ByteArray := if vecOkB a b c then txtB a ++ slashB ++ txtB b ++ slashB ++ txtB c else ⟨#[]⟩

set_option maxHeartbeats 1000000 in
theorem vecText_any (a b c : Int) (w : World) :
    Calls Try.prog 50 #[.agg #[.int .i64 a, .int .i64 b, .int .i64 c]] w fun e w' => e = .returned (.string (vtxtB a b c)) ∧ Below w.heap.size w w' := by
  have z1 := txtB_size a
  have z2 := txtB_size b
  have z3 := txtB_size c
  have q1 : ¬ 9223372036854775807 < (txtB a).size + 1 := by omega
  have q2 : ¬ 9223372036854775807 < (txtB a).size + 1 + (txtB b).size := by omega
  have q3 : ¬ 9223372036854775807 < (txtB a).size + 1 + (txtB b).size + 1 := by omega
  have q4 : ¬ 9223372036854775807 < (txtB a).size + 1 + (txtB b).size + 1 + (txtB c).size := by omega
  have q5 : (⟨#[47]⟩ : ByteArray).size = 1 := rfl
  cases hv : vecOkB a b c
  · have hr : vtxtB a b c = ⟨#[]⟩ := by simp [vtxtB, hv]
    rw [hr]
    have HV := Lib.hid hv
    clear hr hv
    go_enter Try.func50, Try.ntmps50
    go_wp2_with fail
    refine (vecOk_raw _ _ _ _).mono ?_
    rintro e w1 ⟨rfl, hb1⟩
    rw [HV.out]
    obtain ⟨hc1, hf1⟩ := bcell hb1
    have hs1 := hb1.size
    simp at hs1
    have hk1 := fun o => hc1 (w.heap.size) o (by first | omega | (simp <;> omega))
    clear hc1 hf1
    go_wp2_with fail
    go_ret
    exact ⟨rfl, (by repeat (first | exact Below.refl _ _ | (refine bstep ?_ (below_alloc _ _)) | (refine bstep ?_ (by assumption)) | (refine Below.setCell ?_ (by simp <;> omega) _) | refine Below.drew ?_))⟩
  · have hr : vtxtB a b c = txtB a ++ slashB ++ txtB b ++ slashB ++ txtB c := by simp [vtxtB, hv]
    rw [hr]
    have HV := Lib.hid hv
    clear hr hv
    go_enter Try.func50, Try.ntmps50
    go_wp2_with fail
    refine (vecOk_raw _ _ _ _).mono ?_
    rintro e w1 ⟨rfl, hb1⟩
    rw [HV.out]
    obtain ⟨hc1, hf1⟩ := bcell hb1
    have hs1 := hb1.size
    simp at hs1
    have hk1 := fun o => hc1 (w.heap.size) o (by first | omega | (simp <;> omega))
    clear hc1 hf1
    go_wp2_with fail
    go_region_held3 (fun w' => w'.cell? ⟨w.heap.size, 0, none⟩ = some (.int .i64 a) ∧ w'.cell? ⟨w.heap.size, 1, none⟩ = some (.int .i64 b) ∧ w'.cell? ⟨w.heap.size, 2, none⟩ = some (.int .i64 c)) (simp [go_sem, *, World.cell?_alloc_some, World.cell?_setCell_far, Nat.lt_add_right, Nat.ne_of_gt]) (first | (go_at_call_of 120 (Value.int IntKind.i64 a); refine (numText_full a _).mono ?_; rintro e w2 ⟨rfl, hb2⟩; obtain ⟨hc2, hf2⟩ := bcell hb2; have hs2 := hb2.size; (try simp at hs2); have hy20 : w.heap.size < w2.heap.size := (by omega); have hk20 := fun o => hc2 (w.heap.size) o (by first | omega | (simp <;> omega)); have hg20 := fun o => hf2 (w.heap.size) o (by first | omega | (simp <;> omega)); (try (have hx20 : w1.heap.size < w2.heap.size := (by omega); have hm20 := fun o => hc2 (w1.heap.size) o (by first | omega | (simp <;> omega)); have hn20 := fun o => hf2 (w1.heap.size) o (by first | omega | (simp <;> omega)))); clear hc2 hf2) | (go_at_call_of 120 (Value.int IntKind.i64 b); refine (numText_full b _).mono ?_; rintro e w3 ⟨rfl, hb3⟩; obtain ⟨hc3, hf3⟩ := bcell hb3; have hs3 := hb3.size; (try simp at hs3); have hy30 : w.heap.size < w3.heap.size := (by omega); have hk30 := fun o => hc3 (w.heap.size) o (by first | omega | (simp <;> omega)); have hg30 := fun o => hf3 (w.heap.size) o (by first | omega | (simp <;> omega)); (try (have hx30 : w1.heap.size < w3.heap.size := (by omega); have hm30 := fun o => hc3 (w1.heap.size) o (by first | omega | (simp <;> omega)); have hn30 := fun o => hf3 (w1.heap.size) o (by first | omega | (simp <;> omega)))); (try (have hx31 : w2.heap.size < w3.heap.size := (by omega); have hm31 := fun o => hc3 (w2.heap.size) o (by first | omega | (simp <;> omega)); have hn31 := fun o => hf3 (w2.heap.size) o (by first | omega | (simp <;> omega)))); clear hc3 hf3) | (go_at_call_of 120 (Value.int IntKind.i64 c); refine (numText_full c _).mono ?_; rintro e w4 ⟨rfl, hb4⟩; obtain ⟨hc4, hf4⟩ := bcell hb4; have hs4 := hb4.size; (try simp at hs4); have hy40 : w.heap.size < w4.heap.size := (by omega); have hk40 := fun o => hc4 (w.heap.size) o (by first | omega | (simp <;> omega)); have hg40 := fun o => hf4 (w.heap.size) o (by first | omega | (simp <;> omega)); (try (have hx40 : w1.heap.size < w4.heap.size := (by omega); have hm40 := fun o => hc4 (w1.heap.size) o (by first | omega | (simp <;> omega)); have hn40 := fun o => hf4 (w1.heap.size) o (by first | omega | (simp <;> omega)))); (try (have hx41 : w2.heap.size < w4.heap.size := (by omega); have hm41 := fun o => hc4 (w2.heap.size) o (by first | omega | (simp <;> omega)); have hn41 := fun o => hf4 (w2.heap.size) o (by first | omega | (simp <;> omega)))); (try (have hx42 : w3.heap.size < w4.heap.size := (by omega); have hm42 := fun o => hc4 (w3.heap.size) o (by first | omega | (simp <;> omega)); have hn42 := fun o => hf4 (w3.heap.size) o (by first | omega | (simp <;> omega)))); clear hc4 hf4))
    all_goals (go_wp2; go_ret)
    all_goals exact ⟨rfl, (by repeat (first | exact Below.refl _ _ | (refine bstep ?_ (below_alloc _ _)) | (refine bstep ?_ (by assumption)) | (refine Below.setCell ?_ (by simp <;> omega) _) | refine Below.drew ?_))⟩

set_option maxHeartbeats 1000000 in
theorem svecText_any (a b c : Int) (w : World) :
    Calls Try.prog 143 #[.agg #[.int .i64 a, .int .i64 b, .int .i64 c]] w fun e w' => e = .returned (.string (vtxtB a b c)) ∧ Below w.heap.size w w' := by
  have z1 := txtB_size a
  have z2 := txtB_size b
  have z3 := txtB_size c
  have q1 : ¬ 9223372036854775807 < (txtB a).size + 1 := by omega
  have q2 : ¬ 9223372036854775807 < (txtB a).size + 1 + (txtB b).size := by omega
  have q3 : ¬ 9223372036854775807 < (txtB a).size + 1 + (txtB b).size + 1 := by omega
  have q4 : ¬ 9223372036854775807 < (txtB a).size + 1 + (txtB b).size + 1 + (txtB c).size := by omega
  have q5 : (⟨#[47]⟩ : ByteArray).size = 1 := rfl
  cases hv : vecOkB a b c
  · have hr : vtxtB a b c = ⟨#[]⟩ := by simp [vtxtB, hv]
    rw [hr]
    have HV := Lib.hid hv
    clear hr hv
    go_enter Try.func143, Try.ntmps143
    go_wp2_with fail
    refine (svecOk_raw _ _ _ _).mono ?_
    rintro e w1 ⟨rfl, hb1⟩
    rw [HV.out]
    obtain ⟨hc1, hf1⟩ := bcell hb1
    have hs1 := hb1.size
    simp at hs1
    have hk1 := fun o => hc1 (w.heap.size) o (by first | omega | (simp <;> omega))
    clear hc1 hf1
    go_wp2_with fail
    go_ret
    exact ⟨rfl, (by repeat (first | exact Below.refl _ _ | (refine bstep ?_ (below_alloc _ _)) | (refine bstep ?_ (by assumption)) | (refine Below.setCell ?_ (by simp <;> omega) _) | refine Below.drew ?_))⟩
  · have hr : vtxtB a b c = txtB a ++ slashB ++ txtB b ++ slashB ++ txtB c := by simp [vtxtB, hv]
    rw [hr]
    have HV := Lib.hid hv
    clear hr hv
    go_enter Try.func143, Try.ntmps143
    go_wp2_with fail
    refine (svecOk_raw _ _ _ _).mono ?_
    rintro e w1 ⟨rfl, hb1⟩
    rw [HV.out]
    obtain ⟨hc1, hf1⟩ := bcell hb1
    have hs1 := hb1.size
    simp at hs1
    have hk1 := fun o => hc1 (w.heap.size) o (by first | omega | (simp <;> omega))
    clear hc1 hf1
    go_wp2_with fail
    go_region_held3 (fun w' => w'.cell? ⟨w.heap.size, 0, none⟩ = some (.int .i64 a) ∧ w'.cell? ⟨w.heap.size, 1, none⟩ = some (.int .i64 b) ∧ w'.cell? ⟨w.heap.size, 2, none⟩ = some (.int .i64 c)) (simp [go_sem, *, World.cell?_alloc_some, World.cell?_setCell_far, Nat.lt_add_right, Nat.ne_of_gt]) (first | (go_at_call_of 142 (Value.int IntKind.i64 a); refine (sNumText_full a _).mono ?_; rintro e w2 ⟨rfl, hb2⟩; obtain ⟨hc2, hf2⟩ := bcell hb2; have hs2 := hb2.size; (try simp at hs2); have hy20 : w.heap.size < w2.heap.size := (by omega); have hk20 := fun o => hc2 (w.heap.size) o (by first | omega | (simp <;> omega)); have hg20 := fun o => hf2 (w.heap.size) o (by first | omega | (simp <;> omega)); (try (have hx20 : w1.heap.size < w2.heap.size := (by omega); have hm20 := fun o => hc2 (w1.heap.size) o (by first | omega | (simp <;> omega)); have hn20 := fun o => hf2 (w1.heap.size) o (by first | omega | (simp <;> omega)))); clear hc2 hf2) | (go_at_call_of 142 (Value.int IntKind.i64 b); refine (sNumText_full b _).mono ?_; rintro e w3 ⟨rfl, hb3⟩; obtain ⟨hc3, hf3⟩ := bcell hb3; have hs3 := hb3.size; (try simp at hs3); have hy30 : w.heap.size < w3.heap.size := (by omega); have hk30 := fun o => hc3 (w.heap.size) o (by first | omega | (simp <;> omega)); have hg30 := fun o => hf3 (w.heap.size) o (by first | omega | (simp <;> omega)); (try (have hx30 : w1.heap.size < w3.heap.size := (by omega); have hm30 := fun o => hc3 (w1.heap.size) o (by first | omega | (simp <;> omega)); have hn30 := fun o => hf3 (w1.heap.size) o (by first | omega | (simp <;> omega)))); (try (have hx31 : w2.heap.size < w3.heap.size := (by omega); have hm31 := fun o => hc3 (w2.heap.size) o (by first | omega | (simp <;> omega)); have hn31 := fun o => hf3 (w2.heap.size) o (by first | omega | (simp <;> omega)))); clear hc3 hf3) | (go_at_call_of 142 (Value.int IntKind.i64 c); refine (sNumText_full c _).mono ?_; rintro e w4 ⟨rfl, hb4⟩; obtain ⟨hc4, hf4⟩ := bcell hb4; have hs4 := hb4.size; (try simp at hs4); have hy40 : w.heap.size < w4.heap.size := (by omega); have hk40 := fun o => hc4 (w.heap.size) o (by first | omega | (simp <;> omega)); have hg40 := fun o => hf4 (w.heap.size) o (by first | omega | (simp <;> omega)); (try (have hx40 : w1.heap.size < w4.heap.size := (by omega); have hm40 := fun o => hc4 (w1.heap.size) o (by first | omega | (simp <;> omega)); have hn40 := fun o => hf4 (w1.heap.size) o (by first | omega | (simp <;> omega)))); (try (have hx41 : w2.heap.size < w4.heap.size := (by omega); have hm41 := fun o => hc4 (w2.heap.size) o (by first | omega | (simp <;> omega)); have hn41 := fun o => hf4 (w2.heap.size) o (by first | omega | (simp <;> omega)))); (try (have hx42 : w3.heap.size < w4.heap.size := (by omega); have hm42 := fun o => hc4 (w3.heap.size) o (by first | omega | (simp <;> omega)); have hn42 := fun o => hf4 (w3.heap.size) o (by first | omega | (simp <;> omega)))); clear hc4 hf4))
    all_goals (go_wp2; go_ret)
    all_goals exact ⟨rfl, (by repeat (first | exact Below.refl _ _ | (refine bstep ?_ (below_alloc _ _)) | (refine bstep ?_ (by assumption)) | (refine Below.setCell ?_ (by simp <;> omega) _) | refine Below.drew ?_))⟩
end Go.Proofs.Ytjnfdcojccgfoaa

namespace Go.Proofs.Ytjnfdcojccgfoaa
set_option linter.unusedSimpArgs false
set_option linter.unusedVariables false
set_option linter.unnecessarySimpa false
open Go.RowKit
def dig (c : UInt8) : Bool := decide (48 ≤ c.toNat) && decide (c.toNat ≤ 57)
def dval (l : List UInt8) : Nat := l.foldl (fun n c => 10 * n + (c.toNat - 48)) 0
def tnumOk (b : ByteArray) : Bool := decide (1 ≤ b.size) && decide (b.size ≤ 10) && b.data.toList.all dig && decide (txtB (dval b.data.toList) = b)
def tnumV (b : ByteArray) : Int := if tnumOk b then dval b.data.toList else 0
theorem dval_snoc (l : List UInt8) (c : UInt8) : dval (l ++ [c]) = 10 * dval l + (c.toNat - 48) := by simp [dval]
theorem dval_lt (l : List UInt8) (h : l.all dig = true) : dval l < 10 ^ l.length := by
  have key : ∀ (l : List UInt8) (a : Nat), l.all dig = true → l.foldl (fun n c => 10 * n + (c.toNat - 48)) a < (a + 1) * 10 ^ l.length := by
    intro l
    induction l with
    | nil => intro a _; simp
    | cons c l ih =>
      intro a h
      simp only [List.all_cons, Bool.and_eq_true] at h
      have h2 : 48 ≤ c.toNat ∧ c.toNat ≤ 57 := by simpa [dig] using h.1
      have h1 := ih (10 * a + (c.toNat - 48)) h.2
      simp only [List.foldl_cons, List.length_cons, Nat.pow_succ]
      refine Nat.lt_of_lt_of_le h1 ?_
      have : 10 * a + (c.toNat - 48) + 1 ≤ (a + 1) * 10 := by omega
      calc (10 * a + (c.toNat - 48) + 1) * 10 ^ l.length ≤ ((a + 1) * 10) * 10 ^ l.length := Nat.mul_le_mul_right _ this
        _ = (a + 1) * (10 ^ l.length * 10) := by rw [Nat.mul_assoc, Nat.mul_comm 10]
  have := key l 0 h
  simpa [dval] using this
theorem dval_bd (l : List UInt8) (h : l.all dig = true) (hl : l.length ≤ 10) : dval l < 10000000000 := by
  have h1 := dval_lt l h
  have h2 : 10 ^ l.length ≤ 10 ^ 10 := Nat.pow_le_pow_right (by omega) hl
  omega
theorem take_snoc (s : ByteArray) (k : Nat) (h : k < s.size) : s.data.toList.take (k + 1) = s.data.toList.take k ++ [s[k]] := by
  rw [List.take_succ_eq_append_getElem (by simpa using h)]; rfl
theorem not_all_of {s : ByteArray} {k : Nat} (hk : k < s.size) (h : dig s[k] = false) : s.data.toList.all dig = false := by
  rw [List.all_eq_false]
  refine ⟨s[k], ?_, by simpa using h⟩
  have : s.data.toList[k]'(by simpa using hk) = s[k] := rfl
  rw [← this]
  exact List.getElem_mem _
theorem str_ne {a b : ByteArray} (h : decide (a = b) = false) : (a.toList == b.toList) = false := by
  rw [decide_eq_false_iff_not] at h
  rw [beq_eq_false_iff_ne]
  intro e
  rw [Go.ByteArray.toList_eq, Go.ByteArray.toList_eq] at e
  exact h (Go.WideShapes.bytes_inj e)
theorem str_eq {a b : ByteArray} (h : decide (a = b) = true) : (a.toList == b.toList) = true := by
  rw [of_decide_eq_true h]
  simp
theorem ret_tn {x y : Int} {a b : Bool} (h : x = y) (h' : a = b) : Ending.returned (.tuple #[.int .i64 x, .bool a]) = .returned (.tuple #[.int .i64 y, .bool b]) := by rw [h, h']

set_option maxHeartbeats 1000000 in
theorem textNum_any (s : ByteArray) (w : World) (hs : s.size ≤ maxLen) :
    Calls Try.prog 122 #[.string s] w fun e w' => e = .returned (.tuple #[.int .i64 (tnumV s), .bool (tnumOk s)]) ∧ Below w.heap.size w w' := by
  unfold maxLen at hs
  by_cases hlen : 1 ≤ s.size ∧ s.size ≤ 10
  · have hin : inB s.size 1 10 = true := by simp [inB]; omega
    go_enter Try.func122, Try.ntmps122
    go_wp2_with (go_at_call 104; refine (within_any _ _ _ _).mono ?_; rintro e w' ⟨rfl, rfl⟩; rw [hin])
    obtain ⟨hl1, hl2⟩ := hlen
    go_loop [4, 5] (fun n i => ∃ k : Nat, k ≤ s.size ∧ i = .int .i64 k ∧ n = .int .i64 (dval (s.data.toList.take k)) ∧ (s.data.toList.take k).all dig = true) (fun _ i => s.size - (intOf i).toNat)
    case atStart => exact ⟨0, Nat.zero_le _, rfl, rfl, by simp⟩
    case round =>
      obtain ⟨k, hk, rfl, rfl, hall⟩ := hrel
      have hbd := dval_bd _ hall (by simp; omega)
      have HA := Lib.hid hall
      clear hall
      by_cases hlt : k < s.size
      · have hsn := dval_snoc (s.data.toList.take k) s[k]
        have hts := take_snoc s k hlt
        rw [← hts] at hsn
        have HS := Lib.hid hsn
        have HT := Lib.hid hts
        clear hsn hts
        generalize hd : dval (s.data.toList.take k) = d at *
        have HD := Lib.hid hd
        clear hd
        cases hg : dig s[k]
        · have hna := not_all_of hlt hg
          have hok : tnumOk s = false := by simp only [tnumOk, hna, Bool.and_false, Bool.false_and]
          have hv : tnumV s = 0 := by simp only [tnumV, hok, Bool.false_eq_true, if_false]
          have HV := Lib.hid hv
          have HO := Lib.hid hok
          have hgg : ¬ (48 ≤ (s[k].toNat : Int) ∧ (s[k].toNat : Int) ≤ 57) := by
            intro h
            have : dig s[k] = true := by simp [dig]; omega
            rw [this] at hg; cases hg
          clear hna hok hv hg
          by_cases h48 : 48 ≤ (s[k].toNat : Int)
          all_goals
            go_wp2
            go_ret2
            exact ⟨ret_tn HV.out.symm HO.out.symm, Below.refl _ _⟩
        · have hgg : 48 ≤ (s[k].toNat : Int) ∧ (s[k].toNat : Int) ≤ 57 := by
            simp [dig] at hg; omega
          obtain ⟨hg1, hg2⟩ := hgg
          have HG := Lib.hid hg
          clear hg
          go_wp2
          go_round
          case rel =>
            refine ⟨k + 1, by omega, by go_num, ?_, ?_⟩
            · rw [HS.out]
              congr 1
              omega
            · rw [HT.out, List.all_append, HA.out]
              simpa using HG.out
          case measure => simp [intOf]; omega
      · obtain rfl : k = s.size := by omega
        have htk : s.data.toList.take s.size = s.data.toList := List.take_of_length_le (by simp)
        rw [htk] at HA hbd ⊢
        generalize hd : dval s.data.toList = d at *
        have HD := Lib.hid hd
        clear hd htk
        go_wp2_with fail
        refine (numText_full _ _).mono ?_
        rintro e w1 ⟨rfl, hb1⟩
        cases hq : decide (txtB d = s)
        · have hok : tnumOk s = false := by simp only [tnumOk, HD.out, hq, Bool.and_false]
          have hv : tnumV s = 0 := by simp only [tnumV, hok, Bool.false_eq_true, if_false]
          have HV := Lib.hid hv
          have HO := Lib.hid hok
          clear hok hv
          have hq2 : ((txtB d).toList == s.toList) = false := str_ne hq
          go_wp2
          go_ret2
          exact ⟨ret_tn HV.out.symm HO.out.symm, hb1⟩
        · have hok : tnumOk s = true := by simp only [tnumOk, HD.out, hq, HA.out, hl1, hl2, decide_true, Bool.and_self]
          have hv : tnumV s = d := by simp only [tnumV, hok, if_true, HD.out]
          have HV := Lib.hid hv
          have HO := Lib.hid hok
          clear hok hv
          have hq2 : ((txtB d).toList == s.toList) = true := str_eq hq
          go_wp2
          go_ret2
          exact ⟨ret_tn HV.out.symm HO.out.symm, hb1⟩
  · have hok : tnumOk s = false := by
      unfold tnumOk
      by_cases h1 : 1 ≤ s.size
      · simp [show ¬ s.size ≤ 10 by omega]
      · simp [h1]
    have hv : tnumV s = 0 := by simp only [tnumV, hok, Bool.false_eq_true, if_false]
    rw [hok, hv]
    clear hok hv
    by_cases h1 : 1 ≤ s.size
    all_goals
      have hin : inB s.size 1 10 = false := by simp [inB]; omega
      go_enter Try.func122, Try.ntmps122
      go_wp2_with (go_at_call 104; refine (within_any _ _ _ _).mono ?_; rintro e w' ⟨rfl, rfl⟩; rw [hin])
      go_ret2
      exact ⟨rfl, Below.refl _ _⟩

set_option maxHeartbeats 1000000 in
theorem stextNum_any (s : ByteArray) (w : World) (hs : s.size ≤ maxLen) :
    Calls Try.prog 152 #[.string s] w fun e w' => e = .returned (.tuple #[.int .i64 (tnumV s), .bool (tnumOk s)]) ∧ Below w.heap.size w w' := by
  unfold maxLen at hs
  by_cases hlen : 1 ≤ s.size ∧ s.size ≤ 10
  · go_enter Try.func152, Try.ntmps152
    go_wp2
    obtain ⟨hl1, hl2⟩ := hlen
    go_loop [4, 5] (fun n i => ∃ k : Nat, k ≤ s.size ∧ i = .int .i64 k ∧ n = .int .i64 (dval (s.data.toList.take k)) ∧ (s.data.toList.take k).all dig = true) (fun _ i => s.size - (intOf i).toNat)
    case atStart => exact ⟨0, Nat.zero_le _, rfl, rfl, by simp⟩
    case round =>
      obtain ⟨k, hk, rfl, rfl, hall⟩ := hrel
      have hbd := dval_bd _ hall (by simp; omega)
      have HA := Lib.hid hall
      clear hall
      by_cases hlt : k < s.size
      · have hsn := dval_snoc (s.data.toList.take k) s[k]
        have hts := take_snoc s k hlt
        rw [← hts] at hsn
        have HS := Lib.hid hsn
        have HT := Lib.hid hts
        clear hsn hts
        generalize hd : dval (s.data.toList.take k) = d at *
        have HD := Lib.hid hd
        clear hd
        cases hg : dig s[k]
        · have hna := not_all_of hlt hg
          have hok : tnumOk s = false := by simp only [tnumOk, hna, Bool.and_false, Bool.false_and]
          have hv : tnumV s = 0 := by simp only [tnumV, hok, Bool.false_eq_true, if_false]
          have HV := Lib.hid hv
          have HO := Lib.hid hok
          have hgg : ¬ (48 ≤ (s[k].toNat : Int) ∧ (s[k].toNat : Int) ≤ 57) := by
            intro h
            have : dig s[k] = true := by simp [dig]; omega
            rw [this] at hg; cases hg
          clear hna hok hv hg
          by_cases h48 : 48 ≤ (s[k].toNat : Int)
          all_goals
            go_wp2
            go_ret2
            exact ⟨ret_tn HV.out.symm HO.out.symm, Below.refl _ _⟩
        · have hgg : 48 ≤ (s[k].toNat : Int) ∧ (s[k].toNat : Int) ≤ 57 := by
            simp [dig] at hg; omega
          obtain ⟨hg1, hg2⟩ := hgg
          have HG := Lib.hid hg
          clear hg
          go_wp2
          go_round
          case rel =>
            refine ⟨k + 1, by omega, by go_num, ?_, ?_⟩
            · rw [HS.out]
              congr 1
              omega
            · rw [HT.out, List.all_append, HA.out]
              simpa using HG.out
          case measure => simp [intOf]; omega
      · obtain rfl : k = s.size := by omega
        have htk : s.data.toList.take s.size = s.data.toList := List.take_of_length_le (by simp)
        rw [htk] at HA hbd ⊢
        generalize hd : dval s.data.toList = d at *
        have HD := Lib.hid hd
        clear hd htk
        go_wp2_with fail
        refine (sNumText_full _ _).mono ?_
        rintro e w1 ⟨rfl, hb1⟩
        cases hq : decide (txtB d = s)
        · have hok : tnumOk s = false := by simp only [tnumOk, HD.out, hq, Bool.and_false]
          have hv : tnumV s = 0 := by simp only [tnumV, hok, Bool.false_eq_true, if_false]
          have HV := Lib.hid hv
          have HO := Lib.hid hok
          clear hok hv
          have hq2 : ((txtB d).toList == s.toList) = false := str_ne hq
          go_wp2
          go_ret2
          exact ⟨ret_tn HV.out.symm HO.out.symm, hb1⟩
        · have hok : tnumOk s = true := by simp only [tnumOk, HD.out, hq, HA.out, hl1, hl2, decide_true, Bool.and_self]
          have hv : tnumV s = d := by simp only [tnumV, hok, if_true, HD.out]
          have HV := Lib.hid hv
          have HO := Lib.hid hok
          clear hok hv
          have hq2 : ((txtB d).toList == s.toList) = true := str_eq hq
          go_wp2
          go_ret2
          exact ⟨ret_tn HV.out.symm HO.out.symm, hb1⟩
  · have hok : tnumOk s = false := by
      unfold tnumOk
      by_cases h1 : 1 ≤ s.size
      · simp [show ¬ s.size ≤ 10 by omega]
      · simp [h1]
    have hv : tnumV s = 0 := by simp only [tnumV, hok, Bool.false_eq_true, if_false]
    rw [hok, hv]
    clear hok hv
    by_cases h1 : 1 ≤ s.size
    all_goals
      go_enter Try.func152, Try.ntmps152
      go_wp2
      go_ret2
      exact ⟨rfl, Below.refl _ _⟩
end Go.Proofs.Ytjnfdcojccgfoaa

namespace Go.Proofs.Ytjnfdcojccgfoaa
set_option linter.unusedSimpArgs false
set_option linter.unusedVariables false
set_option linter.unnecessarySimpa false
open Go.RowKit
/-- The pieces that are complete behind k bytes, and where the next one begins. -/
def pieces (s : ByteArray) (b : UInt8) : Nat → List ByteArray × Nat
  | 0 => ([], 0)
  | k + 1 => if (s.data.toList.getD k 0) = b then ((pieces s b k).1 ++ [s.extract (pieces s b k).2 k], k + 1) else pieces s b k
def parts (s : ByteArray) (b : UInt8) : List ByteArray := (pieces s b s.size).1 ++ [s.extract (pieces s b s.size).2 s.size]
theorem pieces_le (s : ByteArray) (b : UInt8) (k : Nat) : (pieces s b k).1.length ≤ k ∧ (pieces s b k).2 ≤ k := by
  induction k with
  | zero => simp [pieces]
  | succ k ih =>
    unfold pieces
    split
    · simp; exact ih.1
    · omega
theorem infoS : (Try.prog.info? 9).map (fun i => (i.zero, i.size, i.bytes)) = some (some (.string ⟨#[]⟩), 1, 16) := by kernel_rfl
theorem getD_byte (s : ByteArray) (k : Nat) (h : k < s.size) : s.data.toList.getD k 0 = s[k] := by
  have : k < s.data.toList.length := by simpa using h
  rw [List.getD_eq_getElem?_getD, List.getElem?_eq_getElem this]
  rfl
theorem own_empty (w : World) (e : TypeId) : (w.alloc (.cells #[] e)).ownsRow w.heap.size e 1 (.slice (some ⟨w.heap.size, 0, none⟩) 0 0) 0 [] :=
  ⟨rfl, Or.inr ⟨w.heap.size, 0, #[], rfl, Nat.le_refl _, heap_alloc_new w _, Nat.le_refl _, by simp, rfl, rfl⟩⟩
theorem own_ge {w : World} {base : Nat} {e : TypeId} {size n : Nat} {v : Value} {xs : List Value} (h : w.ownsRow base e size v n xs) : ∀ k, v.ownBlock = some k → base ≤ k := by
  intro k hk
  rcases h.2 with ⟨rfl, _⟩ | ⟨g, cap, cur, rfl, hg, _⟩
  · simp [Value.ownBlock] at hk
  · simp [Value.ownBlock] at hk; omega
def SlOwn (w : World) (B : Nat) (e : TypeId) (v : Value) (xs : List Value) : Prop := w.ownsRow B e 1 v xs.length xs

set_option maxHeartbeats 1000000 in
theorem parts_any (s : ByteArray) (b : Int) (u : UInt8) (hu : b = u.toNat) (w : World) (hs : s.size ≤ 1048576) :
    Calls Try.prog 27 #[.string s, .int .u8 b] w fun e w' => ∃ v, e = .returned v ∧ w'.ownsRow w.heap.size 9 1 v (parts s u).length ((parts s u).map Value.string) ∧ Below w.heap.size w w' := by
  obtain ⟨i0, hi, hz0, hz1, hz2⟩ := info_parts infoS
  have hm : s.size ≤ 9223372036854775807 := by omega
  have HS := Lib.hid hs
  have HU := Lib.hid hu
  clear hs hu
  go_enter Try.func27, Try.ntmps27
  go_wp2
  go_loopw [5, 6, 7] (fun v f i wr => ∃ k : Nat, k ≤ s.size ∧ i = .int .i64 k ∧ f = .int .i64 ((pieces s u k).2 : Nat) ∧ wr.ownsRow w.heap.size 9 1 v (pieces s u k).1.length ((pieces s u k).1.map Value.string) ∧ Below w.heap.size w wr) (fun _ _ i _ => s.size - (intOf i).toNat)
  case atStart => exact ⟨0, Nat.zero_le _, rfl, rfl, own_empty w _, below_alloc _ _⟩
  case round =>
    obtain ⟨k, hk, rfl, rfl, hown, hb⟩ := hrel
    obtain ⟨hp1, hp2⟩ := pieces_le s u k
    generalize hp : pieces s u k = p at *
    obtain ⟨l, f⟩ := p
    dsimp only at hown hp1 hp2 ⊢
    have HP := Lib.hid hp
    clear hp
    by_cases hlt : k < s.size
    · by_cases hc : s[k] = u
      · have hq : ((s[k].toNat : Int) == b) = true := by rw [HU.out, hc]; simp
        have HC := Lib.hid hc
        clear hc
        go_wp2_with (at_builtin; refine wpList_append_own _ rfl _ _ 25 rfl w.heap.size 9 i0 (.string ⟨#[]⟩) 1 16 Try.underlying25 hi hz0 hz1 hz2 rfl (by decide) _ _ _ rfl (hown.alloc _) ⟨wr.heap.size, 0, none⟩ 1 1 [.string (s.extract f k)] rfl rfl ?c1 ?c2 ?c3 ?c4 ?c5 ?_)
        case c1 => intro j y hy; match j, hy with | 0, hy => (simp at hy; subst hy; simp [Addr.add])
        case c2 => simp [Value.oneCell']
        case c3 => unfold maxLen; have := HS.out; omega
        case c4 => have := HS.out; omega
        case c5 => simp; have := hb.size; omega
        intro v' w1 hown1 hg1 _
        go_wp2
        go_roundw
        case rel =>
          have e1 : pieces s u (k + 1) = (l ++ [s.extract f k], k + 1) := by
            rw [pieces, HP.out, getD_byte s k hlt, if_pos HC.out]
          refine ⟨k + 1, by omega, by go_num, by rw [e1]; go_num, ?_, ?_⟩
          · rw [e1]
            simpa using hown1
          · exact Below.grown (hb.alloc hb.size _) hg1 (by simp; have := hb.size; omega) (own_ge hown)
        case measure => simp [intOf]; omega
      · have hq : ((s[k].toNat : Int) == b) = false := by
          rw [HU.out, beq_eq_false_iff_ne]
          intro h
          exact hc (UInt8.toNat_inj.1 (by omega))
        have HC := Lib.hid hc
        clear hc
        go_wp2
        refine ⟨⟨k + 1, by omega, by go_num, ?_, ?_, hb⟩, by simp [intOf]; omega⟩
        · rw [pieces, HP.out, getD_byte s k hlt, if_neg HC.out]
        · rw [pieces, HP.out, getD_byte s k hlt, if_neg HC.out]; exact hown
    · obtain rfl : k = s.size := by omega
      go_wp2_with (at_builtin; refine wpList_append_own _ rfl _ _ 25 rfl w.heap.size 9 i0 (.string ⟨#[]⟩) 1 16 Try.underlying25 hi hz0 hz1 hz2 rfl (by decide) _ _ _ rfl (hown.alloc _) ⟨wr.heap.size, 0, none⟩ 1 1 [.string (s.extract f s.size)] rfl rfl ?c1 ?c2 ?c3 ?c4 ?c5 ?_)
      case c1 => intro j y hy; match j, hy with | 0, hy => (simp at hy; subst hy; simp [Addr.add])
      case c2 => simp [Value.oneCell']
      case c3 => unfold maxLen; have := HS.out; omega
      case c4 => have := HS.out; omega
      case c5 => simp; have := hb.size; omega
      intro v' w1 hown1 hg1 _
      go_wp2
      go_ret
      refine ⟨_, rfl, ?_, ?_⟩
      · have e1 : parts s u = l ++ [s.extract f s.size] := by rw [parts, HP.out]
        rw [e1]
        simpa using hown1
      · exact Below.grown (hb.alloc hb.size _) hg1 (by simp; have := hb.size; omega) (own_ge hown)

set_option maxHeartbeats 1000000 in
theorem sparts_any (s : ByteArray) (b : Int) (u : UInt8) (hu : b = u.toNat) (w : World) (hs : s.size ≤ 1048576) :
    Calls Try.prog 28 #[.string s, .int .u8 b] w fun e w' => ∃ v, e = .returned v ∧ w'.ownsRow w.heap.size 9 1 v (parts s u).length ((parts s u).map Value.string) ∧ Below w.heap.size w w' := by
  obtain ⟨i0, hi, hz0, hz1, hz2⟩ := info_parts infoS
  have hm : s.size ≤ 9223372036854775807 := by omega
  have HS := Lib.hid hs
  have HU := Lib.hid hu
  clear hs hu
  go_enter Try.func28, Try.ntmps28
  go_wp2
  go_loopw [5, 6, 7] (fun v f i wr => ∃ k : Nat, k ≤ s.size ∧ i = .int .i64 k ∧ f = .int .i64 ((pieces s u k).2 : Nat) ∧ wr.ownsRow w.heap.size 9 1 v (pieces s u k).1.length ((pieces s u k).1.map Value.string) ∧ Below w.heap.size w wr) (fun _ _ i _ => s.size - (intOf i).toNat)
  case atStart => exact ⟨0, Nat.zero_le _, rfl, rfl, own_empty w _, below_alloc _ _⟩
  case round =>
    obtain ⟨k, hk, rfl, rfl, hown, hb⟩ := hrel
    obtain ⟨hp1, hp2⟩ := pieces_le s u k
    generalize hp : pieces s u k = p at *
    obtain ⟨l, f⟩ := p
    dsimp only at hown hp1 hp2 ⊢
    have HP := Lib.hid hp
    clear hp
    by_cases hlt : k < s.size
    · by_cases hc : s[k] = u
      · have hq : ((s[k].toNat : Int) == b) = true := by rw [HU.out, hc]; simp
        have HC := Lib.hid hc
        clear hc
        go_wp2_with (at_builtin; refine wpList_append_own _ rfl _ _ 25 rfl w.heap.size 9 i0 (.string ⟨#[]⟩) 1 16 Try.underlying25 hi hz0 hz1 hz2 rfl (by decide) _ _ _ rfl (hown.alloc _) ⟨wr.heap.size, 0, none⟩ 1 1 [.string (s.extract f k)] rfl rfl ?c1 ?c2 ?c3 ?c4 ?c5 ?_)
        case c1 => intro j y hy; match j, hy with | 0, hy => (simp at hy; subst hy; simp [Addr.add])
        case c2 => simp [Value.oneCell']
        case c3 => unfold maxLen; have := HS.out; omega
        case c4 => have := HS.out; omega
        case c5 => simp; have := hb.size; omega
        intro v' w1 hown1 hg1 _
        go_wp2
        go_roundw
        case rel =>
          have e1 : pieces s u (k + 1) = (l ++ [s.extract f k], k + 1) := by
            rw [pieces, HP.out, getD_byte s k hlt, if_pos HC.out]
          refine ⟨k + 1, by omega, by go_num, by rw [e1]; go_num, ?_, ?_⟩
          · rw [e1]
            simpa using hown1
          · exact Below.grown (hb.alloc hb.size _) hg1 (by simp; have := hb.size; omega) (own_ge hown)
        case measure => simp [intOf]; omega
      · have hq : ((s[k].toNat : Int) == b) = false := by
          rw [HU.out, beq_eq_false_iff_ne]
          intro h
          exact hc (UInt8.toNat_inj.1 (by omega))
        have HC := Lib.hid hc
        clear hc
        go_wp2
        refine ⟨⟨k + 1, by omega, by go_num, ?_, ?_, hb⟩, by simp [intOf]; omega⟩
        · rw [pieces, HP.out, getD_byte s k hlt, if_neg HC.out]
        · rw [pieces, HP.out, getD_byte s k hlt, if_neg HC.out]; exact hown
    · obtain rfl : k = s.size := by omega
      go_wp2_with (at_builtin; refine wpList_append_own _ rfl _ _ 25 rfl w.heap.size 9 i0 (.string ⟨#[]⟩) 1 16 Try.underlying25 hi hz0 hz1 hz2 rfl (by decide) _ _ _ rfl (hown.alloc _) ⟨wr.heap.size, 0, none⟩ 1 1 [.string (s.extract f s.size)] rfl rfl ?c1 ?c2 ?c3 ?c4 ?c5 ?_)
      case c1 => intro j y hy; match j, hy with | 0, hy => (simp at hy; subst hy; simp [Addr.add])
      case c2 => simp [Value.oneCell']
      case c3 => unfold maxLen; have := HS.out; omega
      case c4 => have := HS.out; omega
      case c5 => simp; have := hb.size; omega
      intro v' w1 hown1 hg1 _
      go_wp2
      go_ret
      refine ⟨_, rfl, ?_, ?_⟩
      · have e1 : parts s u = l ++ [s.extract f s.size] := by rw [parts, HP.out]
        rw [e1]
        simpa using hown1
      · exact Below.grown (hb.alloc hb.size _) hg1 (by simp; have := hb.size; omega) (own_ge hown)
end Go.Proofs.Ytjnfdcojccgfoaa

namespace Go.Proofs.Ytjnfdcojccgfoaa
set_option linter.unusedSimpArgs false
set_option linter.unusedVariables false
set_option linter.unnecessarySimpa false
open Go.RowKit
/-- A slice that begins at a block's head and holds the cells xs. -/
def Rd (w : World) (A : Option Addr) (n size : Nat) (xs : List Value) : Prop :=
  xs.length = n * size ∧ (0 < n → ∃ g, A = some ⟨g, 0, none⟩ ∧ ∀ (j : Nat) u, xs[j]? = some u → w.cell? ⟨g, j, none⟩ = some u)
theorem Rd.at_ {w : World} {A : Option Addr} {n : Nat} {xs : List Value} (h : Rd w A n 1 xs) {k : Nat} (hk : k < n) : ∃ g u, A = some ⟨g, 0, none⟩ ∧ xs[k]? = some u ∧ w.cell? ⟨g, k, none⟩ = some u := by
  obtain ⟨g, rfl, hc⟩ := h.2 (by omega)
  have hl : k < xs.length := by have := h.1; omega
  exact ⟨g, xs[k], rfl, List.getElem?_eq_getElem hl, hc k _ (List.getElem?_eq_getElem hl)⟩
theorem Rd.drewN {w : World} {A : Option Addr} {n size : Nat} {xs : List Value} (h : Rd w A n size xs) (k : Nat) : Rd (w.drewN k) A n size xs := h
theorem own_rd {w : World} {lo : Nat} {e : TypeId} {size : Nat} {v : Value} {n : Nat} {xs : List Value} (h : w.ownsRow lo e size v n xs) : ∃ A c, v = .slice A n c ∧ Rd w A n size xs := by
  rcases h with ⟨hl, ⟨rfl, rfl⟩ | ⟨g, cap, cur, rfl, hg, hh, h1, h2, h3, h4⟩⟩
  · exact ⟨none, 0, rfl, hl, fun h => absurd h (by omega)⟩
  · refine ⟨_, _, rfl, hl, fun _ => ⟨g, rfl, fun j u hj => ?_⟩⟩
    rw [← h4, List.getElem?_take] at hj
    split at hj
    · simp only [World.cell?, hh]
      simpa using hj
    · cases hj
theorem own_lt {w : World} {lo : Nat} {e : TypeId} {size : Nat} {v : Value} {n : Nat} {xs : List Value} (h : w.ownsRow lo e size v n xs) : ∀ k, v.ownBlock = some k → k < w.heap.size := by
  intro k hk
  rcases h.2 with ⟨rfl, _⟩ | ⟨g, cap, cur, rfl, hg, hh, _⟩
  · simp [Value.ownBlock] at hk
  · simp [Value.ownBlock] at hk
    subst hk
    rcases Nat.lt_or_ge g w.heap.size with h | h
    · exact h
    · rw [Array.getElem?_eq_none h] at hh; cases hh
theorem own_below {w w' : World} {lo B : Nat} {e : TypeId} {size : Nat} {v : Value} {n : Nat} {xs : List Value} (h : w.ownsRow lo e size v n xs) (hb : Below B w w') (hlt : ∀ k, v.ownBlock = some k → k < B) : w'.ownsRow lo e size v n xs := by
  rcases h with ⟨hl, ⟨rfl, rfl⟩ | ⟨g, cap, cur, rfl, hg, hh, h1⟩⟩
  · exact ⟨hl, Or.inl ⟨rfl, rfl⟩⟩
  · exact ⟨hl, Or.inr ⟨g, cap, cur, rfl, hg, (hb.block g (hlt g rfl)).trans hh, h1⟩⟩
theorem below_drewN {B : Nat} (w : World) (k : Nat) : Below B w (w.drewN k) := ⟨rfl, rfl, rfl, Nat.le_refl _, fun _ _ => rfl⟩


set_option maxHeartbeats 1000000 in
theorem eqIntS_any (A A' : Option Addr) (n c c' : Nat) (bs : List Int) (w : World) (hn : n ≤ 1048577) (ha : Rd w A n 1 (bs.map (Value.int .i64))) (hb : Rd w A' n 1 (bs.map (Value.int .i64))) :
    Calls Try.prog 60 #[.slice A n c, .slice A' n c'] w fun e w' => e = .returned (.bool true) ∧ ∃ k, w' = w.drewN k := by
  have hm : n ≤ 9223372036854775807 := by omega
  clear hn
  have HA := Lib.hid ha
  have HB := Lib.hid hb
  clear ha hb
  go_enter Try.func60, Try.ntmps60
  go_wp2
  go_loopw [5] (fun i wr => ∃ k q : Nat, k ≤ n ∧ i = .int .i64 k ∧ wr = w.drewN q) (fun i _ => n - (intOf i).toNat)
  case atStart => exact ⟨0, 0, Nat.zero_le _, rfl, rfl⟩
  case round =>
    obtain ⟨k, q, hk, rfl, rfl⟩ := hrel
    by_cases hlt : k < n
    · obtain ⟨g, u, rfl, hu, hc⟩ := HA.out.at_ hlt
      obtain ⟨g', u', rfl, hu', hc'⟩ := HB.out.at_ hlt
      obtain rfl : u = u' := by rw [hu] at hu'; exact Option.some.inj hu'
      obtain ⟨x, rfl⟩ : ∃ x, u = Value.int .i64 x := by
        rw [List.getElem?_map] at hu
        cases hz : bs[k]? with
        | none => rw [hz] at hu; cases hu
        | some x => rw [hz] at hu; exact ⟨x, (Option.some.inj hu).symm⟩
      clear hu hu' HA HB
      have hlt' : (k : Int) < n := by omega
      go_wp2
      go_quiet (fail)
      go_wp2
      go_roundw
      case rel => exact ⟨k + 1, _, by omega, by go_num, rfl⟩
      case measure => simp [intOf]; omega
    · go_wp2
      go_ret
      exact ⟨rfl, q, rfl⟩

set_option maxHeartbeats 1000000 in
theorem eqBoolS_any (A A' : Option Addr) (n c c' : Nat) (bs : List Bool) (w : World) (hn : n ≤ 1048577) (ha : Rd w A n 1 (bs.map Value.bool)) (hb : Rd w A' n 1 (bs.map Value.bool)) :
    Calls Try.prog 159 #[.slice A n c, .slice A' n c'] w fun e w' => e = .returned (.bool true) ∧ ∃ k, w' = w.drewN k := by
  have hm : n ≤ 9223372036854775807 := by omega
  clear hn
  have HA := Lib.hid ha
  have HB := Lib.hid hb
  clear ha hb
  go_enter Try.func159, Try.ntmps159
  go_wp2
  go_loopw [5] (fun i wr => ∃ k q : Nat, k ≤ n ∧ i = .int .i64 k ∧ wr = w.drewN q) (fun i _ => n - (intOf i).toNat)
  case atStart => exact ⟨0, 0, Nat.zero_le _, rfl, rfl⟩
  case round =>
    obtain ⟨k, q, hk, rfl, rfl⟩ := hrel
    by_cases hlt : k < n
    · obtain ⟨g, u, rfl, hu, hc⟩ := HA.out.at_ hlt
      obtain ⟨g', u', rfl, hu', hc'⟩ := HB.out.at_ hlt
      obtain rfl : u = u' := by rw [hu] at hu'; exact Option.some.inj hu'
      obtain ⟨x, rfl⟩ : ∃ x, u = Value.bool x := by
        rw [List.getElem?_map] at hu
        cases hz : bs[k]? with
        | none => rw [hz] at hu; cases hu
        | some x => rw [hz] at hu; exact ⟨x, (Option.some.inj hu).symm⟩
      clear hu hu' HA HB
      have hlt' : (k : Int) < n := by omega
      go_wp2
      go_quiet (fail)
      go_wp2
      go_roundw
      case rel => exact ⟨k + 1, _, by omega, by go_num, rfl⟩
      case measure => simp [intOf]; omega
    · go_wp2
      go_ret
      exact ⟨rfl, q, rfl⟩
end Go.Proofs.Ytjnfdcojccgfoaa
