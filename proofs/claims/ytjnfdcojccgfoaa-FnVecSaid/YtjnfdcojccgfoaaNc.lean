import Derived.Test.YtjnfdcojccgfoaaNb
import Derived.Deep.RegionHeld3
import Derived.Deep.RegionWith
namespace Go.Proofs.Ytjnfdcojccgfoaa
set_option linter.unusedSimpArgs false
set_option linter.unusedVariables false
set_option linter.unnecessarySimpa false
open Go.RowKit
def slashB : ByteArray := ⟨#[47]⟩
def vtxtB (a b c : Int) : ByteArray := if vecOkB a b c then txtB a ++ slashB ++ txtB b ++ slashB ++ txtB c else ⟨#[]⟩

set_option maxHeartbeats 1000000 in
theorem vecText_any (a b c : Int) (w : World) :
    Calls Try.prog 50 #[.agg #[.int .i64 a, .int .i64 b, .int .i64 c]] w fun e w' => e = .returned (.string (vtxtB a b c)) ∧ Below w.heap.size w w' := by
  have z1 := txtB_size a
  have z2 := txtB_size b
  have z3 := txtB_size c
  have q1 : ¬ 9223372036854775807 < (txtB a).size + 1 := by omega
  have q2 : ¬ 9223372036854775807 < (txtB a).size + 1 + (txtB b).size := by omega
  have q3 : ¬ 9223372036854775807 < (txtB a).size + 1 + (txtB b).size + 1 := by omega
  have q4 : ¬ 9223372036854775807 < (txtB a).size + 1 + (txtB b).size + 1 + (txtB c).size := by omega
  have q5 : (⟨#[47]⟩ : ByteArray).size = 1 := rfl
  cases hv : vecOkB a b c
  · have hr : vtxtB a b c = ⟨#[]⟩ := by simp [vtxtB, hv]
    rw [hr]
    have HV := Lib.hid hv
    clear hr hv
    go_enter Try.func50, Try.ntmps50
    go_wp2_with fail
    refine (vecOk_raw _ _ _ _).mono ?_
    rintro e w1 ⟨rfl, hb1⟩
    rw [HV.out]
    obtain ⟨hc1, hf1⟩ := bcell hb1
    have hs1 := hb1.size
    simp at hs1
    have hk1 := fun o => hc1 (w.heap.size) o (by first | omega | (simp <;> omega))
    clear hc1 hf1
    go_wp2_with fail
    go_ret
    exact ⟨rfl, (by repeat (first | exact Below.refl _ _ | (refine bstep ?_ (below_alloc _ _)) | (refine bstep ?_ (by assumption)) | (refine Below.setCell ?_ (by simp <;> omega) _) | refine Below.drew ?_))⟩
  · have hr : vtxtB a b c = txtB a ++ slashB ++ txtB b ++ slashB ++ txtB c := by simp [vtxtB, hv]
    rw [hr]
    have HV := Lib.hid hv
    clear hr hv
    go_enter Try.func50, Try.ntmps50
    go_wp2_with fail
    refine (vecOk_raw _ _ _ _).mono ?_
    rintro e w1 ⟨rfl, hb1⟩
    rw [HV.out]
    obtain ⟨hc1, hf1⟩ := bcell hb1
    have hs1 := hb1.size
    simp at hs1
    have hk1 := fun o => hc1 (w.heap.size) o (by first | omega | (simp <;> omega))
    clear hc1 hf1
    go_wp2_with fail
    go_region_held3 (fun w' => w'.cell? ⟨w.heap.size, 0, none⟩ = some (.int .i64 a) ∧ w'.cell? ⟨w.heap.size, 1, none⟩ = some (.int .i64 b) ∧ w'.cell? ⟨w.heap.size, 2, none⟩ = some (.int .i64 c)) (simp [go_sem, *, World.cell?_alloc_some, World.cell?_setCell_far, Nat.lt_add_right, Nat.ne_of_gt]) (first | (go_at_call_of 120 (Value.int IntKind.i64 a); refine (numText_full a _).mono ?_; rintro e w2 ⟨rfl, hb2⟩; obtain ⟨hc2, hf2⟩ := bcell hb2; have hs2 := hb2.size; (try simp at hs2); have hy20 : w.heap.size < w2.heap.size := (by omega); have hk20 := fun o => hc2 (w.heap.size) o (by first | omega | (simp <;> omega)); have hg20 := fun o => hf2 (w.heap.size) o (by first | omega | (simp <;> omega)); (try (have hx20 : w1.heap.size < w2.heap.size := (by omega); have hm20 := fun o => hc2 (w1.heap.size) o (by first | omega | (simp <;> omega)); have hn20 := fun o => hf2 (w1.heap.size) o (by first | omega | (simp <;> omega)))); clear hc2 hf2) | (go_at_call_of 120 (Value.int IntKind.i64 b); refine (numText_full b _).mono ?_; rintro e w3 ⟨rfl, hb3⟩; obtain ⟨hc3, hf3⟩ := bcell hb3; have hs3 := hb3.size; (try simp at hs3); have hy30 : w.heap.size < w3.heap.size := (by omega); have hk30 := fun o => hc3 (w.heap.size) o (by first | omega | (simp <;> omega)); have hg30 := fun o => hf3 (w.heap.size) o (by first | omega | (simp <;> omega)); (try (have hx30 : w1.heap.size < w3.heap.size := (by omega); have hm30 := fun o => hc3 (w1.heap.size) o (by first | omega | (simp <;> omega)); have hn30 := fun o => hf3 (w1.heap.size) o (by first | omega | (simp <;> omega)))); (try (have hx31 : w2.heap.size < w3.heap.size := (by omega); have hm31 := fun o => hc3 (w2.heap.size) o (by first | omega | (simp <;> omega)); have hn31 := fun o => hf3 (w2.heap.size) o (by first | omega | (simp <;> omega)))); clear hc3 hf3) | (go_at_call_of 120 (Value.int IntKind.i64 c); refine (numText_full c _).mono ?_; rintro e w4 ⟨rfl, hb4⟩; obtain ⟨hc4, hf4⟩ := bcell hb4; have hs4 := hb4.size; (try simp at hs4); have hy40 : w.heap.size < w4.heap.size := (by omega); have hk40 := fun o => hc4 (w.heap.size) o (by first | omega | (simp <;> omega)); have hg40 := fun o => hf4 (w.heap.size) o (by first | omega | (simp <;> omega)); (try (have hx40 : w1.heap.size < w4.heap.size := (by omega); have hm40 := fun o => hc4 (w1.heap.size) o (by first | omega | (simp <;> omega)); have hn40 := fun o => hf4 (w1.heap.size) o (by first | omega | (simp <;> omega)))); (try (have hx41 : w2.heap.size < w4.heap.size := (by omega); have hm41 := fun o => hc4 (w2.heap.size) o (by first | omega | (simp <;> omega)); have hn41 := fun o => hf4 (w2.heap.size) o (by first | omega | (simp <;> omega)))); (try (have hx42 : w3.heap.size < w4.heap.size := (by omega); have hm42 := fun o => hc4 (w3.heap.size) o (by first | omega | (simp <;> omega)); have hn42 := fun o => hf4 (w3.heap.size) o (by first | omega | (simp <;> omega)))); clear hc4 hf4))
    all_goals (go_wp2; go_ret)
    all_goals exact ⟨rfl, (by repeat (first | exact Below.refl _ _ | (refine bstep ?_ (below_alloc _ _)) | (refine bstep ?_ (by assumption)) | (refine Below.setCell ?_ (by simp <;> omega) _) | refine Below.drew ?_))⟩

set_option maxHeartbeats 1000000 in
theorem svecText_any (a b c : Int) (w : World) :
    Calls Try.prog 143 #[.agg #[.int .i64 a, .int .i64 b, .int .i64 c]] w fun e w' => e = .returned (.string (vtxtB a b c)) ∧ Below w.heap.size w w' := by
  have z1 := txtB_size a
  have z2 := txtB_size b
  have z3 := txtB_size c
  have q1 : ¬ 9223372036854775807 < (txtB a).size + 1 := by omega
  have q2 : ¬ 9223372036854775807 < (txtB a).size + 1 + (txtB b).size := by omega
  have q3 : ¬ 9223372036854775807 < (txtB a).size + 1 + (txtB b).size + 1 := by omega
  have q4 : ¬ 9223372036854775807 < (txtB a).size + 1 + (txtB b).size + 1 + (txtB c).size := by omega
  have q5 : (⟨#[47]⟩ : ByteArray).size = 1 := rfl
  cases hv : vecOkB a b c
  · have hr : vtxtB a b c = ⟨#[]⟩ := by simp [vtxtB, hv]
    rw [hr]
    have HV := Lib.hid hv
    clear hr hv
    go_enter Try.func143, Try.ntmps143
    go_wp2_with fail
    refine (svecOk_raw _ _ _ _).mono ?_
    rintro e w1 ⟨rfl, hb1⟩
    rw [HV.out]
    obtain ⟨hc1, hf1⟩ := bcell hb1
    have hs1 := hb1.size
    simp at hs1
    have hk1 := fun o => hc1 (w.heap.size) o (by first | omega | (simp <;> omega))
    clear hc1 hf1
    go_wp2_with fail
    go_ret
    exact ⟨rfl, (by repeat (first | exact Below.refl _ _ | (refine bstep ?_ (below_alloc _ _)) | (refine bstep ?_ (by assumption)) | (refine Below.setCell ?_ (by simp <;> omega) _) | refine Below.drew ?_))⟩
  · have hr : vtxtB a b c = txtB a ++ slashB ++ txtB b ++ slashB ++ txtB c := by simp [vtxtB, hv]
    rw [hr]
    have HV := Lib.hid hv
    clear hr hv
    go_enter Try.func143, Try.ntmps143
    go_wp2_with fail
    refine (svecOk_raw _ _ _ _).mono ?_
    rintro e w1 ⟨rfl, hb1⟩
    rw [HV.out]
    obtain ⟨hc1, hf1⟩ := bcell hb1
    have hs1 := hb1.size
    simp at hs1
    have hk1 := fun o => hc1 (w.heap.size) o (by first | omega | (simp <;> omega))
    clear hc1 hf1
    go_wp2_with fail
    go_region_held3 (fun w' => w'.cell? ⟨w.heap.size, 0, none⟩ = some (.int .i64 a) ∧ w'.cell? ⟨w.heap.size, 1, none⟩ = some (.int .i64 b) ∧ w'.cell? ⟨w.heap.size, 2, none⟩ = some (.int .i64 c)) (simp [go_sem, *, World.cell?_alloc_some, World.cell?_setCell_far, Nat.lt_add_right, Nat.ne_of_gt]) (first | (go_at_call_of 142 (Value.int IntKind.i64 a); refine (sNumText_full a _).mono ?_; rintro e w2 ⟨rfl, hb2⟩; obtain ⟨hc2, hf2⟩ := bcell hb2; have hs2 := hb2.size; (try simp at hs2); have hy20 : w.heap.size < w2.heap.size := (by omega); have hk20 := fun o => hc2 (w.heap.size) o (by first | omega | (simp <;> omega)); have hg20 := fun o => hf2 (w.heap.size) o (by first | omega | (simp <;> omega)); (try (have hx20 : w1.heap.size < w2.heap.size := (by omega); have hm20 := fun o => hc2 (w1.heap.size) o (by first | omega | (simp <;> omega)); have hn20 := fun o => hf2 (w1.heap.size) o (by first | omega | (simp <;> omega)))); clear hc2 hf2) | (go_at_call_of 142 (Value.int IntKind.i64 b); refine (sNumText_full b _).mono ?_; rintro e w3 ⟨rfl, hb3⟩; obtain ⟨hc3, hf3⟩ := bcell hb3; have hs3 := hb3.size; (try simp at hs3); have hy30 : w.heap.size < w3.heap.size := (by omega); have hk30 := fun o => hc3 (w.heap.size) o (by first | omega | (simp <;> omega)); have hg30 := fun o => hf3 (w.heap.size) o (by first | omega | (simp <;> omega)); (try (have hx30 : w1.heap.size < w3.heap.size := (by omega); have hm30 := fun o => hc3 (w1.heap.size) o (by first | omega | (simp <;> omega)); have hn30 := fun o => hf3 (w1.heap.size) o (by first | omega | (simp <;> omega)))); (try (have hx31 : w2.heap.size < w3.heap.size := (by omega); have hm31 := fun o => hc3 (w2.heap.size) o (by first | omega | (simp <;> omega)); have hn31 := fun o => hf3 (w2.heap.size) o (by first | omega | (simp <;> omega)))); clear hc3 hf3) | (go_at_call_of 142 (Value.int IntKind.i64 c); refine (sNumText_full c _).mono ?_; rintro e w4 ⟨rfl, hb4⟩; obtain ⟨hc4, hf4⟩ := bcell hb4; have hs4 := hb4.size; (try simp at hs4); have hy40 : w.heap.size < w4.heap.size := (by omega); have hk40 := fun o => hc4 (w.heap.size) o (by first | omega | (simp <;> omega)); have hg40 := fun o => hf4 (w.heap.size) o (by first | omega | (simp <;> omega)); (try (have hx40 : w1.heap.size < w4.heap.size := (by omega); have hm40 := fun o => hc4 (w1.heap.size) o (by first | omega | (simp <;> omega)); have hn40 := fun o => hf4 (w1.heap.size) o (by first | omega | (simp <;> omega)))); (try (have hx41 : w2.heap.size < w4.heap.size := (by omega); have hm41 := fun o => hc4 (w2.heap.size) o (by first | omega | (simp <;> omega)); have hn41 := fun o => hf4 (w2.heap.size) o (by first | omega | (simp <;> omega)))); (try (have hx42 : w3.heap.size < w4.heap.size := (by omega); have hm42 := fun o => hc4 (w3.heap.size) o (by first | omega | (simp <;> omega)); have hn42 := fun o => hf4 (w3.heap.size) o (by first | omega | (simp <;> omega)))); clear hc4 hf4))
    all_goals (go_wp2; go_ret)
    all_goals exact ⟨rfl, (by repeat (first | exact Below.refl _ _ | (refine bstep ?_ (below_alloc _ _)) | (refine bstep ?_ (by assumption)) | (refine Below.setCell ?_ (by simp <;> omega) _) | refine Below.drew ?_))⟩
end Go.Proofs.Ytjnfdcojccgfoaa
