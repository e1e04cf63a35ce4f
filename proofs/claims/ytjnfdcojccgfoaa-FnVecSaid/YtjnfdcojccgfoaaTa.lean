import Derived.Test.YtjnfdcojccgfoaaPg
import Derived.Test.YtjnfdcojccgfoaaTp
import Derived.IntWalk
namespace Go.Proofs.Ytjnfdcojccgfoaa
set_option linter.unusedSimpArgs false
set_option linter.unusedVariables false
set_option linter.unnecessarySimpa false
open Go.RowKit
def ints (ps : List Int) : List Value := ps.map (Value.int .i64)
theorem Rd.int {w : World} {A : Option Addr} {n : Nat} {ps : List Int} (h : Rd w A n 1 (ints ps)) {k : Nat} (hk : k < n) : ∃ g z, A = some ⟨g, 0, none⟩ ∧ ps[k]? = some z ∧ w.cell? ⟨g, k, none⟩ = some (.int .i64 z) := by
  obtain ⟨g, u, hA, hu, hc⟩ := h.at_ hk
  unfold ints at hu
  rw [List.getElem?_map] at hu
  cases hp : ps[k]? with
  | none => rw [hp] at hu; cases hu
  | some z => rw [hp] at hu; simp at hu; exact ⟨g, z, hA, rfl, by rw [hc, hu]⟩
theorem Rd.ilen {w : World} {A : Option Addr} {n : Nat} {ps : List Int} (h : Rd w A n 1 (ints ps)) : ps.length = n := by
  have := h.1; simp [ints] at this; exact this
theorem getD_of {ps : List Int} {k : Nat} {z : Int} (h : ps[k]? = some z) : ps.getD k 0 = z := by simp [List.getD, h]
/-- Has a switch no children? -/
def leafI (ps : List Int) (s : Int) : Bool := !((List.range ps.length).any fun i => decide (1 ≤ i) && decide (ps.getD i 0 = s))
theorem leafI_eq (ps : List Int) (s : Nat) : leafI ps s = leafB ps s := by
  unfold leafI leafB kids isKid
  rw [Bool.eq_iff_iff, List.isEmpty_iff, List.filter_eq_nil_iff]
  simp
theorem leafI_no {ps : List Int} {s : Int} {k : Nat} (hk : k < ps.length) (h1 : 1 ≤ k) (h : ps.getD k 0 = s) : leafI ps s = false := by
  unfold leafI
  rw [Bool.not_eq_false', List.any_eq_true]
  exact ⟨k, List.mem_range.2 hk, by simp only [Bool.and_eq_true, decide_eq_true_eq]; exact ⟨h1, h⟩⟩
theorem leafI_yes {ps : List Int} {s : Int} {n : Nat} (hn : ps.length = n) (h : ∀ j, 1 ≤ j → j < n → ps.getD j 0 ≠ s) : leafI ps s = true := by
  unfold leafI
  rw [Bool.not_eq_true', List.any_eq_false]
  intro j hj
  have := List.mem_range.1 hj
  simp only [Bool.and_eq_true, decide_eq_true_eq, not_and]
  intro h1
  exact h j h1 (by omega)

set_option maxHeartbeats 1000000 in
theorem isLeaf_any (A : Option Addr) (n c : Nat) (ps : List Int) (s : Int) (w : World) (hn : n ≤ 1048576) (hr : Rd w A n 1 (ints ps)) :
    Calls Try.prog 132 #[.slice A n c, .int .i64 s] w fun e w' => e = .returned (.bool (leafI ps s)) ∧ w = w' := by
  have hpl := hr.ilen
  have hm : n ≤ 9223372036854775807 := by omega
  have HN := Lib.hid hn
  have HR := Lib.hid hr
  have HP := Lib.hid hpl
  clear hn hr hpl
  go_enter Try.func132, Try.ntmps132
  go_wp2_with fail
  go_loop [5] (fun i => ∃ k : Nat, 1 ≤ k ∧ (k ≤ n ∨ k = 1) ∧ i = .int .i64 k ∧ ∀ j, 1 ≤ j → j < k → ps.getD j 0 ≠ s) (fun i => n - (intOf i).toNat)
  case atStart => exact ⟨1, Nat.le_refl _, Or.inr rfl, rfl, fun j h1 h2 => by omega⟩
  case round =>
    obtain ⟨k, hk1, hk, rfl, hall⟩ := hrel
    have HA := Lib.hid hall
    clear hall
    by_cases hlt : k < n
    · have hlt' : (k : Int) < n := by omega
      obtain ⟨g, z, rfl, hz, d0⟩ := HR.out.int hlt
      have HZ := Lib.hid (getD_of hz)
      clear hz
      by_cases he : z = s
      · have he' : (z == s) = true := by simp [he]
        have HE := Lib.hid he
        clear he
        go_wp2
        go_ret
        exact ⟨ret_bool (leafI_no (k := k) (by rw [HP.out]; exact hlt) hk1 (by rw [HZ.out, HE.out])).symm, rfl⟩
      · have he' : (z == s) = false := by simp [he]
        go_wp2
        go_round
        case rel =>
          refine ⟨k + 1, by omega, by omega, by go_num, ?_⟩
          intro j h1 h2
          rcases Nat.lt_or_ge j k with h | h
          · exact HA.out j h1 h
          · have : j = k := by omega
            rw [this, HZ.out]; exact he
        case measure => simp [intOf]; omega
    · have hlt' : ¬ (k : Int) < n := by omega
      go_wp2
      go_ret
      exact ⟨ret_bool (leafI_yes HP.out (fun j h1 h2 => HA.out j h1 (by omega))).symm, rfl⟩

set_option maxHeartbeats 1000000 in
theorem depth_any (A : Option Addr) (n c : Nat) (ps : List Int) (s : Nat) (w : World) (hn : n ≤ 1048576) (hr : Rd w A n 1 (ints ps)) (hok : parOk ps) (hs : s < n) :
    Calls Try.prog 133 #[.slice A n c, .int .i64 s] w fun e w' => e = .returned (.int .i64 (dep ps s)) ∧ w = w' := by
  have hpl := hr.ilen
  have hm : n ≤ 9223372036854775807 := by omega
  have HN := Lib.hid hn
  have HR := Lib.hid hr
  have HP := Lib.hid hpl
  clear hn hr hpl
  have HO := Lib.hid hok
  clear hok
  go_enter Try.func133, Try.ntmps133
  go_wp2_with fail
  go_loop [1, 5] (fun v m => ∃ k j : Nat, k < n ∧ k ≤ s ∧ j + k ≤ s ∧ v = .int .i64 k ∧ m = .int .i64 j ∧ dep ps s = j + dep ps k) (fun v _ => (intOf v).toNat)
  case atStart => exact ⟨s, 0, hs, Nat.le_refl _, by omega, rfl, rfl, by omega⟩
  case round =>
    obtain ⟨k, j, hk, hks, hjk, rfl, rfl, hd⟩ := hrel
    have HD := Lib.hid hd
    clear hd
    by_cases h0 : 0 < k
    · have h0' : (0 : Int) < k := by omega
      have hkn : (k : Int) < n := by omega
      obtain ⟨g, z, rfl, hz, d0⟩ := HR.out.int hk
      have hz2 := getD_of hz
      have hpo := HO.out k h0 (by rw [HP.out]; exact hk)
      rw [hz2] at hpo
      obtain ⟨p, rfl⟩ : ∃ p : Nat, z = p := ⟨z.toNat, by omega⟩
      have hdp : dep ps k = dep ps p + 1 := by
        have := dep_pos HO.out h0 (by rw [HP.out]; exact hk)
        unfold par at this
        rw [hz2] at this
        simpa using this
      have HZ := Lib.hid hdp
      have hpk : p < k := by omega
      clear hz hz2 hdp hpo
      go_wp2
      go_round
      case rel => exact ⟨p, j + 1, by omega, by omega, by omega, rfl, by go_num, by rw [HD.out, HZ.out]; omega⟩
      case measure => simp [intOf]; omega
    · have hk0 : k = 0 := by omega
      subst hk0
      go_wp2
      go_ret
      exact ⟨ret_int (by rw [HD.out, dep_zero]; simp), rfl⟩

set_option maxHeartbeats 1000000 in
theorem height_any (A : Option Addr) (n c : Nat) (ps : List Int) (w : World) (hn : n ≤ 1048576) (h1 : 1 ≤ n) (hr : Rd w A n 1 (ints ps)) (hok : parOk ps) :
    Calls Try.prog 169 #[.slice A n c] w fun e w' => e = .returned (.int .i64 (dep ps (n - 1))) ∧ w = w' := by
  have hw : (n : Int) - 1 = ((n - 1 : Nat) : Int) := by omega
  have hw2 : IntKind.i64.wrap ((n : Int) - 1) = ((n - 1 : Nat) : Int) := by rw [hw]; exact IntWalk.i64_in _ (by omega)
  have HR := Lib.hid hr
  have HO := Lib.hid hok
  have HW := Lib.hid hw
  have hm : n ≤ 9223372036854775807 := by omega
  have HN := Lib.hid hn
  clear hr hok hw hn
  go_enter Try.func169, Try.ntmps169
  go_wp2_with fail
  (try rw [HW.out])
  refine (depth_any A n c ps (n - 1) _ HN.out HR.out HO.out (by omega)).mono ?_
  rintro e w1 ⟨rfl, rfl⟩
  go_wp2
  go_ret
  exact ⟨rfl, rfl⟩
end Go.Proofs.Ytjnfdcojccgfoaa
