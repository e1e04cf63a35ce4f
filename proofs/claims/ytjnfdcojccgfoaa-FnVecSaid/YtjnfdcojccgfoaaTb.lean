import Derived.Test.YtjnfdcojccgfoaaTa
namespace Go.Proofs.Ytjnfdcojccgfoaa
set_option linter.unusedSimpArgs false
set_option linter.unusedVariables false
set_option linter.unnecessarySimpa false
open Go.RowKit
def nvals (l : List Nat) : List Value := l.map fun (i : Nat) => Value.int .i64 (i : Int)
theorem infoI : (Try.prog.info? 3).map (fun i => (i.zero, i.size, i.bytes)) = some (some (.int .i64 0), 1, 8) := by kernel_rfl
def kidsN (ps : List Int) (s k : Nat) : List Nat := (List.range k).filter (isKid ps s)
theorem kidsN_yes {ps : List Int} {s k : Nat} (h1 : 1 ≤ k) (h : ps.getD k 0 = s) : kidsN ps s (k + 1) = kidsN ps s k ++ [k] := by
  unfold kidsN
  rw [List.range_succ, List.filter_append]
  have : isKid ps s k = true := by unfold isKid; simp only [Bool.and_eq_true, decide_eq_true_eq]; exact ⟨h1, h⟩
  simp [List.filter_cons, this]
theorem kidsN_no {ps : List Int} {s k : Nat} (h : ps.getD k 0 ≠ s) : kidsN ps s (k + 1) = kidsN ps s k := by
  unfold kidsN
  rw [List.range_succ, List.filter_append]
  have : isKid ps s k = false := by unfold isKid; simp only [Bool.and_eq_false_iff, decide_eq_false_iff_not]; exact Or.inr h
  simp [List.filter_cons, this]
theorem kidsN_len (ps : List Int) (s k : Nat) : (kidsN ps s k).length ≤ k := by
  have := List.length_filter_le (isKid ps s) (List.range k)
  simpa [kidsN] using this
theorem kidsN_one (ps : List Int) (s : Nat) : kidsN ps s 1 = [] := by simp [kidsN, isKid, List.range_succ]
theorem kidsN_all (ps : List Int) (s n : Nat) (h : ps.length = n) : kidsN ps s n = kids ps s := by rw [← h]; rfl

set_option maxHeartbeats 1000000 in
theorem kids_any (A B : Option Addr) (n c m d : Nat) (ps : List Int) (s : Nat) (w : World) (hn : n ≤ 1048576) (hr : Rd w A n 1 (ints ps)) (hl : ∀ g, A = some ⟨g, 0, none⟩ → g < w.heap.size) :
    Calls Try.prog 129 #[.agg #[.slice A n c, .slice B m d], .int .i64 s] w fun e w' => ∃ v, e = .returned v ∧ w'.ownsRow w.heap.size 3 1 v (kids ps s).length (nvals (kids ps s)) ∧ Below w.heap.size w w' := by
  obtain ⟨i0, hi, hz0, hz1, hz2⟩ := info_parts infoI
  have hpl := hr.ilen
  have hm : n ≤ 9223372036854775807 := by omega
  have HN := Lib.hid hn
  have HR := Lib.hid hr
  have HP := Lib.hid hpl
  have HL := Lib.hid hl
  clear hn hr hpl hl
  go_enter Try.func129, Try.ntmps129
  go_wp2_with fail
  go_loopw [5, 6] (fun v i wr => ∃ k : Nat, 1 ≤ k ∧ (k ≤ n ∨ k = 1) ∧ i = .int .i64 k ∧ wr.ownsRow (w.heap.size + 1) 3 1 v (kidsN ps s k).length (nvals (kidsN ps s k)) ∧ Below w.heap.size w wr ∧ w.heap.size < wr.heap.size ∧ wr.cell? ⟨w.heap.size, 0, none⟩ = some (.slice A n c)) (fun _ i _ => n - (intOf i).toNat)
  case atStart => exact ⟨1, Nat.le_refl _, Or.inr rfl, rfl, by rw [kidsN_one]; simpa [nvals] using own_empty (w.alloc _) 3, bstep (below_alloc _ _) (below_alloc _ _), by simp; omega, by simp [go_sem, World.cell?_alloc_some]⟩
  case round =>
    obtain ⟨k, hk1, hk, rfl, hown, hb, hsz, hbox⟩ := hrel
    have hl9 := kidsN_len ps s k
    have HL9 := Lib.hid hl9
    clear hl9
    by_cases hlt : k < n
    · have hlt' : (k : Int) < n := by omega
      obtain ⟨g, z, rfl, hz, d0⟩ := HR.out.int hlt
      have D0 := (hb.cell (p := ⟨g, k, none⟩) (HL.out g rfl)).trans d0
      have HZ := Lib.hid (getD_of hz)
      have HB := Lib.hid hb
      clear hz d0 hb
      by_cases he : z = s
      · have he' : (z == (s : Int)) = true := by simp [he]
        have HE := Lib.hid (kidsN_yes hk1 (HZ.out.trans he))
        clear he
        go_wp2_with (at_builtin; refine wpList_append_own _ rfl _ _ 66 rfl (w.heap.size + 1) 3 i0 (.int .i64 0) 1 8 Try.underlying66 hi hz0 hz1 hz2 rfl (by decide) _ _ _ rfl (hown.alloc _) ⟨wr.heap.size, 0, none⟩ 1 1 [.int .i64 (k : Int)] rfl rfl ?c1 ?c2 ?c3 ?c4 ?c5 ?_)
        case c1 => intro j y hy; match j, hy with | 0, hy => (simp at hy; subst hy; simp [Addr.add])
        case c2 => simp [Value.oneCell']
        case c3 => unfold maxLen; have := HN.out; have := HL9.out; omega
        case c4 => have := HN.out; have := HL9.out; omega
        case c5 => simp; omega
        intro v' w1 hown1 hg1 _
        have hgb := hg1.block w.heap.size (by simp; omega) (fun e => by have := own_ge hown _ e.symm; omega)
        go_wp2
        go_roundw
        case rel =>
          refine ⟨k + 1, by omega, by omega, by go_num, ?_, ?_, ?_, ?_⟩
          · rw [HE.out]; simpa [nvals] using hown1
          · exact Below.grown (HB.out.alloc HB.out.size _) hg1 (by simp; have := HB.out.size; omega) (fun k hk => by have := own_ge hown k hk; omega)
          · have := hg1.size; simp at this; omega
          · rw [World.cell?_of_block hgb]; simp [hbox, World.cell?_alloc_some]
        case measure => simp [intOf]; omega
      · have he' : (z == (s : Int)) = false := by simp [he]
        have HE := Lib.hid (kidsN_no (k := k) (ps := ps) (s := s) (by rw [HZ.out]; exact he))
        clear he
        go_wp2
        go_roundw
        case rel => exact ⟨k + 1, by omega, by omega, by go_num, by rw [HE.out]; exact hown, HB.out, hsz, hbox⟩
        case measure => simp [intOf]; omega
    · have hlt' : ¬ (k : Int) < n := by omega
      have hk9 : kidsN ps s k = kids ps s := by
        rcases hk with h | h
        · have : k = n := by omega
          rw [this]; exact kidsN_all ps s n HP.out
        · subst h
          rw [kidsN_one]
          unfold kids
          rw [HP.out]
          rcases Nat.lt_or_ge 0 n with h | h
          · have : n = 1 := by omega
            rw [this]; exact (kidsN_one ps s).symm
          · have : n = 0 := by omega
            rw [this]; rfl
      rw [hk9] at hown
      have HO := Lib.hid hown
      have HB := Lib.hid hb
      clear hk9 hown hb
      go_wp2
      go_ret
      exact ⟨_, rfl, own_mono HO.out (by omega), HB.out⟩
end Go.Proofs.Ytjnfdcojccgfoaa
