import Derived.Test.YtjnfdcojccgfoaaPd
namespace Go.Proofs.Ytjnfdcojccgfoaa
set_option linter.unusedSimpArgs false
set_option linter.unusedVariables false
set_option linter.unnecessarySimpa false
open Go.RowKit
def szOf (left : Int) (n : Nat) : Int := if (n : Int) ≤ left then left - n else -1

theorem own_mono {w : World} {lo lo' : Nat} {e : TypeId} {size : Nat} {v : Value} {n : Nat} {xs : List Value} (h : w.ownsRow lo e size v n xs) (hl : lo' ≤ lo) : w.ownsRow lo' e size v n xs := by
  rcases h with ⟨h1, h2 | ⟨g, cap, cur, hv, hg, r⟩⟩
  · exact ⟨h1, Or.inl h2⟩
  · exact ⟨h1, Or.inr ⟨g, cap, cur, hv, by omega, r⟩⟩

set_option maxHeartbeats 400000 in
theorem szPtS_any (A : Option Addr) (n c : Nat) (left : Int) (w : World) (h0 : 0 ≤ left) (h1 : left ≤ 1099511627776) (hn : n ≤ maxLen) :
    Calls Try.prog 101 #[.slice A n c, .int .i64 left] w fun e w' => e = .returned (.int .i64 (szOf left n)) ∧ w = w' := by
  unfold maxLen at hn
  have hl : -9223372036854775808 ≤ left - n := by omega
  have hl2 : left - n ≤ 9223372036854775807 := by omega
  unfold szOf
  by_cases h : (n : Int) ≤ left
  · rw [if_pos h]
    have h' : ¬ (left - n < 0) := by omega
    clear h1
    go_enter Try.func101, Try.ntmps101
    go_wp2
    go_ret
    exact ⟨rfl, rfl⟩
  · rw [if_neg h]
    have h' : left - n < 0 := by omega
    clear h1
    go_enter Try.func101, Try.ntmps101
    go_wp2
    go_ret
    exact ⟨rfl, rfl⟩

set_option maxHeartbeats 400000 in
theorem szProf_any (A : Option Addr) (n c : Nat) (left : Int) (w : World) (h0 : 0 ≤ left) (h1 : left ≤ 1099511627776) (hn : n ≤ maxLen) :
    Calls Try.prog 29 #[.agg #[.slice A n c], .int .i64 left] w fun e w' => e = .returned (.int .i64 (szOf left n)) ∧ Below w.heap.size w w' := by
  have H0 := Lib.hid h0
  have H1 := Lib.hid h1
  have HN := Lib.hid hn
  by_cases h : (n : Int) ≤ left
  · have hz : szOf left n = left - n := if_pos h
    have h' : ¬ (szOf left n < 0) := by rw [hz]; omega
    clear h1 h0 hn hz h
    go_enter Try.func29, Try.ntmps29
    go_wp2_with (go_at_call 101; refine (szPtS_any A n c left _ H0.out H1.out HN.out).mono ?_; rintro e w1 ⟨rfl, rfl⟩)
    go_ret
    exact ⟨rfl, below_alloc _ _⟩
  · have hz : szOf left n = -1 := if_neg h
    clear h1 h0 hn h
    have HZ := Lib.hid hz
    rw [hz]
    clear hz
    go_enter Try.func29, Try.ntmps29
    go_wp2_with (go_at_call 101; refine (szPtS_any A n c left _ H0.out H1.out HN.out).mono ?_; rintro e w1 ⟨rfl, rfl⟩; rw [HZ.out])
    go_ret
    exact ⟨rfl, below_alloc _ _⟩

set_option maxHeartbeats 1000000 in
theorem toProf_any (A : Option Addr) (n c : Nat) (ps : List Q) (w : World) (hn : n ≤ 1048576) (hr : RdE w A n ps) :
    Calls Try.prog 31 #[.agg #[.slice A n c]] w fun e w' => ∃ v, e = .returned (.agg #[v]) ∧ w'.ownsRow w.heap.size 97 4 v n (flat ps) ∧ Below w.heap.size w w' := by
  have HN := Lib.hid hn
  have HR := Lib.hid hr
  clear hn hr
  go_enter Try.func31, Try.ntmps31
  go_wp2_with fail
  refine (toPtS_any A n c ps _ HN.out (HR.out.below (bstep (bstep (below_alloc _ _) (below_alloc _ _)) (below_alloc _ _)))).mono ?_
  rintro e w1 ⟨v, rfl, own, hb1⟩
  obtain ⟨A', c', rfl, _⟩ := own_rd own
  have hs1 := hb1.size
  simp at hs1
  have hy1 : w.heap.size + 1 < w1.heap.size := by omega
  have k0 := fun o => hb1.cell (p := ⟨w.heap.size + 1, o, none⟩) (by simp)
  have k1 := fun o => hb1.cell (p := ⟨w.heap.size + 1 + 1, o, none⟩) (by simp)
  have g0 := fun o => hb1.frozen (p := ⟨w.heap.size + 1, o, none⟩) (by simp)
  have g1 := fun o => hb1.frozen (p := ⟨w.heap.size + 1 + 1, o, none⟩) (by simp)
  have OW := Lib.hid own
  clear own
  go_wp2
  go_light
  refine bodyPost_ret (v := .agg #[.slice A' n c']) (by simp [results, Try.results31, go_sem, *]) rfl ⟨_, rfl, ?_, (by repeat (first | exact Below.refl _ _ | (refine bstep ?_ (below_alloc _ _)) | (refine bstep ?_ (by assumption)) | (refine Below.setCell ?_ (by simp <;> omega) _) | refine Below.drew ?_))⟩
  exact own_mono (ownsRow_setCell_below (ownsRow_setCell_below OW.out (by simp) _) (by simp) _) (by simp; omega)
end Go.Proofs.Ytjnfdcojccgfoaa
