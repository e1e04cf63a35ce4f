/-
  Marks on a topology.
-/
import Derived.Test.YtjnfdcojccgfoaaMa
import Derived.Test.YtjnfdcojccgfoaaTa
namespace Go.Proofs.Ytjnfdcojccgfoaa
set_option linter.unusedSimpArgs false
set_option linter.unusedVariables false
set_option linter.unnecessarySimpa false
open Go.RowKit
def atT (A B : Option Addr) (k : Nat) : Prop := atB A k ∨ atB B k
set_option maxHeartbeats 1000000 in
theorem markTopo_any (A B : Option Addr) (n c m d lo lo2 : Nat) (w : World) (hn : n ≤ 1048577) (hm : m ≤ 1048577) (hw : Wr w lo A (n * 1) 3) (hw2 : Wr w lo2 B (m * 4) 104) (hne : ∀ k, atB A k → ¬ atB B k) (hnb : ∀ k, atB A k → k < w.heap.size) :
    Calls Try.prog 81 #[.agg #[.slice A n c, .slice B m d], .int .i64 1] w fun e w' => e = .returned (.int .i64 (1 + 1 * (n : Int) + 4 * (m : Int))) ∧ Fr (atT A B) w w' := by
  have hp : 0 ≤ 1 + 1 * (n : Int) := by omega
  have hp2 : 1 + 1 * (n : Int) ≤ 1099511627776 := by omega
  have HN := Lib.hid hn
  have HM := Lib.hid hm
  have HW := Lib.hid hw
  have HW2 := Lib.hid hw2
  have HNE := Lib.hid hne
  have HNB := Lib.hid hnb
  clear hn hm hw hw2 hne hnb
  go_enter Try.func81, Try.ntmps81
  go_wp2_with fail
  refine (markIntF A n c lo 1 _ HN.out (by omega) (by omega) (HW.out.below (below_alloc _ _))).mono ?_
  rintro e w1 ⟨rfl, _, fr1⟩
  have hk1 := fun o => fr1.cell (b := w.heap.size) (by simp) (fun h => by
    obtain ⟨o, hA⟩ := h
    have hb := HNB.out _ ⟨o, hA⟩
    omega) o
  have FR1 := Lib.hid fr1
  clear fr1
  go_wp2_with fail
  refine (markNodeF B m d lo2 _ _ HM.out (by omega) (by omega) (Wr.fr (HW2.out.below (below_alloc _ _)) FR1.out (fun k h1 h2 => HNE.out k h2 h1))).mono ?_
  rintro e w2 ⟨rfl, _, fr2⟩
  have FR2 := Lib.hid fr2
  clear fr2
  go_wp2
  go_ret
  exact ⟨ret_int (by omega), ((Fr.of_below _ (below_alloc _ _)).trans (FR1.out.mono (fun k hk => Or.inl hk))).trans (FR2.out.mono (fun k hk => Or.inr hk))⟩
end Go.Proofs.Ytjnfdcojccgfoaa
