import Derived.Test.YtjnfdcojccgfoaaPe
import Derived.Deep.DeepCutAuto
namespace Go.Proofs.Ytjnfdcojccgfoaa
set_option linter.unusedSimpArgs false
set_option linter.unusedVariables false
set_option linter.unnecessarySimpa false
open Go.RowKit
theorem own_blk {w : World} {lo : Nat} {e : TypeId} {size : Nat} {A : Option Addr} {n c : Nat} {xs : List Value} (h : w.ownsRow lo e size (.slice A n c) n xs) : ∀ g, A = some ⟨g, 0, none⟩ → g < w.heap.size := by
  intro g hg
  exact own_lt h g (by rw [hg]; rfl)
theorem Rd.below {w w' : World} {A : Option Addr} {n size : Nat} {xs : List Value} (h : Rd w A n size xs) (hl : ∀ g, A = some ⟨g, 0, none⟩ → g < w.heap.size) (hb : Below w.heap.size w w') : Rd w' A n size xs :=
  ⟨h.1, fun hn => by
    obtain ⟨g, rfl, hc⟩ := h.2 hn
    exact ⟨g, rfl, fun j u hj => (hb.cell (p := ⟨g, j, none⟩) (hl g rfl)).trans (hc j u hj)⟩⟩
theorem lt_below {w w' : World} {A : Option Addr} (hl : ∀ g, A = some ⟨g, 0, none⟩ → g < w.heap.size) (hb : Below w.heap.size w w') : ∀ g, A = some ⟨g, 0, none⟩ → g < w'.heap.size :=
  fun g hg => Nat.lt_of_lt_of_le (hl g hg) hb.size

set_option maxHeartbeats 1000000 in
theorem eqProf_any (A A' : Option Addr) (n c c' : Nat) (ps : List Q) (w : World) (hn : n ≤ 1048577) (ha : Rd w A n 4 (flat ps)) (hb : Rd w A' n 4 (flat ps)) (hl : ∀ g, A = some ⟨g, 0, none⟩ → g < w.heap.size) (hl' : ∀ g, A' = some ⟨g, 0, none⟩ → g < w.heap.size) :
    Calls Try.prog 33 #[.agg #[.slice A n c], .agg #[.slice A' n c']] w fun e w' => e = .returned (.bool true) ∧ Below w.heap.size w w' := by
  have HN := Lib.hid hn
  have HA := Lib.hid ha
  have HB := Lib.hid hb
  have HL := Lib.hid hl
  have HL' := Lib.hid hl'
  clear hn ha hb hl hl'
  have B2 : ∀ o1 o2 : Obj, Below w.heap.size w ((w.alloc o1).alloc o2) := fun o1 o2 => bstep (below_alloc _ _) (below_alloc _ _)
  go_enter Try.func33, Try.ntmps33
  go_wp2_with fail
  refine (eqPtS_any A A' n c c' ps _ HN.out (HA.out.below HL.out (B2 _ _)) (HB.out.below HL'.out (B2 _ _)) (lt_below HL.out (B2 _ _)) (lt_below HL'.out (B2 _ _))).mono ?_
  rintro e w1 ⟨rfl, hb1⟩
  go_wp2
  go_ret
  exact ⟨rfl, bstep (B2 _ _) hb1⟩
end Go.Proofs.Ytjnfdcojccgfoaa
