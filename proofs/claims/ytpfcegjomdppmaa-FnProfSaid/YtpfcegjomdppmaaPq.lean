/-
  Sorting and compacting a row of integers of the call's own.
-/
import Derived.Test.YtpfcegjomdppmaaPs
import Derived.Test.YtpfcegjomdppmaaSh
namespace Go.Proofs.Ytpfcegjomdppmaa
set_option linter.unusedSimpArgs false
set_option linter.unusedVariables false
set_option linter.unnecessarySimpa false
open Go.RowKit Go.Sort Go.Lib Go.Shelf
def sortZ (zs : List Int) : List Int := zs.mergeSort fun x y => decide (x ≤ y)
theorem sortZ_len (zs : List Int) : (sortZ zs).length = zs.length := List.length_mergeSort _
def compZ (zs : List Int) : List Int := compactUpTo zs.toArray zs.toArray.size
theorem compZ_len (zs : List Int) : (compZ zs).length ≤ zs.length := by
  unfold compZ
  have : ∀ (d : Array Int) (m : Nat), (compactUpTo d m).length ≤ m := by
    intro d m
    induction m with
    | zero => simp [compactUpTo]
    | succ m ih =>
      rw [compactUpTo_succ, List.length_append]
      have : (if keeps d m = true then [d[m]!] else []).length ≤ 1 := by split <;> simp
      omega
  have h := this zs.toArray zs.toArray.size
  simpa using h
theorem sort_own {w : World} {lo g cap n : Nat} {zs : List Int} (h : w.ownsRow lo 3 1 (.slice (some ⟨g, 0, none⟩) n cap) n (ints zs)) (hn : n ≤ 1048580) :
    Calls Try.prog 121 #[.slice (some ⟨g, 0, none⟩) n cap] w fun e w' => e = .returned (.tuple #[]) ∧ w'.ownsRow lo 3 1 (.slice (some ⟨g, 0, none⟩) n cap) n (ints (sortZ zs)) ∧ w.grownBy w' (some g) := by
  have hl : zs.length = n := by have := h.1; simpa [ints] using this
  have hc := AnyM.slices_Sort_int Try.sortI g 0 cap zs w (holds_own h) (own_blk h g rfl) (by omega)
  change Calls Try.prog 121 _ _ _ at hc
  rw [hl] at hc
  refine hc.mono ?_
  rintro e w' ⟨rfl, q, os, hw⟩
  exact ⟨rfl, own_sorted h hw⟩
theorem compact_own {w : World} {lo g cap n : Nat} {zs : List Int} (h : w.ownsRow lo 3 1 (.slice (some ⟨g, 0, none⟩) n cap) n (ints zs)) (hn : n ≤ 1048580) :
    Calls Try.prog 147 #[.slice (some ⟨g, 0, none⟩) n cap] w fun e w' => e = .returned (.slice (some ⟨g, 0, none⟩) (compZ zs).length cap) ∧ w'.ownsRow lo 3 1 (.slice (some ⟨g, 0, none⟩) (compZ zs).length cap) (compZ zs).length (ints (compZ zs)) ∧ w.grownBy w' (some g) := by
  have hl : zs.length = n := by have := h.1; simpa [ints] using this
  have hcap : n ≤ cap := by
    rcases h.2 with ⟨h0, _⟩ | ⟨g', cap', cur, hv, hg, hh, hn', hm, hs, ht⟩
    · cases h0
    · cases hv; exact hn'
  have hd : zs.toArray.size = n := by simpa using hl
  have hc := AnyE.slices_Compact Try.compactI (Value.int .i64) (fun _ => rfl) (EqlAt.intD _ _ _) (NeqAt.intD _ _ _) (0 : Int) Try.zeroValue3 g 0 cap zs.toArray w (holds_own h) (by omega) (by omega)
  change Calls Try.prog 147 _ _ _ at hc
  rw [hd] at hc
  refine hc.mono ?_
  rintro e w' ⟨rfl, q, hw⟩
  have e1 : compactUpTo zs.toArray n = compZ zs := by unfold compZ; rw [hd]
  rw [e1] at hw ⊢
  exact ⟨rfl, own_compact h (by have := compZ_len zs; omega) hw⟩
end Go.Proofs.Ytpfcegjomdppmaa
