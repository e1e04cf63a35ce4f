import Derived.Test.YtnphjhbfpoekpaaGreatA7Pl
import Derived.Test.YtnphjhbfpoekpaaGreatA8Pl
import Derived.Test.YtnphjhbfpoekpaaGreatA16Pl
import Derived.Sort.OwnSortedInts
import Derived.Lib.SlicesCompact
import Derived.Lib.OwnBridge
import Derived.Shelf.SortM.SortNone
import Derived.Shelf.SlicesE.Compact
namespace Go.Proofs.YtnphjhbfpoekpaaGreat
set_option linter.unusedSimpArgs false
set_option linter.unusedVariables false
set_option linter.unnecessarySimpa false
open Go.RowKit Go.Sort Go.Lib Go.Shelf
theorem cupto_mem (d : Array Int) (m : Nat) : ∀ x, x ∈ compactUpTo d m ↔ ∃ j, j < m ∧ d[j]! = x := by
 induction m with
 | zero => intro x; simp [compactUpTo]
 | succ m ih =>
  intro x
  rw [compactUpTo_succ, List.mem_append, ih]
  constructor
  ·rintro (⟨j, h1, h2⟩ | h)
   ·exact ⟨j, by omega, h2⟩
   ·by_cases hk : keeps d m = true
    ·rw [if_pos hk] at h; simp at h; exact ⟨m, by omega, h.symm⟩
    ·rw [if_neg hk] at h; cases h
  ·rintro ⟨j, h1, h2⟩
   by_cases hj : j < m
   ·exact Or.inl ⟨j, hj, h2⟩
   ·have : j = m := by omega
    subst this
    by_cases hk : keeps d j = true
    ·rw [if_pos hk]; exact Or.inr (by simp [h2])
    ·left
     have h3 : ¬ (j = 0 ∨ d[j]! ≠ d[j - 1]!) := by simpa [keeps] using hk
     have h4 : j ≠ 0 := fun e => h3 (Or.inl e)
     have h5 : d[j]! = d[j - 1]! := by
      by_cases e : d[j]! = d[j - 1]!
      ·exact e
      ·exact absurd (Or.inr e) h3
     exact ⟨j - 1, by omega, by rw [← h5, h2]⟩
theorem cupto_rise (d : Array Int) (hs : ∀ i j, i ≤ j → j < d.size → d[i]! ≤ d[j]!) (m : Nat) (hm : m ≤ d.size) : (compactUpTo d m).Pairwise (· < ·) := by
 induction m with
 | zero => simp [compactUpTo]
 | succ m ih =>
  rw [compactUpTo_succ]
  by_cases hk : keeps d m = true
  ·rw [if_pos hk, List.pairwise_append]
   refine ⟨ih (by omega), by simp, fun a ha b hb => ?_⟩
   simp at hb; subst hb
   obtain ⟨j, h1, h2⟩ := (cupto_mem d m a).1 ha
   have h3 : m = 0 ∨ d[m]! ≠ d[m - 1]! := by simpa [keeps] using hk
   rcases h3 with h3 | h3
   ·omega
   ·have h4 := hs j (m - 1) (by omega) (by omega)
    have h5 := hs (m - 1) m (by omega) (by omega)
    omega
  ·rw [if_neg hk, List.append_nil]; exact ih (by omega)
theorem compact_times {ps : List Q} (hn : Norm ps) {lo hi : Int} {l : List Int} (hm : ∀ x, x ∈ l ↔ x = hi ∨ x = lo ∨ ∃ q ∈ ps, q.t = x) :
  compactUpTo (l.mergeSort fun x y => decide (x ≤ y)).toArray (l.mergeSort fun x y => decide (x ≤ y)).toArray.size = timesL ps lo hi := by
 obtain ⟨s, hs⟩ : ∃ s, s = l.mergeSort fun x y => decide (x ≤ y) := ⟨_, rfl⟩
 have hp : s.Pairwise fun x y => x ≤ y := by
  have := List.pairwise_mergeSort (le := fun (x y : Int) => decide (x ≤ y)) (by intro a b c h1 h2; simp at *; omega) (by intro a b; simp; omega) l
  rw [hs]; exact this.imp (by intro a b h; simpa using h)
 have hmem : ∀ x, x ∈ s ↔ x ∈ l := by intro x; rw [hs]; exact List.mem_mergeSort
 rw [← hs]
 refine timesL_uniq hn (cupto_rise _ ?_ _ (Nat.le_refl _)) fun x => ?_
 ·intro i j hij hj
  have hj' : j < s.length := by simpa using hj
  rw [getElem!_pos s.toArray i (by simp; omega), getElem!_pos s.toArray j (by simpa using hj')]
  simp only [zgc]
  by_cases e : i = j
  ·subst e; exact Int.le_refl _
  ·exact List.pairwise_iff_getElem.1 hp i j (by omega) hj' (by omega)
 ·rw [← hm, ← hmem, cupto_mem]
  constructor
  ·rintro ⟨j, h1, rfl⟩
   have h1' : j < s.length := by simpa using h1
   rw [getElem!_pos s.toArray j h1]
   simp
  ·intro hx
   obtain ⟨j, h1, rfl⟩ := List.getElem_of_mem hx
   exact ⟨j, by simpa using h1, by rw [getElem!_pos s.toArray j (by simpa using h1)]; simp⟩
theorem own_cut {w : World} {lo : Nat} {e : TypeId} {size : Nat} {A : Option Addr} {n c k : Nat} {xs : List Value} (h : w.ownsRow lo e size (.slice A n c) n xs) (hA : A ≠ none) (hk : k ≤ n) : w.ownsRow lo e size (.slice A k c) k (xs.take (k * size)) := by
 rcases h.2 with ⟨h0, _⟩ | ⟨g, cap, cur, hv, hg, hh, hn, hm, hs, ht⟩
 ·cases h0; exact absurd rfl hA
 ·cases hv
  have hle : k * size ≤ n * size := Nat.mul_le_mul_right _ hk
  refine ⟨by rw [List.length_take, h.1]; omega, Or.inr ⟨g, _, cur, rfl, hg, hh, by omega, hm, hs, ?_⟩⟩
  rw [← ht, List.take_take]
  congr 1; omega
theorem own_sorted {w w' : World} {lo g cap n q : Nat} {zs : List Int} {os : Array Obj} (h : w.ownsRow lo 3 1 (.slice (some ⟨g, 0, none⟩) n cap) n (ints zs))
  (hw : w' = grow (putRow (Value.int .i64) (Sort.ahead w q) g 0 (zs.mergeSort fun x y => decide (x ≤ y)).toArray) os) :
  w'.ownsRow lo 3 1 (.slice (some ⟨g, 0, none⟩) n cap) n (ints (zs.mergeSort fun x y => decide (x ≤ y))) ∧ w.grownBy w' (some g) := by
 have hl : zs.length = n := by have := h.1; simpa [ints] using this
 subst hw
 refine ⟨?_, grownBy_sortedI _⟩
 rcases h.2 with ⟨h0, _⟩ | ⟨g', cap', cur, hv, hg, hh, hn, hm, hs, ht⟩
 ·cases h0
 ·cases hv
  have := ownsRow_sortedI (w := w) (base := lo) (g := g) (cap := cap) (n := q) (e := 3) (os := os) (cur := cur) (ss := zs) (ts := zs.mergeSort fun x y => decide (x ≤ y)) (List.length_mergeSort _) hg hh (by omega) hm hs
  rw [hl] at this
  exact this
theorem own_compact {w w' : World} {lo g cap n q : Nat} {zs : List Int} (h : w.ownsRow lo 3 1 (.slice (some ⟨g, 0, none⟩) n cap) n (ints zs)) {C : List Int} (hC : C.length ≤ n)
  (hw : w' = putRow (Value.int .i64) (Sort.ahead w q) g 0 (C ++ List.replicate (n - C.length) 0).toArray) :
  w'.ownsRow lo 3 1 (.slice (some ⟨g, 0, none⟩) C.length cap) C.length (ints C) ∧ w.grownBy w' (some g) := by
 have hl : zs.length = n := by have := h.1; simpa [ints] using this
 have hw2 : w' = grow (putRow (Value.int .i64) (Sort.ahead w q) g 0 (C ++ List.replicate (n - C.length) 0).toArray) #[] := by rw [hw, grow_empty]
 clear hw
 subst hw2
 refine ⟨?_, grownBy_sortedI _⟩
 rcases h.2 with ⟨h0, _⟩ | ⟨g', cap', cur, hv, hg, hh, hn, hm, hs, ht⟩
 ·cases h0
 ·cases hv
  have := ownsRow_sortedI (w := w) (base := lo) (g := g) (cap := cap) (n := q) (e := 3) (os := #[]) (cur := cur) (ss := zs) (ts := C ++ List.replicate (n - C.length) 0) (by simp; omega) hg hh (by omega) hm hs
  rw [hl] at this
  have h2 := own_cut this (by simp) hC
  have e : ((C ++ List.replicate (n - C.length) 0).map (Value.int .i64)).take (C.length * 1) = ints C := by
   rw [Nat.mul_one, List.map_append, List.take_append_of_le_length (by simp), List.take_of_length_le (by simp)]; rfl
  rw [e] at h2
  exact h2
theorem holds_own {w : World} {lo g cap n : Nat} {zs : List Int} (h : w.ownsRow lo 3 1 (.slice (some ⟨g, 0, none⟩) n cap) n (ints zs)) : Holds (Value.int .i64) w g 0 zs.toArray := by
 have hl : zs.length = n := by have := h.1; simpa [ints] using this
 rcases h.2 with ⟨h0, _⟩ | ⟨g', cap', cur, hv, hg, hh, hn, hm, hs, ht⟩
 ·cases h0
 ·cases hv
  exact holds_of_blockI hh (by rw [hl]; simpa [ints] using ht)
def sortZ (zs : List Int) : List Int := zs.mergeSort fun x y => decide (x ≤ y)
def compZ (zs : List Int) : List Int := compactUpTo zs.toArray zs.toArray.size
theorem compZ_len (zs : List Int) : (compZ zs).length ≤ zs.length := by
 unfold compZ
 have : ∀ (d : Array Int) (m : Nat), (compactUpTo d m).length ≤ m := by
  intro d m
  induction m with
  | zero => simp [compactUpTo]
  | succ m ih =>
   rw [compactUpTo_succ, List.length_append]
   have : (if keeps d m = true then [d[m]!] else []).length ≤ 1 := by split <;> simp
   omega
 have h := this zs.toArray zs.toArray.size
 simpa using h
theorem sort_own {w : World} {lo g cap n : Nat} {zs : List Int} (h : w.ownsRow lo 3 1 (.slice (some ⟨g, 0, none⟩) n cap) n (ints zs)) (hn : n ≤ 1048580) :
  Calls Tryz.prog 138 #[.slice (some ⟨g, 0, none⟩) n cap] w fun e w' => e = .returned (.tuple #[]) ∧ w'.ownsRow lo 3 1 (.slice (some ⟨g, 0, none⟩) n cap) n (ints (sortZ zs)) ∧ w.grownBy w' (some g) := by
 have hl : zs.length = n := by have := h.1; simpa [ints] using this
 have hc := AnyM.slices_Sort_int Tryz.sortI g 0 cap zs w (holds_own h) (own_blk h g rfl) (by omega)
 change Calls Tryz.prog 138 _ _ _ at hc
 rw [hl] at hc
 refine hc.mono ?_
 rintro e w' ⟨rfl, q, os, hw⟩
 exact ⟨rfl, own_sorted h hw⟩
theorem compact_own {w : World} {lo g cap n : Nat} {zs : List Int} (h : w.ownsRow lo 3 1 (.slice (some ⟨g, 0, none⟩) n cap) n (ints zs)) (hn : n ≤ 1048580) :
  Calls Tryz.prog 139 #[.slice (some ⟨g, 0, none⟩) n cap] w fun e w' => e = .returned (.slice (some ⟨g, 0, none⟩) (compZ zs).length cap) ∧ w'.ownsRow lo 3 1 (.slice (some ⟨g, 0, none⟩) (compZ zs).length cap) (compZ zs).length (ints (compZ zs)) ∧ w.grownBy w' (some g) := by
 have hl : zs.length = n := by have := h.1; simpa [ints] using this
 have hcap : n ≤ cap := by
  rcases h.2 with ⟨h0, _⟩ | ⟨g', cap', cur, hv, hg, hh, hn', hm, hs, ht⟩
  ·cases h0
  ·cases hv; exact hn'
 have hd : zs.toArray.size = n := by simpa using hl
 have hc := AnyE.slices_Compact Tryz.compactI (Value.int .i64) (fun _ => rfl) (EqlAt.intD _ _ _) (NeqAt.intD _ _ _) (0 : Int) Tryz.zeroValue3 g 0 cap zs.toArray w (holds_own h) (by omega) (by omega)
 change Calls Tryz.prog 139 _ _ _ at hc
 rw [hd] at hc
 refine hc.mono ?_
 rintro e w' ⟨rfl, q, hw⟩
 have e1 : compactUpTo zs.toArray n = compZ zs := by unfold compZ; rw [hd]
 rw [e1] at hw ⊢
 exact ⟨rfl, own_compact h (by have := compZ_len zs; omega) hw⟩
end Go.Proofs.YtnphjhbfpoekpaaGreat
