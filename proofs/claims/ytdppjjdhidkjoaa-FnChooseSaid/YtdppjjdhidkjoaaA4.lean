/-
  Texts of this proof, put together.
-/
import Derived.Test.YtdppjjdhidkjoaaA3
import Derived.Deep.DeepCutAuto
import Derived.IntWalk
namespace Go.Proofs.Ytdppjjdhidkjoaa
set_option linter.unusedSimpArgs false
set_option linter.unusedVariables false
set_option linter.unnecessarySimpa false
open Go.RowKit
theorem profOk_at {ps : List Q} {k : Nat} (hk : k < ps.length) (h : ptOk ps k = false) : profOkB ps = false := by
  unfold profOkB
  have : (List.range ps.length).all (ptOk ps) = false := by
    rw [List.all_eq_false]
    exact ⟨k, List.mem_range.2 hk, by simp [h]⟩
  rw [this, Bool.and_false]
theorem profOk_all {ps : List Q} {n : Nat} {q : Q} (hn : ps.length = n) (h1 : 1 ≤ n) (h2 : n ≤ 200) (hq : ps[0]? = some q) (ht : q.t = 0) (h : ∀ j, j < n → ptOk ps j = true) : profOkB ps = true := by
  unfold profOkB
  have e : ps.head? = some q := by rw [List.head?_eq_getElem?]; exact hq
  have h3 : (List.range ps.length).all (ptOk ps) = true := by
    rw [List.all_eq_true]; intro j hj; exact h j (by have := List.mem_range.1 hj; omega)
  rw [h3, e]
  simp [ht]; omega
theorem profOk_len {ps : List Q} {n : Nat} (hn : ps.length = n) (h : ¬ (1 ≤ n ∧ n ≤ 200)) : profOkB ps = false := by
  unfold profOkB
  by_cases h1 : 1 ≤ n
  · have h2 : ¬ n ≤ 200 := fun h2 => h ⟨h1, h2⟩
    simp [hn, h2]
  · simp [hn, h1]
theorem profOk_head {ps : List Q} {q : Q} (hq : ps[0]? = some q) (ht : q.t ≠ 0) : profOkB ps = false := by
  unfold profOkB
  have e : ps.head? = some q := by rw [List.head?_eq_getElem?]; exact hq
  rw [e]; simp [ht]

end Go.Proofs.Ytdppjjdhidkjoaa

/- Contracts of the profile functions that make memory. -/
namespace Go.Proofs.Ytdppjjdhidkjoaa
set_option linter.unusedSimpArgs false
set_option linter.unusedVariables false
set_option linter.unnecessarySimpa false
open Go.RowKit
def newP (v : V) : List Q := if v.ok then [⟨0, v.A, v.B, v.C⟩] else []

end Go.Proofs.Ytdppjjdhidkjoaa

namespace Go.Proofs.Ytdppjjdhidkjoaa
set_option linter.unusedSimpArgs false
set_option linter.unusedVariables false
set_option linter.unnecessarySimpa false
open Go.RowKit
theorem foldl_step {α β : Type} (f : β → α → β) (b : β) {l : List α} {k : Nat} {x : α} (h : l[k]? = some x) : (l.take (k + 1)).foldl f b = f ((l.take k).foldl f b) x := by
  rw [List.take_add_one, h]; simp
theorem take_all {α : Type} {l : List α} {k : Nat} (h : l.length = k) : l.take k = l := List.take_of_length_le (by omega)

end Go.Proofs.Ytdppjjdhidkjoaa
