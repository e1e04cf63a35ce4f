/-
  Texts of this proof, put together.
-/
import Derived.Test.YtdppjjdhidkjoaaA4
import Derived.Test.YtdppjjdhidkjoaaA16
import Derived.Test.YtdppjjdhidkjoaaA7
import Derived.Test.YtdppjjdhidkjoaaA5
/- Contracts of ProfMin. -/
namespace Go.Proofs.Ytdppjjdhidkjoaa
set_option linter.unusedSimpArgs false
set_option linter.unusedVariables false
set_option linter.unnecessarySimpa false
open Go.RowKit

end Go.Proofs.Ytdppjjdhidkjoaa

/- Contracts of ProfMin. -/
namespace Go.Proofs.Ytdppjjdhidkjoaa
set_option linter.unusedSimpArgs false
set_option linter.unusedVariables false
set_option linter.unnecessarySimpa false
open Go.RowKit
def minB (ps : List Q) (lo hi : Int) : Bool := profOkB ps && spanB lo hi
def minVv (ps : List Q) (lo hi : Int) : V := if minB ps lo hi then leastV lo hi ps else V.zero

end Go.Proofs.Ytdppjjdhidkjoaa

/- Contracts of ProfCut. -/
namespace Go.Proofs.Ytdppjjdhidkjoaa
set_option linter.unusedSimpArgs false
set_option linter.unusedVariables false
set_option linter.unnecessarySimpa false
open Go.RowKit
def cutN (t : Int) (ps : List Q) (k : Nat) : List Q := mkQ 0 (freeV t ps) :: (ps.take k).filter fun q => decide (t < q.t)
theorem cutN_yes {t : Int} {ps : List Q} {k : Nat} {q : Q} (h : ps[k]? = some q) (hq : t < q.t) : cutN t ps (k + 1) = cutN t ps k ++ [q] := by
  unfold cutN; rw [take_snoc' h, List.filter_append]; simp [hq]
theorem cutN_no {t : Int} {ps : List Q} {k : Nat} {q : Q} (h : ps[k]? = some q) (hq : ¬ t < q.t) : cutN t ps (k + 1) = cutN t ps k := by
  unfold cutN; rw [take_snoc' h, List.filter_append]; simp [hq]
theorem cutN_len (t : Int) (ps : List Q) (k : Nat) : (cutN t ps k).length ≤ k + 1 := by
  unfold cutN
  have := List.length_filter_le (fun q : Q => decide (t < q.t)) (ps.take k)
  simp at this ⊢; omega
def CutV (t : Int) (ps : List Q) : List Q := if profOkB ps && timeB t then cutV t ps else []

end Go.Proofs.Ytdppjjdhidkjoaa
