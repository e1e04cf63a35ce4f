/-
  No cell of these rows narrows 'for every input' (looked for: loops, veiled, ifaces, maps, wideKeys, modest, calm, conditions, laid).
  DERIVED. THE GIVEN ROWS OF THIS SEAT. 7 by the template 'for every input the law returns true; each argument reads behind the call as it read before'; 0 by the template 'total and deterministic' (their statements: YtpfcegjomdppmaaTotals.lean).
  GIVEN WITH THE SEED: the statements are not yours to turn. If you find one false, say at which input.
  Laid BY PROGRAM, IN A SANDBOX (cutbox-rows.mjs): the forced cells as the released guide's own fill.sh prints them over the translation 7bc6d35c3bf372ec… (all of the seat's roots in one cut). By AI agents, Wed Nov 11 2026. No macro, syntax, notation, axiom, sorry.
-/
import Derived.Test.YtpfcegjomdppmaaChecked
import GoSem.Claim
import GoSem.ClaimJoined
import GoSem.ClaimMapViews
import Derived.JoinedTies
import Derived.KernelRfl
namespace Go.Proofs.Ytpfcegjomdppmaa
/- THE CELL 'sum', in the pinned program and in every row, IS THE sha256 OF THE DUMP (.gsa) THAT YtpfcegjomdppmaaProg.lean LOADS. Nothing in Lean hashes anything: it is a label: what it is worth is what the hold of that sum in a sandbox is worth. -/
noncomputable def Try.pinned : Pinned := { name := "ytpfcegjomdppmaa", sum := "7bc6d35c3bf372eccbcd17376b92f05a4602127e905967161de586e4eac4faf1", checked := Try.checked }
namespace Rows
def none {H : Type} : Left H := { results := [], args := [] }

/-- 'laws.FnChoose': WHATEVER THE INPUT: true; the input reads as it did. -/
def fnChooseSpec : ChangeSpec := { name := "fnChoose", fn := fun _ => fun
  | [d] => { results := [.lit (.bool true)], args := [d] }
  | _ => none }
def fnChooseRow : OpenClaim := { program := "ytpfcegjomdppmaa", sum := "7bc6d35c3bf372eccbcd17376b92f05a4602127e905967161de586e4eac4faf1", func := "loop.example/g00454/laws.FnChoose", spec := "fnChoose", unfollowed := true, recurses := true, apart := false }
def FnChooseSaid : Prop := fnChooseRow.holds Try.pinned (OpenSpec.ofChange fnChooseSpec)

/-- ITS FALSE NEIGHBOUR: 'it returns false'. Refute it at one input. -/
def fnChooseWrong : ChangeSpec := { name := "fnChoose", fn := fun _ => fun
  | [d] => { results := [.lit (.bool false)], args := [d] }
  | _ => none }
def FnChooseWrongFalsely : Prop := fnChooseRow.holds Try.pinned (OpenSpec.ofChange fnChooseWrong)

/-- 'laws.FnExactEligible': WHATEVER THE INPUT: true; the input reads as it did. -/
def fnExactEligibleSpec : ChangeSpec := { name := "fnExactEligible", fn := fun _ => fun
  | [d1, d2, d3, d4] => { results := [.lit (.bool true)], args := [d1, d2, d3, d4] }
  | _ => none }
def fnExactEligibleRow : OpenClaim := { program := "ytpfcegjomdppmaa", sum := "7bc6d35c3bf372eccbcd17376b92f05a4602127e905967161de586e4eac4faf1", func := "loop.example/g00454/laws.FnExactEligible", spec := "fnExactEligible", recurses := true, apart := false }
def FnExactEligibleSaid : Prop := fnExactEligibleRow.holds Try.pinned (OpenSpec.ofChange fnExactEligibleSpec)

/-- ITS FALSE NEIGHBOUR: 'it returns false'. Refute it at one input. -/
def fnExactEligibleWrong : ChangeSpec := { name := "fnExactEligible", fn := fun _ => fun
  | [d1, d2, d3, d4] => { results := [.lit (.bool false)], args := [d1, d2, d3, d4] }
  | _ => none }
def FnExactEligibleWrongFalsely : Prop := fnExactEligibleRow.holds Try.pinned (OpenSpec.ofChange fnExactEligibleWrong)

/-- 'laws.FnExactOrder': WHATEVER THE INPUT: true; the input reads as it did. -/
def fnExactOrderSpec : ChangeSpec := { name := "fnExactOrder", fn := fun _ => fun
  | [d] => { results := [.lit (.bool true)], args := [d] }
  | _ => none }
def fnExactOrderRow : OpenClaim := { program := "ytpfcegjomdppmaa", sum := "7bc6d35c3bf372eccbcd17376b92f05a4602127e905967161de586e4eac4faf1", func := "loop.example/g00454/laws.FnExactOrder", spec := "fnExactOrder", unfollowed := true, recurses := true, apart := false }
def FnExactOrderSaid : Prop := fnExactOrderRow.holds Try.pinned (OpenSpec.ofChange fnExactOrderSpec)

/-- ITS FALSE NEIGHBOUR: 'it returns false'. Refute it at one input. -/
def fnExactOrderWrong : ChangeSpec := { name := "fnExactOrder", fn := fun _ => fun
  | [d] => { results := [.lit (.bool false)], args := [d] }
  | _ => none }
def FnExactOrderWrongFalsely : Prop := fnExactOrderRow.holds Try.pinned (OpenSpec.ofChange fnExactOrderWrong)

/-- 'laws.FnExactProfGive': WHATEVER THE INPUT: true; the input reads as it did. -/
def fnExactProfGiveSpec : ChangeSpec := { name := "fnExactProfGive", fn := fun _ => fun
  | [d1, d2, d3, d4] => { results := [.lit (.bool true)], args := [d1, d2, d3, d4] }
  | _ => none }
def fnExactProfGiveRow : OpenClaim := { program := "ytpfcegjomdppmaa", sum := "7bc6d35c3bf372eccbcd17376b92f05a4602127e905967161de586e4eac4faf1", func := "loop.example/g00454/laws.FnExactProfGive", spec := "fnExactProfGive", unfollowed := true, recurses := true, apart := false }
def FnExactProfGiveSaid : Prop := fnExactProfGiveRow.holds Try.pinned (OpenSpec.ofChange fnExactProfGiveSpec)

/-- ITS FALSE NEIGHBOUR: 'it returns false'. Refute it at one input. -/
def fnExactProfGiveWrong : ChangeSpec := { name := "fnExactProfGive", fn := fun _ => fun
  | [d1, d2, d3, d4] => { results := [.lit (.bool false)], args := [d1, d2, d3, d4] }
  | _ => none }
def FnExactProfGiveWrongFalsely : Prop := fnExactProfGiveRow.holds Try.pinned (OpenSpec.ofChange fnExactProfGiveWrong)

/-- 'laws.FnExactProfTake': WHATEVER THE INPUT: true; the input reads as it did. -/
def fnExactProfTakeSpec : ChangeSpec := { name := "fnExactProfTake", fn := fun _ => fun
  | [d1, d2, d3, d4] => { results := [.lit (.bool true)], args := [d1, d2, d3, d4] }
  | _ => none }
def fnExactProfTakeRow : OpenClaim := { program := "ytpfcegjomdppmaa", sum := "7bc6d35c3bf372eccbcd17376b92f05a4602127e905967161de586e4eac4faf1", func := "loop.example/g00454/laws.FnExactProfTake", spec := "fnExactProfTake", unfollowed := true, recurses := true, apart := false }
def FnExactProfTakeSaid : Prop := fnExactProfTakeRow.holds Try.pinned (OpenSpec.ofChange fnExactProfTakeSpec)

/-- ITS FALSE NEIGHBOUR: 'it returns false'. Refute it at one input. -/
def fnExactProfTakeWrong : ChangeSpec := { name := "fnExactProfTake", fn := fun _ => fun
  | [d1, d2, d3, d4] => { results := [.lit (.bool false)], args := [d1, d2, d3, d4] }
  | _ => none }
def FnExactProfTakeWrongFalsely : Prop := fnExactProfTakeRow.holds Try.pinned (OpenSpec.ofChange fnExactProfTakeWrong)

/-- 'laws.FnProf': WHATEVER THE INPUT: true; the input reads as it did. -/
def fnProfSpec : ChangeSpec := { name := "fnProf", fn := fun _ => fun
  | [d] => { results := [.lit (.bool true)], args := [d] }
  | _ => none }
def fnProfRow : OpenClaim := { program := "ytpfcegjomdppmaa", sum := "7bc6d35c3bf372eccbcd17376b92f05a4602127e905967161de586e4eac4faf1", func := "loop.example/g00454/laws.FnProf", spec := "fnProf", unfollowed := true, recurses := true, apart := false }
def FnProfSaid : Prop := fnProfRow.holds Try.pinned (OpenSpec.ofChange fnProfSpec)

/-- ITS FALSE NEIGHBOUR: 'it returns false'. Refute it at one input. -/
def fnProfWrong : ChangeSpec := { name := "fnProf", fn := fun _ => fun
  | [d] => { results := [.lit (.bool false)], args := [d] }
  | _ => none }
def FnProfWrongFalsely : Prop := fnProfRow.holds Try.pinned (OpenSpec.ofChange fnProfWrong)

/-- 'laws.FnExactChoose': WHATEVER THE INPUT: true; the input reads as it did. -/
def fnExactChooseSpec : ChangeSpec := { name := "fnExactChoose", fn := fun _ => fun
  | [d1, d2, d3, d4] => { results := [.lit (.bool true)], args := [d1, d2, d3, d4] }
  | _ => none }
def fnExactChooseRow : OpenClaim := { program := "ytpfcegjomdppmaa", sum := "7bc6d35c3bf372eccbcd17376b92f05a4602127e905967161de586e4eac4faf1", func := "loop.example/g00454/laws.FnExactChoose", spec := "fnExactChoose", unfollowed := true, recurses := true, apart := false }
def FnExactChooseSaid : Prop := fnExactChooseRow.holds Try.pinned (OpenSpec.ofChange fnExactChooseSpec)

/-- ITS FALSE NEIGHBOUR: 'it returns false'. Refute it at one input. -/
def fnExactChooseWrong : ChangeSpec := { name := "fnExactChoose", fn := fun _ => fun
  | [d1, d2, d3, d4] => { results := [.lit (.bool false)], args := [d1, d2, d3, d4] }
  | _ => none }
def FnExactChooseWrongFalsely : Prop := fnExactChooseRow.holds Try.pinned (OpenSpec.ofChange fnExactChooseWrong)

/- THE SECOND FORM. 'bulk': how many values and letters a reading holds, each counted each time it is reached (what is shared counts as often as it is met; a slice's spare places count too). A statement '..UptoSaid' is the law's where the arguments, and the package variables that the reading takes, are together of bulk at most 1048576: NARROWER than '..Said'. Prove '..Said' where nothing that the law and all that it calls make is longer than what came in: it says more and counts as full. Else prove '..UptoSaid'. A law counts once. -/
mutual
def uptoBulk {H : Type} : DataW H → Nat
  | .lit (.string bytes) => bytes.length + 1
  | .lit _ => 1
  | .nil => 1
  | .ptr d => uptoBulk d + 1
  | .slice elems spare => uptoBulkAll elems + uptoBulkAll spare + 1
  | .agg parts => uptoBulkAll parts + 1
  | .iface _ d => uptoBulk d + 1
  | .map entries => uptoBulkEntries entries + 1
  | .held _ => 1
def uptoBulkAll {H : Type} : List (DataW H) → Nat
  | [] => 0
  | d :: r => uptoBulk d + uptoBulkAll r
def uptoBulkEntries {H : Type} : List (Lit × DataW H) → Nat
  | [] => 0
  | x :: r => uptoBulkEntry x + uptoBulkEntries r
def uptoBulkEntry {H : Type} : Lit × DataW H → Nat
  | (.string bytes, d) => bytes.length + uptoBulk d + 1
  | (_, d) => uptoBulk d + 1
 end
def uptoSmall : (H : Type) → List (DataW H) → Bool := fun _ ds => decide (uptoBulkAll ds ≤ 1048576)
def OpenSpec.upto (s : _root_.Go.ChangeSpec) : _root_.Go.OpenSpec := { _root_.Go.OpenSpec.ofChange s with cond := some uptoSmall }

/-- 'laws.FnChoose', WHERE WHAT IT READS IS OF BULK AT MOST 1048576: true; the input reads as it did. -/
def fnChooseUptoRow : OpenClaim := { program := "ytpfcegjomdppmaa", sum := "7bc6d35c3bf372eccbcd17376b92f05a4602127e905967161de586e4eac4faf1", func := "loop.example/g00454/laws.FnChoose", spec := "fnChoose", unfollowed := true, recurses := true, apart := false, narrowed := true }
def FnChooseUptoSaid : Prop := fnChooseUptoRow.holds Try.pinned (OpenSpec.upto fnChooseSpec)

/-- 'laws.FnExactEligible', WHERE WHAT IT READS IS OF BULK AT MOST 1048576: true; the input reads as it did. -/
def fnExactEligibleUptoRow : OpenClaim := { program := "ytpfcegjomdppmaa", sum := "7bc6d35c3bf372eccbcd17376b92f05a4602127e905967161de586e4eac4faf1", func := "loop.example/g00454/laws.FnExactEligible", spec := "fnExactEligible", recurses := true, apart := false, narrowed := true }
def FnExactEligibleUptoSaid : Prop := fnExactEligibleUptoRow.holds Try.pinned (OpenSpec.upto fnExactEligibleSpec)

/-- 'laws.FnExactOrder', WHERE WHAT IT READS IS OF BULK AT MOST 1048576: true; the input reads as it did. -/
def fnExactOrderUptoRow : OpenClaim := { program := "ytpfcegjomdppmaa", sum := "7bc6d35c3bf372eccbcd17376b92f05a4602127e905967161de586e4eac4faf1", func := "loop.example/g00454/laws.FnExactOrder", spec := "fnExactOrder", unfollowed := true, recurses := true, apart := false, narrowed := true }
def FnExactOrderUptoSaid : Prop := fnExactOrderUptoRow.holds Try.pinned (OpenSpec.upto fnExactOrderSpec)

/-- 'laws.FnExactProfGive', WHERE WHAT IT READS IS OF BULK AT MOST 1048576: true; the input reads as it did. -/
def fnExactProfGiveUptoRow : OpenClaim := { program := "ytpfcegjomdppmaa", sum := "7bc6d35c3bf372eccbcd17376b92f05a4602127e905967161de586e4eac4faf1", func := "loop.example/g00454/laws.FnExactProfGive", spec := "fnExactProfGive", unfollowed := true, recurses := true, apart := false, narrowed := true }
def FnExactProfGiveUptoSaid : Prop := fnExactProfGiveUptoRow.holds Try.pinned (OpenSpec.upto fnExactProfGiveSpec)

/-- 'laws.FnExactProfTake', WHERE WHAT IT READS IS OF BULK AT MOST 1048576: true; the input reads as it did. -/
def fnExactProfTakeUptoRow : OpenClaim := { program := "ytpfcegjomdppmaa", sum := "7bc6d35c3bf372eccbcd17376b92f05a4602127e905967161de586e4eac4faf1", func := "loop.example/g00454/laws.FnExactProfTake", spec := "fnExactProfTake", unfollowed := true, recurses := true, apart := false, narrowed := true }
def FnExactProfTakeUptoSaid : Prop := fnExactProfTakeUptoRow.holds Try.pinned (OpenSpec.upto fnExactProfTakeSpec)

/-- 'laws.FnProf', WHERE WHAT IT READS IS OF BULK AT MOST 1048576: true; the input reads as it did. -/
def fnProfUptoRow : OpenClaim := { program := "ytpfcegjomdppmaa", sum := "7bc6d35c3bf372eccbcd17376b92f05a4602127e905967161de586e4eac4faf1", func := "loop.example/g00454/laws.FnProf", spec := "fnProf", unfollowed := true, recurses := true, apart := false, narrowed := true }
def FnProfUptoSaid : Prop := fnProfUptoRow.holds Try.pinned (OpenSpec.upto fnProfSpec)

/-- 'laws.FnExactChoose', WHERE WHAT IT READS IS OF BULK AT MOST 1048576: true; the input reads as it did. -/
def fnExactChooseUptoRow : OpenClaim := { program := "ytpfcegjomdppmaa", sum := "7bc6d35c3bf372eccbcd17376b92f05a4602127e905967161de586e4eac4faf1", func := "loop.example/g00454/laws.FnExactChoose", spec := "fnExactChoose", unfollowed := true, recurses := true, apart := false, narrowed := true }
def FnExactChooseUptoSaid : Prop := fnExactChooseUptoRow.holds Try.pinned (OpenSpec.upto fnExactChooseSpec)

end Rows
end Go.Proofs.Ytpfcegjomdppmaa
