/-
  No cell of these rows narrows 'for every input' (looked for: loops, veiled, ifaces, maps, wideKeys, modest, calm, conditions, laid).
  DERIVED. THE GIVEN ROWS OF THIS SEAT. 13 by the template 'for every input the law returns true; each argument reads behind the call as it read before'; 0 by the template 'total and deterministic' (their statements: YtdppjjdhidkjoaaGreatTotals.lean).
  GIVEN WITH THE SEED: the statements are not yours to turn. If you find one false, say at which input.
  Laid BY PROGRAM, IN A SANDBOX (cutbox-rows.mjs): the forced cells as the released guide's own fill.sh prints them over the translation c75698a025a9824f… (all of the seat's roots in one cut). By AI agents, Wed Nov 11 2026. No macro, syntax, notation, axiom, sorry.
-/
import Derived.Test.YtdppjjdhidkjoaaGreatChecked
import GoSem.Claim
import GoSem.ClaimJoined
import GoSem.ClaimMapViews
import Derived.JoinedTies
import Derived.KernelRfl
namespace Go.Proofs.YtdppjjdhidkjoaaGreat
/- THE CELL 'sum', in the pinned program and in every row, IS THE sha256 OF THE DUMP (.gsa) THAT YtdppjjdhidkjoaaGreatProg.lean LOADS. Nothing in Lean hashes anything: it is a label: what it is worth is what the hold of that sum in a sandbox is worth. -/
noncomputable def Tryz.pinned : Pinned := { name := "ytdppjjdhidkjoaagreat", sum := "c75698a025a9824f39590061791c5991af315a4cf830d5d8a154a04bce4856a5", checked := Tryz.checked }
namespace Rows
def none {H : Type} : Left H := { results := [], args := [] }

/-- 'laws.FnEarliest': WHATEVER THE INPUT: true; the input reads as it did. -/
def fnEarliestSpec : ChangeSpec := { name := "fnEarliest", fn := fun _ => fun
  | [d] => { results := [.lit (.bool true)], args := [d] }
  | _ => none }
def fnEarliestRow : OpenClaim := { program := "ytdppjjdhidkjoaagreat", sum := "c75698a025a9824f39590061791c5991af315a4cf830d5d8a154a04bce4856a5", func := "loop.example/g00454/laws.FnEarliest", spec := "fnEarliest", unfollowed := true, recurses := true, apart := false }
def FnEarliestSaid : Prop := fnEarliestRow.holds Tryz.pinned (OpenSpec.ofChange fnEarliestSpec)

/-- ITS FALSE NEIGHBOUR: 'it returns false'. Refute it at one input. -/
def fnEarliestWrong : ChangeSpec := { name := "fnEarliest", fn := fun _ => fun
  | [d] => { results := [.lit (.bool false)], args := [d] }
  | _ => none }
def FnEarliestWrongFalsely : Prop := fnEarliestRow.holds Tryz.pinned (OpenSpec.ofChange fnEarliestWrong)

/-- 'laws.FnPlan': WHATEVER THE INPUT: true; the input reads as it did. -/
def fnPlanSpec : ChangeSpec := { name := "fnPlan", fn := fun _ => fun
  | [d] => { results := [.lit (.bool true)], args := [d] }
  | _ => none }
def fnPlanRow : OpenClaim := { program := "ytdppjjdhidkjoaagreat", sum := "c75698a025a9824f39590061791c5991af315a4cf830d5d8a154a04bce4856a5", func := "loop.example/g00454/laws.FnPlan", spec := "fnPlan", unfollowed := true, recurses := true, apart := false }
def FnPlanSaid : Prop := fnPlanRow.holds Tryz.pinned (OpenSpec.ofChange fnPlanSpec)

/-- ITS FALSE NEIGHBOUR: 'it returns false'. Refute it at one input. -/
def fnPlanWrong : ChangeSpec := { name := "fnPlan", fn := fun _ => fun
  | [d] => { results := [.lit (.bool false)], args := [d] }
  | _ => none }
def FnPlanWrongFalsely : Prop := fnPlanRow.holds Tryz.pinned (OpenSpec.ofChange fnPlanWrong)

/-- 'laws.FnReserve': WHATEVER THE INPUT: true; the input reads as it did. -/
def fnReserveSpec : ChangeSpec := { name := "fnReserve", fn := fun _ => fun
  | [d] => { results := [.lit (.bool true)], args := [d] }
  | _ => none }
def fnReserveRow : OpenClaim := { program := "ytdppjjdhidkjoaagreat", sum := "c75698a025a9824f39590061791c5991af315a4cf830d5d8a154a04bce4856a5", func := "loop.example/g00454/laws.FnReserve", spec := "fnReserve", unfollowed := true, recurses := true, apart := false }
def FnReserveSaid : Prop := fnReserveRow.holds Tryz.pinned (OpenSpec.ofChange fnReserveSpec)

/-- ITS FALSE NEIGHBOUR: 'it returns false'. Refute it at one input. -/
def fnReserveWrong : ChangeSpec := { name := "fnReserve", fn := fun _ => fun
  | [d] => { results := [.lit (.bool false)], args := [d] }
  | _ => none }
def FnReserveWrongFalsely : Prop := fnReserveRow.holds Tryz.pinned (OpenSpec.ofChange fnReserveWrong)

/-- 'laws.FnExactRelease': WHATEVER THE INPUT: true; the input reads as it did. -/
def fnExactReleaseSpec : ChangeSpec := { name := "fnExactRelease", fn := fun _ => fun
  | [d1, d2, d3, d4, d5] => { results := [.lit (.bool true)], args := [d1, d2, d3, d4, d5] }
  | _ => none }
def fnExactReleaseRow : OpenClaim := { program := "ytdppjjdhidkjoaagreat", sum := "c75698a025a9824f39590061791c5991af315a4cf830d5d8a154a04bce4856a5", func := "loop.example/g00454/laws.FnExactRelease", spec := "fnExactRelease", unfollowed := true, recurses := true, apart := false }
def FnExactReleaseSaid : Prop := fnExactReleaseRow.holds Tryz.pinned (OpenSpec.ofChange fnExactReleaseSpec)

/-- ITS FALSE NEIGHBOUR: 'it returns false'. Refute it at one input. -/
def fnExactReleaseWrong : ChangeSpec := { name := "fnExactRelease", fn := fun _ => fun
  | [d1, d2, d3, d4, d5] => { results := [.lit (.bool false)], args := [d1, d2, d3, d4, d5] }
  | _ => none }
def FnExactReleaseWrongFalsely : Prop := fnExactReleaseRow.holds Tryz.pinned (OpenSpec.ofChange fnExactReleaseWrong)

/-- 'laws.FnExactReserve': WHATEVER THE INPUT: true; the input reads as it did. -/
def fnExactReserveSpec : ChangeSpec := { name := "fnExactReserve", fn := fun _ => fun
  | [d1, d2, d3, d4] => { results := [.lit (.bool true)], args := [d1, d2, d3, d4] }
  | _ => none }
def fnExactReserveRow : OpenClaim := { program := "ytdppjjdhidkjoaagreat", sum := "c75698a025a9824f39590061791c5991af315a4cf830d5d8a154a04bce4856a5", func := "loop.example/g00454/laws.FnExactReserve", spec := "fnExactReserve", unfollowed := true, recurses := true, apart := false }
def FnExactReserveSaid : Prop := fnExactReserveRow.holds Tryz.pinned (OpenSpec.ofChange fnExactReserveSpec)

/-- ITS FALSE NEIGHBOUR: 'it returns false'. Refute it at one input. -/
def fnExactReserveWrong : ChangeSpec := { name := "fnExactReserve", fn := fun _ => fun
  | [d1, d2, d3, d4] => { results := [.lit (.bool false)], args := [d1, d2, d3, d4] }
  | _ => none }
def FnExactReserveWrongFalsely : Prop := fnExactReserveRow.holds Tryz.pinned (OpenSpec.ofChange fnExactReserveWrong)

/-- 'laws.FnExactKept': WHATEVER THE INPUT: true; the input reads as it did. -/
def fnExactKeptSpec : ChangeSpec := { name := "fnExactKept", fn := fun _ => fun
  | [d1, d2, d3] => { results := [.lit (.bool true)], args := [d1, d2, d3] }
  | _ => none }
def fnExactKeptRow : OpenClaim := { program := "ytdppjjdhidkjoaagreat", sum := "c75698a025a9824f39590061791c5991af315a4cf830d5d8a154a04bce4856a5", func := "loop.example/g00454/laws.FnExactKept", spec := "fnExactKept", unfollowed := true, recurses := true, apart := false }
def FnExactKeptSaid : Prop := fnExactKeptRow.holds Tryz.pinned (OpenSpec.ofChange fnExactKeptSpec)

/-- ITS FALSE NEIGHBOUR: 'it returns false'. Refute it at one input. -/
def fnExactKeptWrong : ChangeSpec := { name := "fnExactKept", fn := fun _ => fun
  | [d1, d2, d3] => { results := [.lit (.bool false)], args := [d1, d2, d3] }
  | _ => none }
def FnExactKeptWrongFalsely : Prop := fnExactKeptRow.holds Tryz.pinned (OpenSpec.ofChange fnExactKeptWrong)

/-- 'laws.FnExactStateOk': WHATEVER THE INPUT: true; the input reads as it did. -/
def fnExactStateOkSpec : ChangeSpec := { name := "fnExactStateOk", fn := fun _ => fun
  | [d] => { results := [.lit (.bool true)], args := [d] }
  | _ => none }
def fnExactStateOkRow : OpenClaim := { program := "ytdppjjdhidkjoaagreat", sum := "c75698a025a9824f39590061791c5991af315a4cf830d5d8a154a04bce4856a5", func := "loop.example/g00454/laws.FnExactStateOk", spec := "fnExactStateOk", unfollowed := true, recurses := true, apart := false }
def FnExactStateOkSaid : Prop := fnExactStateOkRow.holds Tryz.pinned (OpenSpec.ofChange fnExactStateOkSpec)

/-- ITS FALSE NEIGHBOUR: 'it returns false'. Refute it at one input. -/
def fnExactStateOkWrong : ChangeSpec := { name := "fnExactStateOk", fn := fun _ => fun
  | [d] => { results := [.lit (.bool false)], args := [d] }
  | _ => none }
def FnExactStateOkWrongFalsely : Prop := fnExactStateOkRow.holds Tryz.pinned (OpenSpec.ofChange fnExactStateOkWrong)

/-- 'laws.FnExactNextEnd': WHATEVER THE INPUT: true; the input reads as it did. -/
def fnExactNextEndSpec : ChangeSpec := { name := "fnExactNextEnd", fn := fun _ => fun
  | [d] => { results := [.lit (.bool true)], args := [d] }
  | _ => none }
def fnExactNextEndRow : OpenClaim := { program := "ytdppjjdhidkjoaagreat", sum := "c75698a025a9824f39590061791c5991af315a4cf830d5d8a154a04bce4856a5", func := "loop.example/g00454/laws.FnExactNextEnd", spec := "fnExactNextEnd", unfollowed := true, recurses := true, apart := false }
def FnExactNextEndSaid : Prop := fnExactNextEndRow.holds Tryz.pinned (OpenSpec.ofChange fnExactNextEndSpec)

/-- ITS FALSE NEIGHBOUR: 'it returns false'. Refute it at one input. -/
def fnExactNextEndWrong : ChangeSpec := { name := "fnExactNextEnd", fn := fun _ => fun
  | [d] => { results := [.lit (.bool false)], args := [d] }
  | _ => none }
def FnExactNextEndWrongFalsely : Prop := fnExactNextEndRow.holds Tryz.pinned (OpenSpec.ofChange fnExactNextEndWrong)

/-- 'laws.FnExactEarliest': WHATEVER THE INPUT: true; the input reads as it did. -/
def fnExactEarliestSpec : ChangeSpec := { name := "fnExactEarliest", fn := fun _ => fun
  | [d1, d2, d3] => { results := [.lit (.bool true)], args := [d1, d2, d3] }
  | _ => none }
def fnExactEarliestRow : OpenClaim := { program := "ytdppjjdhidkjoaagreat", sum := "c75698a025a9824f39590061791c5991af315a4cf830d5d8a154a04bce4856a5", func := "loop.example/g00454/laws.FnExactEarliest", spec := "fnExactEarliest", unfollowed := true, recurses := true, apart := false }
def FnExactEarliestSaid : Prop := fnExactEarliestRow.holds Tryz.pinned (OpenSpec.ofChange fnExactEarliestSpec)

/-- ITS FALSE NEIGHBOUR: 'it returns false'. Refute it at one input. -/
def fnExactEarliestWrong : ChangeSpec := { name := "fnExactEarliest", fn := fun _ => fun
  | [d1, d2, d3] => { results := [.lit (.bool false)], args := [d1, d2, d3] }
  | _ => none }
def FnExactEarliestWrongFalsely : Prop := fnExactEarliestRow.holds Tryz.pinned (OpenSpec.ofChange fnExactEarliestWrong)

/-- 'laws.FnExactRoomOf': WHATEVER THE INPUT: true; the input reads as it did. -/
def fnExactRoomOfSpec : ChangeSpec := { name := "fnExactRoomOf", fn := fun _ => fun
  | [d] => { results := [.lit (.bool true)], args := [d] }
  | _ => none }
def fnExactRoomOfRow : OpenClaim := { program := "ytdppjjdhidkjoaagreat", sum := "c75698a025a9824f39590061791c5991af315a4cf830d5d8a154a04bce4856a5", func := "loop.example/g00454/laws.FnExactRoomOf", spec := "fnExactRoomOf", unfollowed := true, recurses := true, apart := false }
def FnExactRoomOfSaid : Prop := fnExactRoomOfRow.holds Tryz.pinned (OpenSpec.ofChange fnExactRoomOfSpec)

/-- ITS FALSE NEIGHBOUR: 'it returns false'. Refute it at one input. -/
def fnExactRoomOfWrong : ChangeSpec := { name := "fnExactRoomOf", fn := fun _ => fun
  | [d] => { results := [.lit (.bool false)], args := [d] }
  | _ => none }
def FnExactRoomOfWrongFalsely : Prop := fnExactRoomOfRow.holds Tryz.pinned (OpenSpec.ofChange fnExactRoomOfWrong)

/-- 'laws.FnExactStateNew': WHATEVER THE INPUT: true; the input reads as it did. -/
def fnExactStateNewSpec : ChangeSpec := { name := "fnExactStateNew", fn := fun _ => fun
  | [d1, d2, d3] => { results := [.lit (.bool true)], args := [d1, d2, d3] }
  | _ => none }
def fnExactStateNewRow : OpenClaim := { program := "ytdppjjdhidkjoaagreat", sum := "c75698a025a9824f39590061791c5991af315a4cf830d5d8a154a04bce4856a5", func := "loop.example/g00454/laws.FnExactStateNew", spec := "fnExactStateNew", unfollowed := true, recurses := true, apart := false }
def FnExactStateNewSaid : Prop := fnExactStateNewRow.holds Tryz.pinned (OpenSpec.ofChange fnExactStateNewSpec)

/-- ITS FALSE NEIGHBOUR: 'it returns false'. Refute it at one input. -/
def fnExactStateNewWrong : ChangeSpec := { name := "fnExactStateNew", fn := fun _ => fun
  | [d1, d2, d3] => { results := [.lit (.bool false)], args := [d1, d2, d3] }
  | _ => none }
def FnExactStateNewWrongFalsely : Prop := fnExactStateNewRow.holds Tryz.pinned (OpenSpec.ofChange fnExactStateNewWrong)

/-- 'laws.FnLower': WHATEVER THE INPUT: true; the input reads as it did. -/
def fnLowerSpec : ChangeSpec := { name := "fnLower", fn := fun _ => fun
  | [d] => { results := [.lit (.bool true)], args := [d] }
  | _ => none }
def fnLowerRow : OpenClaim := { program := "ytdppjjdhidkjoaagreat", sum := "c75698a025a9824f39590061791c5991af315a4cf830d5d8a154a04bce4856a5", func := "loop.example/g00454/laws.FnLower", spec := "fnLower", unfollowed := true, recurses := true, apart := false }
def FnLowerSaid : Prop := fnLowerRow.holds Tryz.pinned (OpenSpec.ofChange fnLowerSpec)

/-- ITS FALSE NEIGHBOUR: 'it returns false'. Refute it at one input. -/
def fnLowerWrong : ChangeSpec := { name := "fnLower", fn := fun _ => fun
  | [d] => { results := [.lit (.bool false)], args := [d] }
  | _ => none }
def FnLowerWrongFalsely : Prop := fnLowerRow.holds Tryz.pinned (OpenSpec.ofChange fnLowerWrong)

/-- 'laws.FnExactPlan': WHATEVER THE INPUT: true; the input reads as it did. -/
def fnExactPlanSpec : ChangeSpec := { name := "fnExactPlan", fn := fun _ => fun
  | [d1, d2, d3, d4] => { results := [.lit (.bool true)], args := [d1, d2, d3, d4] }
  | _ => none }
def fnExactPlanRow : OpenClaim := { program := "ytdppjjdhidkjoaagreat", sum := "c75698a025a9824f39590061791c5991af315a4cf830d5d8a154a04bce4856a5", func := "loop.example/g00454/laws.FnExactPlan", spec := "fnExactPlan", unfollowed := true, recurses := true, apart := false }
def FnExactPlanSaid : Prop := fnExactPlanRow.holds Tryz.pinned (OpenSpec.ofChange fnExactPlanSpec)

/-- ITS FALSE NEIGHBOUR: 'it returns false'. Refute it at one input. -/
def fnExactPlanWrong : ChangeSpec := { name := "fnExactPlan", fn := fun _ => fun
  | [d1, d2, d3, d4] => { results := [.lit (.bool false)], args := [d1, d2, d3, d4] }
  | _ => none }
def FnExactPlanWrongFalsely : Prop := fnExactPlanRow.holds Tryz.pinned (OpenSpec.ofChange fnExactPlanWrong)

/- THE SECOND FORM. 'bulk': how many values and letters a reading holds, each counted each time it is reached (what is shared counts as often as it is met; a slice's spare places count too). A statement '..UptoSaid' is the law's where the arguments, and the package variables that the reading takes, are together of bulk at most 1048576: NARROWER than '..Said'. Prove '..Said' where nothing that the law and all that it calls make is longer than what came in: it says more and counts as full. Else prove '..UptoSaid'. A law counts once. -/
mutual
def uptoBulk {H : Type} : DataW H → Nat
  | .lit (.string bytes) => bytes.length + 1
  | .lit _ => 1
  | .nil => 1
  | .ptr d => uptoBulk d + 1
  | .slice elems spare => uptoBulkAll elems + uptoBulkAll spare + 1
  | .agg parts => uptoBulkAll parts + 1
  | .iface _ d => uptoBulk d + 1
  | .map entries => uptoBulkEntries entries + 1
  | .held _ => 1
def uptoBulkAll {H : Type} : List (DataW H) → Nat
  | [] => 0
  | d :: r => uptoBulk d + uptoBulkAll r
def uptoBulkEntries {H : Type} : List (Lit × DataW H) → Nat
  | [] => 0
  | x :: r => uptoBulkEntry x + uptoBulkEntries r
def uptoBulkEntry {H : Type} : Lit × DataW H → Nat
  | (.string bytes, d) => bytes.length + uptoBulk d + 1
  | (_, d) => uptoBulk d + 1
 end
def uptoSmall : (H : Type) → List (DataW H) → Bool := fun _ ds => decide (uptoBulkAll ds ≤ 1048576)
def OpenSpec.upto (s : _root_.Go.ChangeSpec) : _root_.Go.OpenSpec := { _root_.Go.OpenSpec.ofChange s with cond := some uptoSmall }

/-- 'laws.FnEarliest', WHERE WHAT IT READS IS OF BULK AT MOST 1048576: true; the input reads as it did. -/
def fnEarliestUptoRow : OpenClaim := { program := "ytdppjjdhidkjoaagreat", sum := "c75698a025a9824f39590061791c5991af315a4cf830d5d8a154a04bce4856a5", func := "loop.example/g00454/laws.FnEarliest", spec := "fnEarliest", unfollowed := true, recurses := true, apart := false, narrowed := true }
def FnEarliestUptoSaid : Prop := fnEarliestUptoRow.holds Tryz.pinned (OpenSpec.upto fnEarliestSpec)

/-- 'laws.FnPlan', WHERE WHAT IT READS IS OF BULK AT MOST 1048576: true; the input reads as it did. -/
def fnPlanUptoRow : OpenClaim := { program := "ytdppjjdhidkjoaagreat", sum := "c75698a025a9824f39590061791c5991af315a4cf830d5d8a154a04bce4856a5", func := "loop.example/g00454/laws.FnPlan", spec := "fnPlan", unfollowed := true, recurses := true, apart := false, narrowed := true }
def FnPlanUptoSaid : Prop := fnPlanUptoRow.holds Tryz.pinned (OpenSpec.upto fnPlanSpec)

/-- 'laws.FnReserve', WHERE WHAT IT READS IS OF BULK AT MOST 1048576: true; the input reads as it did. -/
def fnReserveUptoRow : OpenClaim := { program := "ytdppjjdhidkjoaagreat", sum := "c75698a025a9824f39590061791c5991af315a4cf830d5d8a154a04bce4856a5", func := "loop.example/g00454/laws.FnReserve", spec := "fnReserve", unfollowed := true, recurses := true, apart := false, narrowed := true }
def FnReserveUptoSaid : Prop := fnReserveUptoRow.holds Tryz.pinned (OpenSpec.upto fnReserveSpec)

/-- 'laws.FnExactRelease', WHERE WHAT IT READS IS OF BULK AT MOST 1048576: true; the input reads as it did. -/
def fnExactReleaseUptoRow : OpenClaim := { program := "ytdppjjdhidkjoaagreat", sum := "c75698a025a9824f39590061791c5991af315a4cf830d5d8a154a04bce4856a5", func := "loop.example/g00454/laws.FnExactRelease", spec := "fnExactRelease", unfollowed := true, recurses := true, apart := false, narrowed := true }
def FnExactReleaseUptoSaid : Prop := fnExactReleaseUptoRow.holds Tryz.pinned (OpenSpec.upto fnExactReleaseSpec)

/-- 'laws.FnExactReserve', WHERE WHAT IT READS IS OF BULK AT MOST 1048576: true; the input reads as it did. -/
def fnExactReserveUptoRow : OpenClaim := { program := "ytdppjjdhidkjoaagreat", sum := "c75698a025a9824f39590061791c5991af315a4cf830d5d8a154a04bce4856a5", func := "loop.example/g00454/laws.FnExactReserve", spec := "fnExactReserve", unfollowed := true, recurses := true, apart := false, narrowed := true }
def FnExactReserveUptoSaid : Prop := fnExactReserveUptoRow.holds Tryz.pinned (OpenSpec.upto fnExactReserveSpec)

/-- 'laws.FnExactKept', WHERE WHAT IT READS IS OF BULK AT MOST 1048576: true; the input reads as it did. -/
def fnExactKeptUptoRow : OpenClaim := { program := "ytdppjjdhidkjoaagreat", sum := "c75698a025a9824f39590061791c5991af315a4cf830d5d8a154a04bce4856a5", func := "loop.example/g00454/laws.FnExactKept", spec := "fnExactKept", unfollowed := true, recurses := true, apart := false, narrowed := true }
def FnExactKeptUptoSaid : Prop := fnExactKeptUptoRow.holds Tryz.pinned (OpenSpec.upto fnExactKeptSpec)

/-- 'laws.FnExactStateOk', WHERE WHAT IT READS IS OF BULK AT MOST 1048576: true; the input reads as it did. -/
def fnExactStateOkUptoRow : OpenClaim := { program := "ytdppjjdhidkjoaagreat", sum := "c75698a025a9824f39590061791c5991af315a4cf830d5d8a154a04bce4856a5", func := "loop.example/g00454/laws.FnExactStateOk", spec := "fnExactStateOk", unfollowed := true, recurses := true, apart := false, narrowed := true }
def FnExactStateOkUptoSaid : Prop := fnExactStateOkUptoRow.holds Tryz.pinned (OpenSpec.upto fnExactStateOkSpec)

/-- 'laws.FnExactNextEnd', WHERE WHAT IT READS IS OF BULK AT MOST 1048576: true; the input reads as it did. -/
def fnExactNextEndUptoRow : OpenClaim := { program := "ytdppjjdhidkjoaagreat", sum := "c75698a025a9824f39590061791c5991af315a4cf830d5d8a154a04bce4856a5", func := "loop.example/g00454/laws.FnExactNextEnd", spec := "fnExactNextEnd", unfollowed := true, recurses := true, apart := false, narrowed := true }
def FnExactNextEndUptoSaid : Prop := fnExactNextEndUptoRow.holds Tryz.pinned (OpenSpec.upto fnExactNextEndSpec)

/-- 'laws.FnExactEarliest', WHERE WHAT IT READS IS OF BULK AT MOST 1048576: true; the input reads as it did. -/
def fnExactEarliestUptoRow : OpenClaim := { program := "ytdppjjdhidkjoaagreat", sum := "c75698a025a9824f39590061791c5991af315a4cf830d5d8a154a04bce4856a5", func := "loop.example/g00454/laws.FnExactEarliest", spec := "fnExactEarliest", unfollowed := true, recurses := true, apart := false, narrowed := true }
def FnExactEarliestUptoSaid : Prop := fnExactEarliestUptoRow.holds Tryz.pinned (OpenSpec.upto fnExactEarliestSpec)

/-- 'laws.FnExactRoomOf', WHERE WHAT IT READS IS OF BULK AT MOST 1048576: true; the input reads as it did. -/
def fnExactRoomOfUptoRow : OpenClaim := { program := "ytdppjjdhidkjoaagreat", sum := "c75698a025a9824f39590061791c5991af315a4cf830d5d8a154a04bce4856a5", func := "loop.example/g00454/laws.FnExactRoomOf", spec := "fnExactRoomOf", unfollowed := true, recurses := true, apart := false, narrowed := true }
def FnExactRoomOfUptoSaid : Prop := fnExactRoomOfUptoRow.holds Tryz.pinned (OpenSpec.upto fnExactRoomOfSpec)

/-- 'laws.FnExactStateNew', WHERE WHAT IT READS IS OF BULK AT MOST 1048576: true; the input reads as it did. -/
def fnExactStateNewUptoRow : OpenClaim := { program := "ytdppjjdhidkjoaagreat", sum := "c75698a025a9824f39590061791c5991af315a4cf830d5d8a154a04bce4856a5", func := "loop.example/g00454/laws.FnExactStateNew", spec := "fnExactStateNew", unfollowed := true, recurses := true, apart := false, narrowed := true }
def FnExactStateNewUptoSaid : Prop := fnExactStateNewUptoRow.holds Tryz.pinned (OpenSpec.upto fnExactStateNewSpec)

/-- 'laws.FnLower', WHERE WHAT IT READS IS OF BULK AT MOST 1048576: true; the input reads as it did. -/
def fnLowerUptoRow : OpenClaim := { program := "ytdppjjdhidkjoaagreat", sum := "c75698a025a9824f39590061791c5991af315a4cf830d5d8a154a04bce4856a5", func := "loop.example/g00454/laws.FnLower", spec := "fnLower", unfollowed := true, recurses := true, apart := false, narrowed := true }
def FnLowerUptoSaid : Prop := fnLowerUptoRow.holds Tryz.pinned (OpenSpec.upto fnLowerSpec)

/-- 'laws.FnExactPlan', WHERE WHAT IT READS IS OF BULK AT MOST 1048576: true; the input reads as it did. -/
def fnExactPlanUptoRow : OpenClaim := { program := "ytdppjjdhidkjoaagreat", sum := "c75698a025a9824f39590061791c5991af315a4cf830d5d8a154a04bce4856a5", func := "loop.example/g00454/laws.FnExactPlan", spec := "fnExactPlan", unfollowed := true, recurses := true, apart := false, narrowed := true }
def FnExactPlanUptoSaid : Prop := fnExactPlanUptoRow.holds Tryz.pinned (OpenSpec.upto fnExactPlanSpec)

end Rows
end Go.Proofs.YtdppjjdhidkjoaaGreat
