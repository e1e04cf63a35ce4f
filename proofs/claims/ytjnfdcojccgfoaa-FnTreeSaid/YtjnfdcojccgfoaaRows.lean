/-
  No cell of these rows narrows 'for every input' (looked for: loops, veiled, ifaces, maps, wideKeys, modest, calm, conditions, laid).
  DERIVED. THE GIVEN ROWS OF THIS SEAT. 23 by the template 'for every input the law returns true; each argument reads behind the call as it read before'; 0 by the template 'total and deterministic' (their statements: YtjnfdcojccgfoaaTotals.lean).
  GIVEN WITH THE SEED: the statements are not yours to turn. If you find one false, say at which input.
  Laid BY PROGRAM, IN A SANDBOX (cutbox-rows.mjs): the forced cells as the released guide's own fill.sh prints them over the translation f8eb61514bf66cd7… (all of the seat's roots in one cut). By AI agents, Wed Nov 11 2026. No macro, syntax, notation, axiom, sorry.
-/
import Derived.Test.YtjnfdcojccgfoaaChecked
import GoSem.Claim
import GoSem.ClaimJoined
import GoSem.ClaimMapViews
import Derived.JoinedTies
import Derived.KernelRfl
namespace Go.Proofs.Ytjnfdcojccgfoaa
/- THE CELL 'sum', in the pinned program and in every row, IS THE sha256 OF THE DUMP (.gsa) THAT YtjnfdcojccgfoaaProg.lean LOADS. Nothing in Lean hashes anything: it is a label: what it is worth is what the hold of that sum in a sandbox is worth. -/
noncomputable def Try.pinned : Pinned := { name := "ytjnfdcojccgfoaa", sum := "f8eb61514bf66cd7fcfc0bce65090090c7956b97ccf5774e2853df9ca263ee34", checked := Try.checked }
namespace Rows
def none {H : Type} : Left H := { results := [], args := [] }

/-- 'laws.FnParts': WHATEVER THE INPUT: true; the input reads as it did. -/
def fnPartsSpec : ChangeSpec := { name := "fnParts", fn := fun _ => fun
  | [d] => { results := [.lit (.bool true)], args := [d] }
  | _ => none }
def fnPartsRow : OpenClaim := { program := "ytjnfdcojccgfoaa", sum := "f8eb61514bf66cd7fcfc0bce65090090c7956b97ccf5774e2853df9ca263ee34", func := "loop.example/g00454/laws.FnParts", spec := "fnParts", apart := false }
def FnPartsSaid : Prop := fnPartsRow.holds Try.pinned (OpenSpec.ofChange fnPartsSpec)

/-- ITS FALSE NEIGHBOUR: 'it returns false'. Refute it at one input. -/
def fnPartsWrong : ChangeSpec := { name := "fnParts", fn := fun _ => fun
  | [d] => { results := [.lit (.bool false)], args := [d] }
  | _ => none }
def FnPartsWrongFalsely : Prop := fnPartsRow.holds Try.pinned (OpenSpec.ofChange fnPartsWrong)

/-- 'laws.FnExactProfOk': WHATEVER THE INPUT: true; the input reads as it did. -/
def fnExactProfOkSpec : ChangeSpec := { name := "fnExactProfOk", fn := fun _ => fun
  | [d] => { results := [.lit (.bool true)], args := [d] }
  | _ => none }
def fnExactProfOkRow : OpenClaim := { program := "ytjnfdcojccgfoaa", sum := "f8eb61514bf66cd7fcfc0bce65090090c7956b97ccf5774e2853df9ca263ee34", func := "loop.example/g00454/laws.FnExactProfOk", spec := "fnExactProfOk", apart := false }
def FnExactProfOkSaid : Prop := fnExactProfOkRow.holds Try.pinned (OpenSpec.ofChange fnExactProfOkSpec)

/-- ITS FALSE NEIGHBOUR: 'it returns false'. Refute it at one input. -/
def fnExactProfOkWrong : ChangeSpec := { name := "fnExactProfOk", fn := fun _ => fun
  | [d] => { results := [.lit (.bool false)], args := [d] }
  | _ => none }
def FnExactProfOkWrongFalsely : Prop := fnExactProfOkRow.holds Try.pinned (OpenSpec.ofChange fnExactProfOkWrong)

/-- 'laws.FnExactProfNew': WHATEVER THE INPUT: true; the input reads as it did. -/
def fnExactProfNewSpec : ChangeSpec := { name := "fnExactProfNew", fn := fun _ => fun
  | [d] => { results := [.lit (.bool true)], args := [d] }
  | _ => none }
def fnExactProfNewRow : OpenClaim := { program := "ytjnfdcojccgfoaa", sum := "f8eb61514bf66cd7fcfc0bce65090090c7956b97ccf5774e2853df9ca263ee34", func := "loop.example/g00454/laws.FnExactProfNew", spec := "fnExactProfNew", apart := false }
def FnExactProfNewSaid : Prop := fnExactProfNewRow.holds Try.pinned (OpenSpec.ofChange fnExactProfNewSpec)

/-- ITS FALSE NEIGHBOUR: 'it returns false'. Refute it at one input. -/
def fnExactProfNewWrong : ChangeSpec := { name := "fnExactProfNew", fn := fun _ => fun
  | [d] => { results := [.lit (.bool false)], args := [d] }
  | _ => none }
def FnExactProfNewWrongFalsely : Prop := fnExactProfNewRow.holds Try.pinned (OpenSpec.ofChange fnExactProfNewWrong)

/-- 'laws.FnExactQueueOk': WHATEVER THE INPUT: true; the input reads as it did. -/
def fnExactQueueOkSpec : ChangeSpec := { name := "fnExactQueueOk", fn := fun _ => fun
  | [d] => { results := [.lit (.bool true)], args := [d] }
  | _ => none }
def fnExactQueueOkRow : OpenClaim := { program := "ytjnfdcojccgfoaa", sum := "f8eb61514bf66cd7fcfc0bce65090090c7956b97ccf5774e2853df9ca263ee34", func := "loop.example/g00454/laws.FnExactQueueOk", spec := "fnExactQueueOk", unfollowed := true, recurses := true, apart := false }
def FnExactQueueOkSaid : Prop := fnExactQueueOkRow.holds Try.pinned (OpenSpec.ofChange fnExactQueueOkSpec)

/-- ITS FALSE NEIGHBOUR: 'it returns false'. Refute it at one input. -/
def fnExactQueueOkWrong : ChangeSpec := { name := "fnExactQueueOk", fn := fun _ => fun
  | [d] => { results := [.lit (.bool false)], args := [d] }
  | _ => none }
def FnExactQueueOkWrongFalsely : Prop := fnExactQueueOkRow.holds Try.pinned (OpenSpec.ofChange fnExactQueueOkWrong)

/-- 'laws.FnExactSameProf': WHATEVER THE INPUT: true; the input reads as it did. -/
def fnExactSameProfSpec : ChangeSpec := { name := "fnExactSameProf", fn := fun _ => fun
  | [d1, d2] => { results := [.lit (.bool true)], args := [d1, d2] }
  | _ => none }
def fnExactSameProfRow : OpenClaim := { program := "ytjnfdcojccgfoaa", sum := "f8eb61514bf66cd7fcfc0bce65090090c7956b97ccf5774e2853df9ca263ee34", func := "loop.example/g00454/laws.FnExactSameProf", spec := "fnExactSameProf", apart := false }
def FnExactSameProfSaid : Prop := fnExactSameProfRow.holds Try.pinned (OpenSpec.ofChange fnExactSameProfSpec)

/-- ITS FALSE NEIGHBOUR: 'it returns false'. Refute it at one input. -/
def fnExactSameProfWrong : ChangeSpec := { name := "fnExactSameProf", fn := fun _ => fun
  | [d1, d2] => { results := [.lit (.bool false)], args := [d1, d2] }
  | _ => none }
def FnExactSameProfWrongFalsely : Prop := fnExactSameProfRow.holds Try.pinned (OpenSpec.ofChange fnExactSameProfWrong)

/-- 'laws.FnExactProfAt': WHATEVER THE INPUT: true; the input reads as it did. -/
def fnExactProfAtSpec : ChangeSpec := { name := "fnExactProfAt", fn := fun _ => fun
  | [d1, d2] => { results := [.lit (.bool true)], args := [d1, d2] }
  | _ => none }
def fnExactProfAtRow : OpenClaim := { program := "ytjnfdcojccgfoaa", sum := "f8eb61514bf66cd7fcfc0bce65090090c7956b97ccf5774e2853df9ca263ee34", func := "loop.example/g00454/laws.FnExactProfAt", spec := "fnExactProfAt", apart := false }
def FnExactProfAtSaid : Prop := fnExactProfAtRow.holds Try.pinned (OpenSpec.ofChange fnExactProfAtSpec)

/-- ITS FALSE NEIGHBOUR: 'it returns false'. Refute it at one input. -/
def fnExactProfAtWrong : ChangeSpec := { name := "fnExactProfAt", fn := fun _ => fun
  | [d1, d2] => { results := [.lit (.bool false)], args := [d1, d2] }
  | _ => none }
def FnExactProfAtWrongFalsely : Prop := fnExactProfAtRow.holds Try.pinned (OpenSpec.ofChange fnExactProfAtWrong)

/-- 'laws.FnVec': WHATEVER THE INPUT: true; the input reads as it did. -/
def fnVecSpec : ChangeSpec := { name := "fnVec", fn := fun _ => fun
  | [d] => { results := [.lit (.bool true)], args := [d] }
  | _ => none }
def fnVecRow : OpenClaim := { program := "ytjnfdcojccgfoaa", sum := "f8eb61514bf66cd7fcfc0bce65090090c7956b97ccf5774e2853df9ca263ee34", func := "loop.example/g00454/laws.FnVec", spec := "fnVec", apart := false }
def FnVecSaid : Prop := fnVecRow.holds Try.pinned (OpenSpec.ofChange fnVecSpec)

/-- ITS FALSE NEIGHBOUR: 'it returns false'. Refute it at one input. -/
def fnVecWrong : ChangeSpec := { name := "fnVec", fn := fun _ => fun
  | [d] => { results := [.lit (.bool false)], args := [d] }
  | _ => none }
def FnVecWrongFalsely : Prop := fnVecRow.holds Try.pinned (OpenSpec.ofChange fnVecWrong)

/-- 'laws.FnExactProfTimes': WHATEVER THE INPUT: true; the input reads as it did. -/
def fnExactProfTimesSpec : ChangeSpec := { name := "fnExactProfTimes", fn := fun _ => fun
  | [d] => { results := [.lit (.bool true)], args := [d] }
  | _ => none }
def fnExactProfTimesRow : OpenClaim := { program := "ytjnfdcojccgfoaa", sum := "f8eb61514bf66cd7fcfc0bce65090090c7956b97ccf5774e2853df9ca263ee34", func := "loop.example/g00454/laws.FnExactProfTimes", spec := "fnExactProfTimes", apart := false }
def FnExactProfTimesSaid : Prop := fnExactProfTimesRow.holds Try.pinned (OpenSpec.ofChange fnExactProfTimesSpec)

/-- ITS FALSE NEIGHBOUR: 'it returns false'. Refute it at one input. -/
def fnExactProfTimesWrong : ChangeSpec := { name := "fnExactProfTimes", fn := fun _ => fun
  | [d] => { results := [.lit (.bool false)], args := [d] }
  | _ => none }
def FnExactProfTimesWrongFalsely : Prop := fnExactProfTimesRow.holds Try.pinned (OpenSpec.ofChange fnExactProfTimesWrong)

/-- 'laws.FnExactProfMin': WHATEVER THE INPUT: true; the input reads as it did. -/
def fnExactProfMinSpec : ChangeSpec := { name := "fnExactProfMin", fn := fun _ => fun
  | [d1, d2, d3] => { results := [.lit (.bool true)], args := [d1, d2, d3] }
  | _ => none }
def fnExactProfMinRow : OpenClaim := { program := "ytjnfdcojccgfoaa", sum := "f8eb61514bf66cd7fcfc0bce65090090c7956b97ccf5774e2853df9ca263ee34", func := "loop.example/g00454/laws.FnExactProfMin", spec := "fnExactProfMin", apart := false }
def FnExactProfMinSaid : Prop := fnExactProfMinRow.holds Try.pinned (OpenSpec.ofChange fnExactProfMinSpec)

/-- ITS FALSE NEIGHBOUR: 'it returns false'. Refute it at one input. -/
def fnExactProfMinWrong : ChangeSpec := { name := "fnExactProfMin", fn := fun _ => fun
  | [d1, d2, d3] => { results := [.lit (.bool false)], args := [d1, d2, d3] }
  | _ => none }
def FnExactProfMinWrongFalsely : Prop := fnExactProfMinRow.holds Try.pinned (OpenSpec.ofChange fnExactProfMinWrong)

/-- 'laws.FnExactProfCut': WHATEVER THE INPUT: true; the input reads as it did. -/
def fnExactProfCutSpec : ChangeSpec := { name := "fnExactProfCut", fn := fun _ => fun
  | [d1, d2] => { results := [.lit (.bool true)], args := [d1, d2] }
  | _ => none }
def fnExactProfCutRow : OpenClaim := { program := "ytjnfdcojccgfoaa", sum := "f8eb61514bf66cd7fcfc0bce65090090c7956b97ccf5774e2853df9ca263ee34", func := "loop.example/g00454/laws.FnExactProfCut", spec := "fnExactProfCut", apart := false }
def FnExactProfCutSaid : Prop := fnExactProfCutRow.holds Try.pinned (OpenSpec.ofChange fnExactProfCutSpec)

/-- ITS FALSE NEIGHBOUR: 'it returns false'. Refute it at one input. -/
def fnExactProfCutWrong : ChangeSpec := { name := "fnExactProfCut", fn := fun _ => fun
  | [d1, d2] => { results := [.lit (.bool false)], args := [d1, d2] }
  | _ => none }
def FnExactProfCutWrongFalsely : Prop := fnExactProfCutRow.holds Try.pinned (OpenSpec.ofChange fnExactProfCutWrong)

/-- 'laws.FnExactTopoOk': WHATEVER THE INPUT: true; the input reads as it did. -/
def fnExactTopoOkSpec : ChangeSpec := { name := "fnExactTopoOk", fn := fun _ => fun
  | [d] => { results := [.lit (.bool true)], args := [d] }
  | _ => none }
def fnExactTopoOkRow : OpenClaim := { program := "ytjnfdcojccgfoaa", sum := "f8eb61514bf66cd7fcfc0bce65090090c7956b97ccf5774e2853df9ca263ee34", func := "loop.example/g00454/laws.FnExactTopoOk", spec := "fnExactTopoOk", recurses := true, apart := false }
def FnExactTopoOkSaid : Prop := fnExactTopoOkRow.holds Try.pinned (OpenSpec.ofChange fnExactTopoOkSpec)

/-- ITS FALSE NEIGHBOUR: 'it returns false'. Refute it at one input. -/
def fnExactTopoOkWrong : ChangeSpec := { name := "fnExactTopoOk", fn := fun _ => fun
  | [d] => { results := [.lit (.bool false)], args := [d] }
  | _ => none }
def FnExactTopoOkWrongFalsely : Prop := fnExactTopoOkRow.holds Try.pinned (OpenSpec.ofChange fnExactTopoOkWrong)

/-- 'laws.FnExactLevel': WHATEVER THE INPUT: true; the input reads as it did. -/
def fnExactLevelSpec : ChangeSpec := { name := "fnExactLevel", fn := fun _ => fun
  | [d1, d2] => { results := [.lit (.bool true)], args := [d1, d2] }
  | _ => none }
def fnExactLevelRow : OpenClaim := { program := "ytjnfdcojccgfoaa", sum := "f8eb61514bf66cd7fcfc0bce65090090c7956b97ccf5774e2853df9ca263ee34", func := "loop.example/g00454/laws.FnExactLevel", spec := "fnExactLevel", recurses := true, apart := false }
def FnExactLevelSaid : Prop := fnExactLevelRow.holds Try.pinned (OpenSpec.ofChange fnExactLevelSpec)

/-- ITS FALSE NEIGHBOUR: 'it returns false'. Refute it at one input. -/
def fnExactLevelWrong : ChangeSpec := { name := "fnExactLevel", fn := fun _ => fun
  | [d1, d2] => { results := [.lit (.bool false)], args := [d1, d2] }
  | _ => none }
def FnExactLevelWrongFalsely : Prop := fnExactLevelRow.holds Try.pinned (OpenSpec.ofChange fnExactLevelWrong)

/-- 'laws.FnExactLeaves': WHATEVER THE INPUT: true; the input reads as it did. -/
def fnExactLeavesSpec : ChangeSpec := { name := "fnExactLeaves", fn := fun _ => fun
  | [d1, d2] => { results := [.lit (.bool true)], args := [d1, d2] }
  | _ => none }
def fnExactLeavesRow : OpenClaim := { program := "ytjnfdcojccgfoaa", sum := "f8eb61514bf66cd7fcfc0bce65090090c7956b97ccf5774e2853df9ca263ee34", func := "loop.example/g00454/laws.FnExactLeaves", spec := "fnExactLeaves", recurses := true, apart := false }
def FnExactLeavesSaid : Prop := fnExactLeavesRow.holds Try.pinned (OpenSpec.ofChange fnExactLeavesSpec)

/-- ITS FALSE NEIGHBOUR: 'it returns false'. Refute it at one input. -/
def fnExactLeavesWrong : ChangeSpec := { name := "fnExactLeaves", fn := fun _ => fun
  | [d1, d2] => { results := [.lit (.bool false)], args := [d1, d2] }
  | _ => none }
def FnExactLeavesWrongFalsely : Prop := fnExactLeavesRow.holds Try.pinned (OpenSpec.ofChange fnExactLeavesWrong)

/-- 'laws.FnExactTopoText': WHATEVER THE INPUT: true; the input reads as it did. -/
def fnExactTopoTextSpec : ChangeSpec := { name := "fnExactTopoText", fn := fun _ => fun
  | [d] => { results := [.lit (.bool true)], args := [d] }
  | _ => none }
def fnExactTopoTextRow : OpenClaim := { program := "ytjnfdcojccgfoaa", sum := "f8eb61514bf66cd7fcfc0bce65090090c7956b97ccf5774e2853df9ca263ee34", func := "loop.example/g00454/laws.FnExactTopoText", spec := "fnExactTopoText", recurses := true, apart := false }
def FnExactTopoTextSaid : Prop := fnExactTopoTextRow.holds Try.pinned (OpenSpec.ofChange fnExactTopoTextSpec)

/-- ITS FALSE NEIGHBOUR: 'it returns false'. Refute it at one input. -/
def fnExactTopoTextWrong : ChangeSpec := { name := "fnExactTopoText", fn := fun _ => fun
  | [d] => { results := [.lit (.bool false)], args := [d] }
  | _ => none }
def FnExactTopoTextWrongFalsely : Prop := fnExactTopoTextRow.holds Try.pinned (OpenSpec.ofChange fnExactTopoTextWrong)

/-- 'laws.FnExactAbove': WHATEVER THE INPUT: true; the input reads as it did. -/
def fnExactAboveSpec : ChangeSpec := { name := "fnExactAbove", fn := fun _ => fun
  | [d1, d2] => { results := [.lit (.bool true)], args := [d1, d2] }
  | _ => none }
def fnExactAboveRow : OpenClaim := { program := "ytjnfdcojccgfoaa", sum := "f8eb61514bf66cd7fcfc0bce65090090c7956b97ccf5774e2853df9ca263ee34", func := "loop.example/g00454/laws.FnExactAbove", spec := "fnExactAbove", recurses := true, apart := false }
def FnExactAboveSaid : Prop := fnExactAboveRow.holds Try.pinned (OpenSpec.ofChange fnExactAboveSpec)

/-- ITS FALSE NEIGHBOUR: 'it returns false'. Refute it at one input. -/
def fnExactAboveWrong : ChangeSpec := { name := "fnExactAbove", fn := fun _ => fun
  | [d1, d2] => { results := [.lit (.bool false)], args := [d1, d2] }
  | _ => none }
def FnExactAboveWrongFalsely : Prop := fnExactAboveRow.holds Try.pinned (OpenSpec.ofChange fnExactAboveWrong)

/-- 'laws.FnExactLowest': WHATEVER THE INPUT: true; the input reads as it did. -/
def fnExactLowestSpec : ChangeSpec := { name := "fnExactLowest", fn := fun _ => fun
  | [d1, d2] => { results := [.lit (.bool true)], args := [d1, d2] }
  | _ => none }
def fnExactLowestRow : OpenClaim := { program := "ytjnfdcojccgfoaa", sum := "f8eb61514bf66cd7fcfc0bce65090090c7956b97ccf5774e2853df9ca263ee34", func := "loop.example/g00454/laws.FnExactLowest", spec := "fnExactLowest", recurses := true, apart := false }
def FnExactLowestSaid : Prop := fnExactLowestRow.holds Try.pinned (OpenSpec.ofChange fnExactLowestSpec)

/-- ITS FALSE NEIGHBOUR: 'it returns false'. Refute it at one input. -/
def fnExactLowestWrong : ChangeSpec := { name := "fnExactLowest", fn := fun _ => fun
  | [d1, d2] => { results := [.lit (.bool false)], args := [d1, d2] }
  | _ => none }
def FnExactLowestWrongFalsely : Prop := fnExactLowestRow.holds Try.pinned (OpenSpec.ofChange fnExactLowestWrong)

/-- 'laws.FnExactBelow': WHATEVER THE INPUT: true; the input reads as it did. -/
def fnExactBelowSpec : ChangeSpec := { name := "fnExactBelow", fn := fun _ => fun
  | [d1, d2] => { results := [.lit (.bool true)], args := [d1, d2] }
  | _ => none }
def fnExactBelowRow : OpenClaim := { program := "ytjnfdcojccgfoaa", sum := "f8eb61514bf66cd7fcfc0bce65090090c7956b97ccf5774e2853df9ca263ee34", func := "loop.example/g00454/laws.FnExactBelow", spec := "fnExactBelow", recurses := true, apart := false }
def FnExactBelowSaid : Prop := fnExactBelowRow.holds Try.pinned (OpenSpec.ofChange fnExactBelowSpec)

/-- ITS FALSE NEIGHBOUR: 'it returns false'. Refute it at one input. -/
def fnExactBelowWrong : ChangeSpec := { name := "fnExactBelow", fn := fun _ => fun
  | [d1, d2] => { results := [.lit (.bool false)], args := [d1, d2] }
  | _ => none }
def FnExactBelowWrongFalsely : Prop := fnExactBelowRow.holds Try.pinned (OpenSpec.ofChange fnExactBelowWrong)

/-- 'laws.FnTopo': WHATEVER THE INPUT: true; the input reads as it did. -/
def fnTopoSpec : ChangeSpec := { name := "fnTopo", fn := fun _ => fun
  | [d] => { results := [.lit (.bool true)], args := [d] }
  | _ => none }
def fnTopoRow : OpenClaim := { program := "ytjnfdcojccgfoaa", sum := "f8eb61514bf66cd7fcfc0bce65090090c7956b97ccf5774e2853df9ca263ee34", func := "loop.example/g00454/laws.FnTopo", spec := "fnTopo", recurses := true, apart := false }
def FnTopoSaid : Prop := fnTopoRow.holds Try.pinned (OpenSpec.ofChange fnTopoSpec)

/-- ITS FALSE NEIGHBOUR: 'it returns false'. Refute it at one input. -/
def fnTopoWrong : ChangeSpec := { name := "fnTopo", fn := fun _ => fun
  | [d] => { results := [.lit (.bool false)], args := [d] }
  | _ => none }
def FnTopoWrongFalsely : Prop := fnTopoRow.holds Try.pinned (OpenSpec.ofChange fnTopoWrong)

/-- 'laws.FnCut': WHATEVER THE INPUT: true; the input reads as it did. -/
def fnCutSpec : ChangeSpec := { name := "fnCut", fn := fun _ => fun
  | [d] => { results := [.lit (.bool true)], args := [d] }
  | _ => none }
def fnCutRow : OpenClaim := { program := "ytjnfdcojccgfoaa", sum := "f8eb61514bf66cd7fcfc0bce65090090c7956b97ccf5774e2853df9ca263ee34", func := "loop.example/g00454/laws.FnCut", spec := "fnCut", apart := false }
def FnCutSaid : Prop := fnCutRow.holds Try.pinned (OpenSpec.ofChange fnCutSpec)

/-- ITS FALSE NEIGHBOUR: 'it returns false'. Refute it at one input. -/
def fnCutWrong : ChangeSpec := { name := "fnCut", fn := fun _ => fun
  | [d] => { results := [.lit (.bool false)], args := [d] }
  | _ => none }
def FnCutWrongFalsely : Prop := fnCutRow.holds Try.pinned (OpenSpec.ofChange fnCutWrong)

/-- 'laws.FnMin': WHATEVER THE INPUT: true; the input reads as it did. -/
def fnMinSpec : ChangeSpec := { name := "fnMin", fn := fun _ => fun
  | [d] => { results := [.lit (.bool true)], args := [d] }
  | _ => none }
def fnMinRow : OpenClaim := { program := "ytjnfdcojccgfoaa", sum := "f8eb61514bf66cd7fcfc0bce65090090c7956b97ccf5774e2853df9ca263ee34", func := "loop.example/g00454/laws.FnMin", spec := "fnMin", apart := false }
def FnMinSaid : Prop := fnMinRow.holds Try.pinned (OpenSpec.ofChange fnMinSpec)

/-- ITS FALSE NEIGHBOUR: 'it returns false'. Refute it at one input. -/
def fnMinWrong : ChangeSpec := { name := "fnMin", fn := fun _ => fun
  | [d] => { results := [.lit (.bool false)], args := [d] }
  | _ => none }
def FnMinWrongFalsely : Prop := fnMinRow.holds Try.pinned (OpenSpec.ofChange fnMinWrong)

/-- 'laws.FnTree': WHATEVER THE INPUT: true; the input reads as it did. -/
def fnTreeSpec : ChangeSpec := { name := "fnTree", fn := fun _ => fun
  | [d] => { results := [.lit (.bool true)], args := [d] }
  | _ => none }
def fnTreeRow : OpenClaim := { program := "ytjnfdcojccgfoaa", sum := "f8eb61514bf66cd7fcfc0bce65090090c7956b97ccf5774e2853df9ca263ee34", func := "loop.example/g00454/laws.FnTree", spec := "fnTree", recurses := true, apart := false }
def FnTreeSaid : Prop := fnTreeRow.holds Try.pinned (OpenSpec.ofChange fnTreeSpec)

/-- ITS FALSE NEIGHBOUR: 'it returns false'. Refute it at one input. -/
def fnTreeWrong : ChangeSpec := { name := "fnTree", fn := fun _ => fun
  | [d] => { results := [.lit (.bool false)], args := [d] }
  | _ => none }
def FnTreeWrongFalsely : Prop := fnTreeRow.holds Try.pinned (OpenSpec.ofChange fnTreeWrong)

/-- 'laws.FnExactTextTopo': WHATEVER THE INPUT: true; the input reads as it did. -/
def fnExactTextTopoSpec : ChangeSpec := { name := "fnExactTextTopo", fn := fun _ => fun
  | [d] => { results := [.lit (.bool true)], args := [d] }
  | _ => none }
def fnExactTextTopoRow : OpenClaim := { program := "ytjnfdcojccgfoaa", sum := "f8eb61514bf66cd7fcfc0bce65090090c7956b97ccf5774e2853df9ca263ee34", func := "loop.example/g00454/laws.FnExactTextTopo", spec := "fnExactTextTopo", recurses := true, apart := false }
def FnExactTextTopoSaid : Prop := fnExactTextTopoRow.holds Try.pinned (OpenSpec.ofChange fnExactTextTopoSpec)

/-- ITS FALSE NEIGHBOUR: 'it returns false'. Refute it at one input. -/
def fnExactTextTopoWrong : ChangeSpec := { name := "fnExactTextTopo", fn := fun _ => fun
  | [d] => { results := [.lit (.bool false)], args := [d] }
  | _ => none }
def FnExactTextTopoWrongFalsely : Prop := fnExactTextTopoRow.holds Try.pinned (OpenSpec.ofChange fnExactTextTopoWrong)

/-- 'laws.FnExactRoomOk': WHATEVER THE INPUT: true; the input reads as it did. -/
def fnExactRoomOkSpec : ChangeSpec := { name := "fnExactRoomOk", fn := fun _ => fun
  | [d] => { results := [.lit (.bool true)], args := [d] }
  | _ => none }
def fnExactRoomOkRow : OpenClaim := { program := "ytjnfdcojccgfoaa", sum := "f8eb61514bf66cd7fcfc0bce65090090c7956b97ccf5774e2853df9ca263ee34", func := "loop.example/g00454/laws.FnExactRoomOk", spec := "fnExactRoomOk", recurses := true, apart := false }
def FnExactRoomOkSaid : Prop := fnExactRoomOkRow.holds Try.pinned (OpenSpec.ofChange fnExactRoomOkSpec)

/-- ITS FALSE NEIGHBOUR: 'it returns false'. Refute it at one input. -/
def fnExactRoomOkWrong : ChangeSpec := { name := "fnExactRoomOk", fn := fun _ => fun
  | [d] => { results := [.lit (.bool false)], args := [d] }
  | _ => none }
def FnExactRoomOkWrongFalsely : Prop := fnExactRoomOkRow.holds Try.pinned (OpenSpec.ofChange fnExactRoomOkWrong)

/- THE SECOND FORM. 'bulk': how many values and letters a reading holds, each counted each time it is reached (what is shared counts as often as it is met; a slice's spare places count too). A statement '..UptoSaid' is the law's where the arguments, and the package variables that the reading takes, are together of bulk at most 1048576: NARROWER than '..Said'. Prove '..Said' where nothing that the law and all that it calls make is longer than what came in: it says more and counts as full. Else prove '..UptoSaid'. A law counts once. -/
mutual
def uptoBulk {H : Type} : DataW H → Nat
  | .lit (.string bytes) => bytes.length + 1
  | .lit _ => 1
  | .nil => 1
  | .ptr d => uptoBulk d + 1
  | .slice elems spare => uptoBulkAll elems + uptoBulkAll spare + 1
  | .agg parts => uptoBulkAll parts + 1
  | .iface _ d => uptoBulk d + 1
  | .map entries => uptoBulkEntries entries + 1
  | .held _ => 1
def uptoBulkAll {H : Type} : List (DataW H) → Nat
  | [] => 0
  | d :: r => uptoBulk d + uptoBulkAll r
def uptoBulkEntries {H : Type} : List (Lit × DataW H) → Nat
  | [] => 0
  | x :: r => uptoBulkEntry x + uptoBulkEntries r
def uptoBulkEntry {H : Type} : Lit × DataW H → Nat
  | (.string bytes, d) => bytes.length + uptoBulk d + 1
  | (_, d) => uptoBulk d + 1
 end
def uptoSmall : (H : Type) → List (DataW H) → Bool := fun _ ds => decide (uptoBulkAll ds ≤ 1048576)
def OpenSpec.upto (s : _root_.Go.ChangeSpec) : _root_.Go.OpenSpec := { _root_.Go.OpenSpec.ofChange s with cond := some uptoSmall }

/-- 'laws.FnParts', WHERE WHAT IT READS IS OF BULK AT MOST 1048576: true; the input reads as it did. -/
def fnPartsUptoRow : OpenClaim := { program := "ytjnfdcojccgfoaa", sum := "f8eb61514bf66cd7fcfc0bce65090090c7956b97ccf5774e2853df9ca263ee34", func := "loop.example/g00454/laws.FnParts", spec := "fnParts", apart := false, narrowed := true }
def FnPartsUptoSaid : Prop := fnPartsUptoRow.holds Try.pinned (OpenSpec.upto fnPartsSpec)

/-- 'laws.FnExactProfOk', WHERE WHAT IT READS IS OF BULK AT MOST 1048576: true; the input reads as it did. -/
def fnExactProfOkUptoRow : OpenClaim := { program := "ytjnfdcojccgfoaa", sum := "f8eb61514bf66cd7fcfc0bce65090090c7956b97ccf5774e2853df9ca263ee34", func := "loop.example/g00454/laws.FnExactProfOk", spec := "fnExactProfOk", apart := false, narrowed := true }
def FnExactProfOkUptoSaid : Prop := fnExactProfOkUptoRow.holds Try.pinned (OpenSpec.upto fnExactProfOkSpec)

/-- 'laws.FnExactProfNew', WHERE WHAT IT READS IS OF BULK AT MOST 1048576: true; the input reads as it did. -/
def fnExactProfNewUptoRow : OpenClaim := { program := "ytjnfdcojccgfoaa", sum := "f8eb61514bf66cd7fcfc0bce65090090c7956b97ccf5774e2853df9ca263ee34", func := "loop.example/g00454/laws.FnExactProfNew", spec := "fnExactProfNew", apart := false, narrowed := true }
def FnExactProfNewUptoSaid : Prop := fnExactProfNewUptoRow.holds Try.pinned (OpenSpec.upto fnExactProfNewSpec)

/-- 'laws.FnExactQueueOk', WHERE WHAT IT READS IS OF BULK AT MOST 1048576: true; the input reads as it did. -/
def fnExactQueueOkUptoRow : OpenClaim := { program := "ytjnfdcojccgfoaa", sum := "f8eb61514bf66cd7fcfc0bce65090090c7956b97ccf5774e2853df9ca263ee34", func := "loop.example/g00454/laws.FnExactQueueOk", spec := "fnExactQueueOk", unfollowed := true, recurses := true, apart := false, narrowed := true }
def FnExactQueueOkUptoSaid : Prop := fnExactQueueOkUptoRow.holds Try.pinned (OpenSpec.upto fnExactQueueOkSpec)

/-- 'laws.FnExactSameProf', WHERE WHAT IT READS IS OF BULK AT MOST 1048576: true; the input reads as it did. -/
def fnExactSameProfUptoRow : OpenClaim := { program := "ytjnfdcojccgfoaa", sum := "f8eb61514bf66cd7fcfc0bce65090090c7956b97ccf5774e2853df9ca263ee34", func := "loop.example/g00454/laws.FnExactSameProf", spec := "fnExactSameProf", apart := false, narrowed := true }
def FnExactSameProfUptoSaid : Prop := fnExactSameProfUptoRow.holds Try.pinned (OpenSpec.upto fnExactSameProfSpec)

/-- 'laws.FnExactProfAt', WHERE WHAT IT READS IS OF BULK AT MOST 1048576: true; the input reads as it did. -/
def fnExactProfAtUptoRow : OpenClaim := { program := "ytjnfdcojccgfoaa", sum := "f8eb61514bf66cd7fcfc0bce65090090c7956b97ccf5774e2853df9ca263ee34", func := "loop.example/g00454/laws.FnExactProfAt", spec := "fnExactProfAt", apart := false, narrowed := true }
def FnExactProfAtUptoSaid : Prop := fnExactProfAtUptoRow.holds Try.pinned (OpenSpec.upto fnExactProfAtSpec)

/-- 'laws.FnVec', WHERE WHAT IT READS IS OF BULK AT MOST 1048576: true; the input reads as it did. -/
def fnVecUptoRow : OpenClaim := { program := "ytjnfdcojccgfoaa", sum := "f8eb61514bf66cd7fcfc0bce65090090c7956b97ccf5774e2853df9ca263ee34", func := "loop.example/g00454/laws.FnVec", spec := "fnVec", apart := false, narrowed := true }
def FnVecUptoSaid : Prop := fnVecUptoRow.holds Try.pinned (OpenSpec.upto fnVecSpec)

/-- 'laws.FnExactProfTimes', WHERE WHAT IT READS IS OF BULK AT MOST 1048576: true; the input reads as it did. -/
def fnExactProfTimesUptoRow : OpenClaim := { program := "ytjnfdcojccgfoaa", sum := "f8eb61514bf66cd7fcfc0bce65090090c7956b97ccf5774e2853df9ca263ee34", func := "loop.example/g00454/laws.FnExactProfTimes", spec := "fnExactProfTimes", apart := false, narrowed := true }
def FnExactProfTimesUptoSaid : Prop := fnExactProfTimesUptoRow.holds Try.pinned (OpenSpec.upto fnExactProfTimesSpec)

/-- 'laws.FnExactProfMin', WHERE WHAT IT READS IS OF BULK AT MOST 1048576: true; the input reads as it did. -/
def fnExactProfMinUptoRow : OpenClaim := { program := "ytjnfdcojccgfoaa", sum := "f8eb61514bf66cd7fcfc0bce65090090c7956b97ccf5774e2853df9ca263ee34", func := "loop.example/g00454/laws.FnExactProfMin", spec := "fnExactProfMin", apart := false, narrowed := true }
def FnExactProfMinUptoSaid : Prop := fnExactProfMinUptoRow.holds Try.pinned (OpenSpec.upto fnExactProfMinSpec)

/-- 'laws.FnExactProfCut', WHERE WHAT IT READS IS OF BULK AT MOST 1048576: true; the input reads as it did. -/
def fnExactProfCutUptoRow : OpenClaim := { program := "ytjnfdcojccgfoaa", sum := "f8eb61514bf66cd7fcfc0bce65090090c7956b97ccf5774e2853df9ca263ee34", func := "loop.example/g00454/laws.FnExactProfCut", spec := "fnExactProfCut", apart := false, narrowed := true }
def FnExactProfCutUptoSaid : Prop := fnExactProfCutUptoRow.holds Try.pinned (OpenSpec.upto fnExactProfCutSpec)

/-- 'laws.FnExactTopoOk', WHERE WHAT IT READS IS OF BULK AT MOST 1048576: true; the input reads as it did. -/
def fnExactTopoOkUptoRow : OpenClaim := { program := "ytjnfdcojccgfoaa", sum := "f8eb61514bf66cd7fcfc0bce65090090c7956b97ccf5774e2853df9ca263ee34", func := "loop.example/g00454/laws.FnExactTopoOk", spec := "fnExactTopoOk", recurses := true, apart := false, narrowed := true }
def FnExactTopoOkUptoSaid : Prop := fnExactTopoOkUptoRow.holds Try.pinned (OpenSpec.upto fnExactTopoOkSpec)

/-- 'laws.FnExactLevel', WHERE WHAT IT READS IS OF BULK AT MOST 1048576: true; the input reads as it did. -/
def fnExactLevelUptoRow : OpenClaim := { program := "ytjnfdcojccgfoaa", sum := "f8eb61514bf66cd7fcfc0bce65090090c7956b97ccf5774e2853df9ca263ee34", func := "loop.example/g00454/laws.FnExactLevel", spec := "fnExactLevel", recurses := true, apart := false, narrowed := true }
def FnExactLevelUptoSaid : Prop := fnExactLevelUptoRow.holds Try.pinned (OpenSpec.upto fnExactLevelSpec)

/-- 'laws.FnExactLeaves', WHERE WHAT IT READS IS OF BULK AT MOST 1048576: true; the input reads as it did. -/
def fnExactLeavesUptoRow : OpenClaim := { program := "ytjnfdcojccgfoaa", sum := "f8eb61514bf66cd7fcfc0bce65090090c7956b97ccf5774e2853df9ca263ee34", func := "loop.example/g00454/laws.FnExactLeaves", spec := "fnExactLeaves", recurses := true, apart := false, narrowed := true }
def FnExactLeavesUptoSaid : Prop := fnExactLeavesUptoRow.holds Try.pinned (OpenSpec.upto fnExactLeavesSpec)

/-- 'laws.FnExactTopoText', WHERE WHAT IT READS IS OF BULK AT MOST 1048576: true; the input reads as it did. -/
def fnExactTopoTextUptoRow : OpenClaim := { program := "ytjnfdcojccgfoaa", sum := "f8eb61514bf66cd7fcfc0bce65090090c7956b97ccf5774e2853df9ca263ee34", func := "loop.example/g00454/laws.FnExactTopoText", spec := "fnExactTopoText", recurses := true, apart := false, narrowed := true }
def FnExactTopoTextUptoSaid : Prop := fnExactTopoTextUptoRow.holds Try.pinned (OpenSpec.upto fnExactTopoTextSpec)

/-- 'laws.FnExactAbove', WHERE WHAT IT READS IS OF BULK AT MOST 1048576: true; the input reads as it did. -/
def fnExactAboveUptoRow : OpenClaim := { program := "ytjnfdcojccgfoaa", sum := "f8eb61514bf66cd7fcfc0bce65090090c7956b97ccf5774e2853df9ca263ee34", func := "loop.example/g00454/laws.FnExactAbove", spec := "fnExactAbove", recurses := true, apart := false, narrowed := true }
def FnExactAboveUptoSaid : Prop := fnExactAboveUptoRow.holds Try.pinned (OpenSpec.upto fnExactAboveSpec)

/-- 'laws.FnExactLowest', WHERE WHAT IT READS IS OF BULK AT MOST 1048576: true; the input reads as it did. -/
def fnExactLowestUptoRow : OpenClaim := { program := "ytjnfdcojccgfoaa", sum := "f8eb61514bf66cd7fcfc0bce65090090c7956b97ccf5774e2853df9ca263ee34", func := "loop.example/g00454/laws.FnExactLowest", spec := "fnExactLowest", recurses := true, apart := false, narrowed := true }
def FnExactLowestUptoSaid : Prop := fnExactLowestUptoRow.holds Try.pinned (OpenSpec.upto fnExactLowestSpec)

/-- 'laws.FnExactBelow', WHERE WHAT IT READS IS OF BULK AT MOST 1048576: true; the input reads as it did. -/
def fnExactBelowUptoRow : OpenClaim := { program := "ytjnfdcojccgfoaa", sum := "f8eb61514bf66cd7fcfc0bce65090090c7956b97ccf5774e2853df9ca263ee34", func := "loop.example/g00454/laws.FnExactBelow", spec := "fnExactBelow", recurses := true, apart := false, narrowed := true }
def FnExactBelowUptoSaid : Prop := fnExactBelowUptoRow.holds Try.pinned (OpenSpec.upto fnExactBelowSpec)

/-- 'laws.FnTopo', WHERE WHAT IT READS IS OF BULK AT MOST 1048576: true; the input reads as it did. -/
def fnTopoUptoRow : OpenClaim := { program := "ytjnfdcojccgfoaa", sum := "f8eb61514bf66cd7fcfc0bce65090090c7956b97ccf5774e2853df9ca263ee34", func := "loop.example/g00454/laws.FnTopo", spec := "fnTopo", recurses := true, apart := false, narrowed := true }
def FnTopoUptoSaid : Prop := fnTopoUptoRow.holds Try.pinned (OpenSpec.upto fnTopoSpec)

/-- 'laws.FnCut', WHERE WHAT IT READS IS OF BULK AT MOST 1048576: true; the input reads as it did. -/
def fnCutUptoRow : OpenClaim := { program := "ytjnfdcojccgfoaa", sum := "f8eb61514bf66cd7fcfc0bce65090090c7956b97ccf5774e2853df9ca263ee34", func := "loop.example/g00454/laws.FnCut", spec := "fnCut", apart := false, narrowed := true }
def FnCutUptoSaid : Prop := fnCutUptoRow.holds Try.pinned (OpenSpec.upto fnCutSpec)

/-- 'laws.FnMin', WHERE WHAT IT READS IS OF BULK AT MOST 1048576: true; the input reads as it did. -/
def fnMinUptoRow : OpenClaim := { program := "ytjnfdcojccgfoaa", sum := "f8eb61514bf66cd7fcfc0bce65090090c7956b97ccf5774e2853df9ca263ee34", func := "loop.example/g00454/laws.FnMin", spec := "fnMin", apart := false, narrowed := true }
def FnMinUptoSaid : Prop := fnMinUptoRow.holds Try.pinned (OpenSpec.upto fnMinSpec)

/-- 'laws.FnTree', WHERE WHAT IT READS IS OF BULK AT MOST 1048576: true; the input reads as it did. -/
def fnTreeUptoRow : OpenClaim := { program := "ytjnfdcojccgfoaa", sum := "f8eb61514bf66cd7fcfc0bce65090090c7956b97ccf5774e2853df9ca263ee34", func := "loop.example/g00454/laws.FnTree", spec := "fnTree", recurses := true, apart := false, narrowed := true }
def FnTreeUptoSaid : Prop := fnTreeUptoRow.holds Try.pinned (OpenSpec.upto fnTreeSpec)

/-- 'laws.FnExactTextTopo', WHERE WHAT IT READS IS OF BULK AT MOST 1048576: true; the input reads as it did. -/
def fnExactTextTopoUptoRow : OpenClaim := { program := "ytjnfdcojccgfoaa", sum := "f8eb61514bf66cd7fcfc0bce65090090c7956b97ccf5774e2853df9ca263ee34", func := "loop.example/g00454/laws.FnExactTextTopo", spec := "fnExactTextTopo", recurses := true, apart := false, narrowed := true }
def FnExactTextTopoUptoSaid : Prop := fnExactTextTopoUptoRow.holds Try.pinned (OpenSpec.upto fnExactTextTopoSpec)

/-- 'laws.FnExactRoomOk', WHERE WHAT IT READS IS OF BULK AT MOST 1048576: true; the input reads as it did. -/
def fnExactRoomOkUptoRow : OpenClaim := { program := "ytjnfdcojccgfoaa", sum := "f8eb61514bf66cd7fcfc0bce65090090c7956b97ccf5774e2853df9ca263ee34", func := "loop.example/g00454/laws.FnExactRoomOk", spec := "fnExactRoomOk", recurses := true, apart := false, narrowed := true }
def FnExactRoomOkUptoSaid : Prop := fnExactRoomOkUptoRow.holds Try.pinned (OpenSpec.upto fnExactRoomOkSpec)

end Rows
end Go.Proofs.Ytjnfdcojccgfoaa
