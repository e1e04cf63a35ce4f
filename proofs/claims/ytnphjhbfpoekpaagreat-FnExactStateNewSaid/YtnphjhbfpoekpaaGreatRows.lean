/-
  No cell of these rows narrows 'for every input' (looked for: loops, veiled, ifaces, maps, wideKeys, modest, calm, conditions, laid).
  DERIVED. THE GIVEN ROWS OF THIS SEAT. 8 by the template 'for every input the law returns true; each argument reads behind the call as it read before'; 0 by the template 'total and deterministic' (their statements: YtnphjhbfpoekpaaGreatTotals.lean).
  GIVEN WITH THE SEED: the statements are not yours to turn. If you find one false, say at which input.
  Laid BY PROGRAM, IN A SANDBOX (cutbox-rows.mjs): the forced cells as the released guide's own fill.sh prints them over the translation 950850e44d2d8a33… (all of the seat's roots in one cut). By AI agents, Wed Nov 11 2026. No macro, syntax, notation, axiom, sorry.
-/
import Derived.Test.YtnphjhbfpoekpaaGreatChecked
import GoSem.Claim
import GoSem.ClaimJoined
import GoSem.ClaimMapViews
import Derived.JoinedTies
import Derived.KernelRfl
namespace Go.Proofs.YtnphjhbfpoekpaaGreat
/- THE CELL 'sum', in the pinned program and in every row, IS THE sha256 OF THE DUMP (.gsa) THAT YtnphjhbfpoekpaaGreatProg.lean LOADS. Nothing in Lean hashes anything: it is a label: what it is worth is what the hold of that sum in a sandbox is worth. -/
noncomputable def Tryz.pinned : Pinned := { name := "ytnphjhbfpoekpaagreat", sum := "950850e44d2d8a33606a851b8f05ea75fc7a83707facf07c5a6050c346af6723", checked := Tryz.checked }
namespace Rows
def none {H : Type} : Left H := { results := [], args := [] }

/-- 'laws.FnPlan': WHATEVER THE INPUT: true; the input reads as it did. -/
def fnPlanSpec : ChangeSpec := { name := "fnPlan", fn := fun _ => fun
  | [d] => { results := [.lit (.bool true)], args := [d] }
  | _ => none }
def fnPlanRow : OpenClaim := { program := "ytnphjhbfpoekpaagreat", sum := "950850e44d2d8a33606a851b8f05ea75fc7a83707facf07c5a6050c346af6723", func := "loop.example/g00454/laws.FnPlan", spec := "fnPlan", unfollowed := true, recurses := true, apart := false }
def FnPlanSaid : Prop := fnPlanRow.holds Tryz.pinned (OpenSpec.ofChange fnPlanSpec)

/-- ITS FALSE NEIGHBOUR: 'it returns false'. Refute it at one input. -/
def fnPlanWrong : ChangeSpec := { name := "fnPlan", fn := fun _ => fun
  | [d] => { results := [.lit (.bool false)], args := [d] }
  | _ => none }
def FnPlanWrongFalsely : Prop := fnPlanRow.holds Tryz.pinned (OpenSpec.ofChange fnPlanWrong)

/-- 'laws.FnExactKept': WHATEVER THE INPUT: true; the input reads as it did. -/
def fnExactKeptSpec : ChangeSpec := { name := "fnExactKept", fn := fun _ => fun
  | [d1, d2, d3] => { results := [.lit (.bool true)], args := [d1, d2, d3] }
  | _ => none }
def fnExactKeptRow : OpenClaim := { program := "ytnphjhbfpoekpaagreat", sum := "950850e44d2d8a33606a851b8f05ea75fc7a83707facf07c5a6050c346af6723", func := "loop.example/g00454/laws.FnExactKept", spec := "fnExactKept", unfollowed := true, recurses := true, apart := false }
def FnExactKeptSaid : Prop := fnExactKeptRow.holds Tryz.pinned (OpenSpec.ofChange fnExactKeptSpec)

/-- ITS FALSE NEIGHBOUR: 'it returns false'. Refute it at one input. -/
def fnExactKeptWrong : ChangeSpec := { name := "fnExactKept", fn := fun _ => fun
  | [d1, d2, d3] => { results := [.lit (.bool false)], args := [d1, d2, d3] }
  | _ => none }
def FnExactKeptWrongFalsely : Prop := fnExactKeptRow.holds Tryz.pinned (OpenSpec.ofChange fnExactKeptWrong)

/-- 'laws.FnExactStateOk': WHATEVER THE INPUT: true; the input reads as it did. -/
def fnExactStateOkSpec : ChangeSpec := { name := "fnExactStateOk", fn := fun _ => fun
  | [d] => { results := [.lit (.bool true)], args := [d] }
  | _ => none }
def fnExactStateOkRow : OpenClaim := { program := "ytnphjhbfpoekpaagreat", sum := "950850e44d2d8a33606a851b8f05ea75fc7a83707facf07c5a6050c346af6723", func := "loop.example/g00454/laws.FnExactStateOk", spec := "fnExactStateOk", unfollowed := true, recurses := true, apart := false }
def FnExactStateOkSaid : Prop := fnExactStateOkRow.holds Tryz.pinned (OpenSpec.ofChange fnExactStateOkSpec)

/-- ITS FALSE NEIGHBOUR: 'it returns false'. Refute it at one input. -/
def fnExactStateOkWrong : ChangeSpec := { name := "fnExactStateOk", fn := fun _ => fun
  | [d] => { results := [.lit (.bool false)], args := [d] }
  | _ => none }
def FnExactStateOkWrongFalsely : Prop := fnExactStateOkRow.holds Tryz.pinned (OpenSpec.ofChange fnExactStateOkWrong)

/-- 'laws.FnExactNextEnd': WHATEVER THE INPUT: true; the input reads as it did. -/
def fnExactNextEndSpec : ChangeSpec := { name := "fnExactNextEnd", fn := fun _ => fun
  | [d] => { results := [.lit (.bool true)], args := [d] }
  | _ => none }
def fnExactNextEndRow : OpenClaim := { program := "ytnphjhbfpoekpaagreat", sum := "950850e44d2d8a33606a851b8f05ea75fc7a83707facf07c5a6050c346af6723", func := "loop.example/g00454/laws.FnExactNextEnd", spec := "fnExactNextEnd", unfollowed := true, recurses := true, apart := false }
def FnExactNextEndSaid : Prop := fnExactNextEndRow.holds Tryz.pinned (OpenSpec.ofChange fnExactNextEndSpec)

/-- ITS FALSE NEIGHBOUR: 'it returns false'. Refute it at one input. -/
def fnExactNextEndWrong : ChangeSpec := { name := "fnExactNextEnd", fn := fun _ => fun
  | [d] => { results := [.lit (.bool false)], args := [d] }
  | _ => none }
def FnExactNextEndWrongFalsely : Prop := fnExactNextEndRow.holds Tryz.pinned (OpenSpec.ofChange fnExactNextEndWrong)

/-- 'laws.FnExactRoomOf': WHATEVER THE INPUT: true; the input reads as it did. -/
def fnExactRoomOfSpec : ChangeSpec := { name := "fnExactRoomOf", fn := fun _ => fun
  | [d] => { results := [.lit (.bool true)], args := [d] }
  | _ => none }
def fnExactRoomOfRow : OpenClaim := { program := "ytnphjhbfpoekpaagreat", sum := "950850e44d2d8a33606a851b8f05ea75fc7a83707facf07c5a6050c346af6723", func := "loop.example/g00454/laws.FnExactRoomOf", spec := "fnExactRoomOf", unfollowed := true, recurses := true, apart := false }
def FnExactRoomOfSaid : Prop := fnExactRoomOfRow.holds Tryz.pinned (OpenSpec.ofChange fnExactRoomOfSpec)

/-- ITS FALSE NEIGHBOUR: 'it returns false'. Refute it at one input. -/
def fnExactRoomOfWrong : ChangeSpec := { name := "fnExactRoomOf", fn := fun _ => fun
  | [d] => { results := [.lit (.bool false)], args := [d] }
  | _ => none }
def FnExactRoomOfWrongFalsely : Prop := fnExactRoomOfRow.holds Tryz.pinned (OpenSpec.ofChange fnExactRoomOfWrong)

/-- 'laws.FnExactStateNew': WHATEVER THE INPUT: true; the input reads as it did. -/
def fnExactStateNewSpec : ChangeSpec := { name := "fnExactStateNew", fn := fun _ => fun
  | [d1, d2, d3] => { results := [.lit (.bool true)], args := [d1, d2, d3] }
  | _ => none }
def fnExactStateNewRow : OpenClaim := { program := "ytnphjhbfpoekpaagreat", sum := "950850e44d2d8a33606a851b8f05ea75fc7a83707facf07c5a6050c346af6723", func := "loop.example/g00454/laws.FnExactStateNew", spec := "fnExactStateNew", unfollowed := true, recurses := true, apart := false }
def FnExactStateNewSaid : Prop := fnExactStateNewRow.holds Tryz.pinned (OpenSpec.ofChange fnExactStateNewSpec)

/-- ITS FALSE NEIGHBOUR: 'it returns false'. Refute it at one input. -/
def fnExactStateNewWrong : ChangeSpec := { name := "fnExactStateNew", fn := fun _ => fun
  | [d1, d2, d3] => { results := [.lit (.bool false)], args := [d1, d2, d3] }
  | _ => none }
def FnExactStateNewWrongFalsely : Prop := fnExactStateNewRow.holds Tryz.pinned (OpenSpec.ofChange fnExactStateNewWrong)

/-- 'laws.FnLower': WHATEVER THE INPUT: true; the input reads as it did. -/
def fnLowerSpec : ChangeSpec := { name := "fnLower", fn := fun _ => fun
  | [d] => { results := [.lit (.bool true)], args := [d] }
  | _ => none }
def fnLowerRow : OpenClaim := { program := "ytnphjhbfpoekpaagreat", sum := "950850e44d2d8a33606a851b8f05ea75fc7a83707facf07c5a6050c346af6723", func := "loop.example/g00454/laws.FnLower", spec := "fnLower", unfollowed := true, recurses := true, apart := false }
def FnLowerSaid : Prop := fnLowerRow.holds Tryz.pinned (OpenSpec.ofChange fnLowerSpec)

/-- ITS FALSE NEIGHBOUR: 'it returns false'. Refute it at one input. -/
def fnLowerWrong : ChangeSpec := { name := "fnLower", fn := fun _ => fun
  | [d] => { results := [.lit (.bool false)], args := [d] }
  | _ => none }
def FnLowerWrongFalsely : Prop := fnLowerRow.holds Tryz.pinned (OpenSpec.ofChange fnLowerWrong)

/-- 'laws.FnExactPlan': WHATEVER THE INPUT: true; the input reads as it did. -/
def fnExactPlanSpec : ChangeSpec := { name := "fnExactPlan", fn := fun _ => fun
  | [d1, d2, d3, d4] => { results := [.lit (.bool true)], args := [d1, d2, d3, d4] }
  | _ => none }
def fnExactPlanRow : OpenClaim := { program := "ytnphjhbfpoekpaagreat", sum := "950850e44d2d8a33606a851b8f05ea75fc7a83707facf07c5a6050c346af6723", func := "loop.example/g00454/laws.FnExactPlan", spec := "fnExactPlan", unfollowed := true, recurses := true, apart := false }
def FnExactPlanSaid : Prop := fnExactPlanRow.holds Tryz.pinned (OpenSpec.ofChange fnExactPlanSpec)

/-- ITS FALSE NEIGHBOUR: 'it returns false'. Refute it at one input. -/
def fnExactPlanWrong : ChangeSpec := { name := "fnExactPlan", fn := fun _ => fun
  | [d1, d2, d3, d4] => { results := [.lit (.bool false)], args := [d1, d2, d3, d4] }
  | _ => none }
def FnExactPlanWrongFalsely : Prop := fnExactPlanRow.holds Tryz.pinned (OpenSpec.ofChange fnExactPlanWrong)

/- THE SECOND FORM. 'bulk': how many values and letters a reading holds, each counted each time it is reached (what is shared counts as often as it is met; a slice's spare places count too). A statement '..UptoSaid' is the law's where the arguments, and the package variables that the reading takes, are together of bulk at most 1048576: NARROWER than '..Said'. Prove '..Said' where nothing that the law and all that it calls make is longer than what came in: it says more and counts as full. Else prove '..UptoSaid'. A law counts once. -/
mutual
def uptoBulk {H : Type} : DataW H → Nat
  | .lit (.string bytes) => bytes.length + 1
  | .lit _ => 1
  | .nil => 1
  | .ptr d => uptoBulk d + 1
  | .slice elems spare => uptoBulkAll elems + uptoBulkAll spare + 1
  | .agg parts => uptoBulkAll parts + 1
  | .iface _ d => uptoBulk d + 1
  | .map entries => uptoBulkEntries entries + 1
  | .held _ => 1
def uptoBulkAll {H : Type} : List (DataW H) → Nat
  | [] => 0
  | d :: r => uptoBulk d + uptoBulkAll r
def uptoBulkEntries {H : Type} : List (Lit × DataW H) → Nat
  | [] => 0
  | x :: r => uptoBulkEntry x + uptoBulkEntries r
def uptoBulkEntry {H : Type} : Lit × DataW H → Nat
  | (.string bytes, d) => bytes.length + uptoBulk d + 1
  | (_, d) => uptoBulk d + 1
 end
def uptoSmall : (H : Type) → List (DataW H) → Bool := fun _ ds => decide (uptoBulkAll ds ≤ 1048576)
def OpenSpec.upto (s : _root_.Go.ChangeSpec) : _root_.Go.OpenSpec := { _root_.Go.OpenSpec.ofChange s with cond := some uptoSmall }

/-- 'laws.FnPlan', WHERE WHAT IT READS IS OF BULK AT MOST 1048576: true; the input reads as it did. -/
def fnPlanUptoRow : OpenClaim := { program := "ytnphjhbfpoekpaagreat", sum := "950850e44d2d8a33606a851b8f05ea75fc7a83707facf07c5a6050c346af6723", func := "loop.example/g00454/laws.FnPlan", spec := "fnPlan", unfollowed := true, recurses := true, apart := false, narrowed := true }
def FnPlanUptoSaid : Prop := fnPlanUptoRow.holds Tryz.pinned (OpenSpec.upto fnPlanSpec)

/-- 'laws.FnExactKept', WHERE WHAT IT READS IS OF BULK AT MOST 1048576: true; the input reads as it did. -/
def fnExactKeptUptoRow : OpenClaim := { program := "ytnphjhbfpoekpaagreat", sum := "950850e44d2d8a33606a851b8f05ea75fc7a83707facf07c5a6050c346af6723", func := "loop.example/g00454/laws.FnExactKept", spec := "fnExactKept", unfollowed := true, recurses := true, apart := false, narrowed := true }
def FnExactKeptUptoSaid : Prop := fnExactKeptUptoRow.holds Tryz.pinned (OpenSpec.upto fnExactKeptSpec)

/-- 'laws.FnExactStateOk', WHERE WHAT IT READS IS OF BULK AT MOST 1048576: true; the input reads as it did. -/
def fnExactStateOkUptoRow : OpenClaim := { program := "ytnphjhbfpoekpaagreat", sum := "950850e44d2d8a33606a851b8f05ea75fc7a83707facf07c5a6050c346af6723", func := "loop.example/g00454/laws.FnExactStateOk", spec := "fnExactStateOk", unfollowed := true, recurses := true, apart := false, narrowed := true }
def FnExactStateOkUptoSaid : Prop := fnExactStateOkUptoRow.holds Tryz.pinned (OpenSpec.upto fnExactStateOkSpec)

/-- 'laws.FnExactNextEnd', WHERE WHAT IT READS IS OF BULK AT MOST 1048576: true; the input reads as it did. -/
def fnExactNextEndUptoRow : OpenClaim := { program := "ytnphjhbfpoekpaagreat", sum := "950850e44d2d8a33606a851b8f05ea75fc7a83707facf07c5a6050c346af6723", func := "loop.example/g00454/laws.FnExactNextEnd", spec := "fnExactNextEnd", unfollowed := true, recurses := true, apart := false, narrowed := true }
def FnExactNextEndUptoSaid : Prop := fnExactNextEndUptoRow.holds Tryz.pinned (OpenSpec.upto fnExactNextEndSpec)

/-- 'laws.FnExactRoomOf', WHERE WHAT IT READS IS OF BULK AT MOST 1048576: true; the input reads as it did. -/
def fnExactRoomOfUptoRow : OpenClaim := { program := "ytnphjhbfpoekpaagreat", sum := "950850e44d2d8a33606a851b8f05ea75fc7a83707facf07c5a6050c346af6723", func := "loop.example/g00454/laws.FnExactRoomOf", spec := "fnExactRoomOf", unfollowed := true, recurses := true, apart := false, narrowed := true }
def FnExactRoomOfUptoSaid : Prop := fnExactRoomOfUptoRow.holds Tryz.pinned (OpenSpec.upto fnExactRoomOfSpec)

/-- 'laws.FnExactStateNew', WHERE WHAT IT READS IS OF BULK AT MOST 1048576: true; the input reads as it did. -/
def fnExactStateNewUptoRow : OpenClaim := { program := "ytnphjhbfpoekpaagreat", sum := "950850e44d2d8a33606a851b8f05ea75fc7a83707facf07c5a6050c346af6723", func := "loop.example/g00454/laws.FnExactStateNew", spec := "fnExactStateNew", unfollowed := true, recurses := true, apart := false, narrowed := true }
def FnExactStateNewUptoSaid : Prop := fnExactStateNewUptoRow.holds Tryz.pinned (OpenSpec.upto fnExactStateNewSpec)

/-- 'laws.FnLower', WHERE WHAT IT READS IS OF BULK AT MOST 1048576: true; the input reads as it did. -/
def fnLowerUptoRow : OpenClaim := { program := "ytnphjhbfpoekpaagreat", sum := "950850e44d2d8a33606a851b8f05ea75fc7a83707facf07c5a6050c346af6723", func := "loop.example/g00454/laws.FnLower", spec := "fnLower", unfollowed := true, recurses := true, apart := false, narrowed := true }
def FnLowerUptoSaid : Prop := fnLowerUptoRow.holds Tryz.pinned (OpenSpec.upto fnLowerSpec)

/-- 'laws.FnExactPlan', WHERE WHAT IT READS IS OF BULK AT MOST 1048576: true; the input reads as it did. -/
def fnExactPlanUptoRow : OpenClaim := { program := "ytnphjhbfpoekpaagreat", sum := "950850e44d2d8a33606a851b8f05ea75fc7a83707facf07c5a6050c346af6723", func := "loop.example/g00454/laws.FnExactPlan", spec := "fnExactPlan", unfollowed := true, recurses := true, apart := false, narrowed := true }
def FnExactPlanUptoSaid : Prop := fnExactPlanUptoRow.holds Tryz.pinned (OpenSpec.upto fnExactPlanSpec)

end Rows
end Go.Proofs.YtnphjhbfpoekpaaGreat
