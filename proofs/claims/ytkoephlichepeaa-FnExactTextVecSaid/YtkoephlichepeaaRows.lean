/-
  No cell of these rows narrows 'for every input' (looked for: loops, veiled, ifaces, maps, wideKeys, modest, calm, conditions, laid).
  DERIVED. THE GIVEN ROWS OF THIS SEAT. 12 by the template 'for every input the law returns true; each argument reads behind the call as it read before'; 0 by the template 'total and deterministic' (their statements: YtkoephlichepeaaTotals.lean).
  GIVEN WITH THE SEED: the statements are not yours to turn. If you find one false, say at which input.
  Laid BY PROGRAM, IN A SANDBOX (cutbox-rows.mjs): the forced cells as the released guide's own fill.sh prints them over the translation d592be5343fb4855… (all of the seat's roots in one cut). By AI agents, Wed Nov 11 2026. No macro, syntax, notation, axiom, sorry.
-/
import Derived.Test.YtkoephlichepeaaChecked
import GoSem.Claim
import GoSem.ClaimJoined
import GoSem.ClaimMapViews
import Derived.JoinedTies
import Derived.KernelRfl
namespace Go.Proofs.Ytkoephlichepeaa
/- THE CELL 'sum', in the pinned program and in every row, IS THE sha256 OF THE DUMP (.gsa) THAT YtkoephlichepeaaProg.lean LOADS. Nothing in Lean hashes anything: it is a label: what it is worth is what the hold of that sum in a sandbox is worth. -/
noncomputable def Try.pinned : Pinned := { name := "ytkoephlichepeaa", sum := "d592be5343fb4855144eb1c734c081e5dab0ea2d9b74f7601d5c6ffe9902b9d2", checked := Try.checked }
namespace Rows
def none {H : Type} : Left H := { results := [], args := [] }

/-- 'laws.FnExactConstants': WHATEVER THE INPUT: true; the input reads as it did. -/
def fnExactConstantsSpec : ChangeSpec := { name := "fnExactConstants", fn := fun _ => fun
  | [] => { results := [.lit (.bool true)], args := [] }
  | _ => none }
def fnExactConstantsRow : OpenClaim := { program := "ytkoephlichepeaa", sum := "d592be5343fb4855144eb1c734c081e5dab0ea2d9b74f7601d5c6ffe9902b9d2", func := "loop.example/g00454/laws.FnExactConstants", spec := "fnExactConstants", apart := false }
def FnExactConstantsSaid : Prop := fnExactConstantsRow.holds Try.pinned (OpenSpec.ofChange fnExactConstantsSpec)

/-- ITS FALSE NEIGHBOUR: 'it returns false'. Refute it at one input. -/
def fnExactConstantsWrong : ChangeSpec := { name := "fnExactConstants", fn := fun _ => fun
  | [] => { results := [.lit (.bool false)], args := [] }
  | _ => none }
def FnExactConstantsWrongFalsely : Prop := fnExactConstantsRow.holds Try.pinned (OpenSpec.ofChange fnExactConstantsWrong)

/-- 'laws.FnExactVecOk': WHATEVER THE INPUT: true; the input reads as it did. -/
def fnExactVecOkSpec : ChangeSpec := { name := "fnExactVecOk", fn := fun _ => fun
  | [d] => { results := [.lit (.bool true)], args := [d] }
  | _ => none }
def fnExactVecOkRow : OpenClaim := { program := "ytkoephlichepeaa", sum := "d592be5343fb4855144eb1c734c081e5dab0ea2d9b74f7601d5c6ffe9902b9d2", func := "loop.example/g00454/laws.FnExactVecOk", spec := "fnExactVecOk", apart := false }
def FnExactVecOkSaid : Prop := fnExactVecOkRow.holds Try.pinned (OpenSpec.ofChange fnExactVecOkSpec)

/-- ITS FALSE NEIGHBOUR: 'it returns false'. Refute it at one input. -/
def fnExactVecOkWrong : ChangeSpec := { name := "fnExactVecOk", fn := fun _ => fun
  | [d] => { results := [.lit (.bool false)], args := [d] }
  | _ => none }
def FnExactVecOkWrongFalsely : Prop := fnExactVecOkRow.holds Try.pinned (OpenSpec.ofChange fnExactVecOkWrong)

/-- 'laws.FnExactVecFits': WHATEVER THE INPUT: true; the input reads as it did. -/
def fnExactVecFitsSpec : ChangeSpec := { name := "fnExactVecFits", fn := fun _ => fun
  | [d1, d2] => { results := [.lit (.bool true)], args := [d1, d2] }
  | _ => none }
def fnExactVecFitsRow : OpenClaim := { program := "ytkoephlichepeaa", sum := "d592be5343fb4855144eb1c734c081e5dab0ea2d9b74f7601d5c6ffe9902b9d2", func := "loop.example/g00454/laws.FnExactVecFits", spec := "fnExactVecFits", apart := false }
def FnExactVecFitsSaid : Prop := fnExactVecFitsRow.holds Try.pinned (OpenSpec.ofChange fnExactVecFitsSpec)

/-- ITS FALSE NEIGHBOUR: 'it returns false'. Refute it at one input. -/
def fnExactVecFitsWrong : ChangeSpec := { name := "fnExactVecFits", fn := fun _ => fun
  | [d1, d2] => { results := [.lit (.bool false)], args := [d1, d2] }
  | _ => none }
def FnExactVecFitsWrongFalsely : Prop := fnExactVecFitsRow.holds Try.pinned (OpenSpec.ofChange fnExactVecFitsWrong)

/-- 'laws.FnExactNumText': WHATEVER THE INPUT: true; the input reads as it did. -/
def fnExactNumTextSpec : ChangeSpec := { name := "fnExactNumText", fn := fun _ => fun
  | [d] => { results := [.lit (.bool true)], args := [d] }
  | _ => none }
def fnExactNumTextRow : OpenClaim := { program := "ytkoephlichepeaa", sum := "d592be5343fb4855144eb1c734c081e5dab0ea2d9b74f7601d5c6ffe9902b9d2", func := "loop.example/g00454/laws.FnExactNumText", spec := "fnExactNumText", recurses := true, apart := false }
def FnExactNumTextSaid : Prop := fnExactNumTextRow.holds Try.pinned (OpenSpec.ofChange fnExactNumTextSpec)

/-- ITS FALSE NEIGHBOUR: 'it returns false'. Refute it at one input. -/
def fnExactNumTextWrong : ChangeSpec := { name := "fnExactNumText", fn := fun _ => fun
  | [d] => { results := [.lit (.bool false)], args := [d] }
  | _ => none }
def FnExactNumTextWrongFalsely : Prop := fnExactNumTextRow.holds Try.pinned (OpenSpec.ofChange fnExactNumTextWrong)

/-- 'laws.FnExactJobOk': WHATEVER THE INPUT: true; the input reads as it did. -/
def fnExactJobOkSpec : ChangeSpec := { name := "fnExactJobOk", fn := fun _ => fun
  | [d] => { results := [.lit (.bool true)], args := [d] }
  | _ => none }
def fnExactJobOkRow : OpenClaim := { program := "ytkoephlichepeaa", sum := "d592be5343fb4855144eb1c734c081e5dab0ea2d9b74f7601d5c6ffe9902b9d2", func := "loop.example/g00454/laws.FnExactJobOk", spec := "fnExactJobOk", apart := false }
def FnExactJobOkSaid : Prop := fnExactJobOkRow.holds Try.pinned (OpenSpec.ofChange fnExactJobOkSpec)

/-- ITS FALSE NEIGHBOUR: 'it returns false'. Refute it at one input. -/
def fnExactJobOkWrong : ChangeSpec := { name := "fnExactJobOk", fn := fun _ => fun
  | [d] => { results := [.lit (.bool false)], args := [d] }
  | _ => none }
def FnExactJobOkWrongFalsely : Prop := fnExactJobOkRow.holds Try.pinned (OpenSpec.ofChange fnExactJobOkWrong)

/-- 'laws.FnExactVecSub': WHATEVER THE INPUT: true; the input reads as it did. -/
def fnExactVecSubSpec : ChangeSpec := { name := "fnExactVecSub", fn := fun _ => fun
  | [d1, d2] => { results := [.lit (.bool true)], args := [d1, d2] }
  | _ => none }
def fnExactVecSubRow : OpenClaim := { program := "ytkoephlichepeaa", sum := "d592be5343fb4855144eb1c734c081e5dab0ea2d9b74f7601d5c6ffe9902b9d2", func := "loop.example/g00454/laws.FnExactVecSub", spec := "fnExactVecSub", apart := false }
def FnExactVecSubSaid : Prop := fnExactVecSubRow.holds Try.pinned (OpenSpec.ofChange fnExactVecSubSpec)

/-- ITS FALSE NEIGHBOUR: 'it returns false'. Refute it at one input. -/
def fnExactVecSubWrong : ChangeSpec := { name := "fnExactVecSub", fn := fun _ => fun
  | [d1, d2] => { results := [.lit (.bool false)], args := [d1, d2] }
  | _ => none }
def FnExactVecSubWrongFalsely : Prop := fnExactVecSubRow.holds Try.pinned (OpenSpec.ofChange fnExactVecSubWrong)

/-- 'laws.FnExactVecAdd': WHATEVER THE INPUT: true; the input reads as it did. -/
def fnExactVecAddSpec : ChangeSpec := { name := "fnExactVecAdd", fn := fun _ => fun
  | [d1, d2] => { results := [.lit (.bool true)], args := [d1, d2] }
  | _ => none }
def fnExactVecAddRow : OpenClaim := { program := "ytkoephlichepeaa", sum := "d592be5343fb4855144eb1c734c081e5dab0ea2d9b74f7601d5c6ffe9902b9d2", func := "loop.example/g00454/laws.FnExactVecAdd", spec := "fnExactVecAdd", apart := false }
def FnExactVecAddSaid : Prop := fnExactVecAddRow.holds Try.pinned (OpenSpec.ofChange fnExactVecAddSpec)

/-- ITS FALSE NEIGHBOUR: 'it returns false'. Refute it at one input. -/
def fnExactVecAddWrong : ChangeSpec := { name := "fnExactVecAdd", fn := fun _ => fun
  | [d1, d2] => { results := [.lit (.bool false)], args := [d1, d2] }
  | _ => none }
def FnExactVecAddWrongFalsely : Prop := fnExactVecAddRow.holds Try.pinned (OpenSpec.ofChange fnExactVecAddWrong)

/-- 'laws.FnExactVecMin': WHATEVER THE INPUT: true; the input reads as it did. -/
def fnExactVecMinSpec : ChangeSpec := { name := "fnExactVecMin", fn := fun _ => fun
  | [d1, d2] => { results := [.lit (.bool true)], args := [d1, d2] }
  | _ => none }
def fnExactVecMinRow : OpenClaim := { program := "ytkoephlichepeaa", sum := "d592be5343fb4855144eb1c734c081e5dab0ea2d9b74f7601d5c6ffe9902b9d2", func := "loop.example/g00454/laws.FnExactVecMin", spec := "fnExactVecMin", apart := false }
def FnExactVecMinSaid : Prop := fnExactVecMinRow.holds Try.pinned (OpenSpec.ofChange fnExactVecMinSpec)

/-- ITS FALSE NEIGHBOUR: 'it returns false'. Refute it at one input. -/
def fnExactVecMinWrong : ChangeSpec := { name := "fnExactVecMin", fn := fun _ => fun
  | [d1, d2] => { results := [.lit (.bool false)], args := [d1, d2] }
  | _ => none }
def FnExactVecMinWrongFalsely : Prop := fnExactVecMinRow.holds Try.pinned (OpenSpec.ofChange fnExactVecMinWrong)

/-- 'laws.FnExactVecText': WHATEVER THE INPUT: true; the input reads as it did. -/
def fnExactVecTextSpec : ChangeSpec := { name := "fnExactVecText", fn := fun _ => fun
  | [d] => { results := [.lit (.bool true)], args := [d] }
  | _ => none }
def fnExactVecTextRow : OpenClaim := { program := "ytkoephlichepeaa", sum := "d592be5343fb4855144eb1c734c081e5dab0ea2d9b74f7601d5c6ffe9902b9d2", func := "loop.example/g00454/laws.FnExactVecText", spec := "fnExactVecText", recurses := true, apart := false }
def FnExactVecTextSaid : Prop := fnExactVecTextRow.holds Try.pinned (OpenSpec.ofChange fnExactVecTextSpec)

/-- ITS FALSE NEIGHBOUR: 'it returns false'. Refute it at one input. -/
def fnExactVecTextWrong : ChangeSpec := { name := "fnExactVecText", fn := fun _ => fun
  | [d] => { results := [.lit (.bool false)], args := [d] }
  | _ => none }
def FnExactVecTextWrongFalsely : Prop := fnExactVecTextRow.holds Try.pinned (OpenSpec.ofChange fnExactVecTextWrong)

/-- 'laws.FnExactTextNum': WHATEVER THE INPUT: true; the input reads as it did. -/
def fnExactTextNumSpec : ChangeSpec := { name := "fnExactTextNum", fn := fun _ => fun
  | [d] => { results := [.lit (.bool true)], args := [d] }
  | _ => none }
def fnExactTextNumRow : OpenClaim := { program := "ytkoephlichepeaa", sum := "d592be5343fb4855144eb1c734c081e5dab0ea2d9b74f7601d5c6ffe9902b9d2", func := "loop.example/g00454/laws.FnExactTextNum", spec := "fnExactTextNum", recurses := true, apart := false }
def FnExactTextNumSaid : Prop := fnExactTextNumRow.holds Try.pinned (OpenSpec.ofChange fnExactTextNumSpec)

/-- ITS FALSE NEIGHBOUR: 'it returns false'. Refute it at one input. -/
def fnExactTextNumWrong : ChangeSpec := { name := "fnExactTextNum", fn := fun _ => fun
  | [d] => { results := [.lit (.bool false)], args := [d] }
  | _ => none }
def FnExactTextNumWrongFalsely : Prop := fnExactTextNumRow.holds Try.pinned (OpenSpec.ofChange fnExactTextNumWrong)

/-- 'laws.FnExactParts': WHATEVER THE INPUT: true; the input reads as it did. -/
def fnExactPartsSpec : ChangeSpec := { name := "fnExactParts", fn := fun _ => fun
  | [d1, d2] => { results := [.lit (.bool true)], args := [d1, d2] }
  | _ => none }
def fnExactPartsRow : OpenClaim := { program := "ytkoephlichepeaa", sum := "d592be5343fb4855144eb1c734c081e5dab0ea2d9b74f7601d5c6ffe9902b9d2", func := "loop.example/g00454/laws.FnExactParts", spec := "fnExactParts", apart := false }
def FnExactPartsSaid : Prop := fnExactPartsRow.holds Try.pinned (OpenSpec.ofChange fnExactPartsSpec)

/-- ITS FALSE NEIGHBOUR: 'it returns false'. Refute it at one input. -/
def fnExactPartsWrong : ChangeSpec := { name := "fnExactParts", fn := fun _ => fun
  | [d1, d2] => { results := [.lit (.bool false)], args := [d1, d2] }
  | _ => none }
def FnExactPartsWrongFalsely : Prop := fnExactPartsRow.holds Try.pinned (OpenSpec.ofChange fnExactPartsWrong)

/-- 'laws.FnExactTextVec': WHATEVER THE INPUT: true; the input reads as it did. -/
def fnExactTextVecSpec : ChangeSpec := { name := "fnExactTextVec", fn := fun _ => fun
  | [d] => { results := [.lit (.bool true)], args := [d] }
  | _ => none }
def fnExactTextVecRow : OpenClaim := { program := "ytkoephlichepeaa", sum := "d592be5343fb4855144eb1c734c081e5dab0ea2d9b74f7601d5c6ffe9902b9d2", func := "loop.example/g00454/laws.FnExactTextVec", spec := "fnExactTextVec", recurses := true, apart := false }
def FnExactTextVecSaid : Prop := fnExactTextVecRow.holds Try.pinned (OpenSpec.ofChange fnExactTextVecSpec)

/-- ITS FALSE NEIGHBOUR: 'it returns false'. Refute it at one input. -/
def fnExactTextVecWrong : ChangeSpec := { name := "fnExactTextVec", fn := fun _ => fun
  | [d] => { results := [.lit (.bool false)], args := [d] }
  | _ => none }
def FnExactTextVecWrongFalsely : Prop := fnExactTextVecRow.holds Try.pinned (OpenSpec.ofChange fnExactTextVecWrong)

/- THE SECOND FORM. 'bulk': how many values and letters a reading holds, each counted each time it is reached (what is shared counts as often as it is met; a slice's spare places count too). A statement '..UptoSaid' is the law's where the arguments, and the package variables that the reading takes, are together of bulk at most 1048576: NARROWER than '..Said'. Prove '..Said' where nothing that the law and all that it calls make is longer than what came in: it says more and counts as full. Else prove '..UptoSaid'. A law counts once. -/
mutual
def uptoBulk {H : Type} : DataW H → Nat
  | .lit (.string bytes) => bytes.length + 1
  | .lit _ => 1
  | .nil => 1
  | .ptr d => uptoBulk d + 1
  | .slice elems spare => uptoBulkAll elems + uptoBulkAll spare + 1
  | .agg parts => uptoBulkAll parts + 1
  | .iface _ d => uptoBulk d + 1
  | .map entries => uptoBulkEntries entries + 1
  | .held _ => 1
def uptoBulkAll {H : Type} : List (DataW H) → Nat
  | [] => 0
  | d :: r => uptoBulk d + uptoBulkAll r
def uptoBulkEntries {H : Type} : List (Lit × DataW H) → Nat
  | [] => 0
  | x :: r => uptoBulkEntry x + uptoBulkEntries r
def uptoBulkEntry {H : Type} : Lit × DataW H → Nat
  | (.string bytes, d) => bytes.length + uptoBulk d + 1
  | (_, d) => uptoBulk d + 1
 end
def uptoSmall : (H : Type) → List (DataW H) → Bool := fun _ ds => decide (uptoBulkAll ds ≤ 1048576)
def OpenSpec.upto (s : _root_.Go.ChangeSpec) : _root_.Go.OpenSpec := { _root_.Go.OpenSpec.ofChange s with cond := some uptoSmall }

/-- 'laws.FnExactConstants', WHERE WHAT IT READS IS OF BULK AT MOST 1048576: true; the input reads as it did. -/
def fnExactConstantsUptoRow : OpenClaim := { program := "ytkoephlichepeaa", sum := "d592be5343fb4855144eb1c734c081e5dab0ea2d9b74f7601d5c6ffe9902b9d2", func := "loop.example/g00454/laws.FnExactConstants", spec := "fnExactConstants", apart := false, narrowed := true }
def FnExactConstantsUptoSaid : Prop := fnExactConstantsUptoRow.holds Try.pinned (OpenSpec.upto fnExactConstantsSpec)

/-- 'laws.FnExactVecOk', WHERE WHAT IT READS IS OF BULK AT MOST 1048576: true; the input reads as it did. -/
def fnExactVecOkUptoRow : OpenClaim := { program := "ytkoephlichepeaa", sum := "d592be5343fb4855144eb1c734c081e5dab0ea2d9b74f7601d5c6ffe9902b9d2", func := "loop.example/g00454/laws.FnExactVecOk", spec := "fnExactVecOk", apart := false, narrowed := true }
def FnExactVecOkUptoSaid : Prop := fnExactVecOkUptoRow.holds Try.pinned (OpenSpec.upto fnExactVecOkSpec)

/-- 'laws.FnExactVecFits', WHERE WHAT IT READS IS OF BULK AT MOST 1048576: true; the input reads as it did. -/
def fnExactVecFitsUptoRow : OpenClaim := { program := "ytkoephlichepeaa", sum := "d592be5343fb4855144eb1c734c081e5dab0ea2d9b74f7601d5c6ffe9902b9d2", func := "loop.example/g00454/laws.FnExactVecFits", spec := "fnExactVecFits", apart := false, narrowed := true }
def FnExactVecFitsUptoSaid : Prop := fnExactVecFitsUptoRow.holds Try.pinned (OpenSpec.upto fnExactVecFitsSpec)

/-- 'laws.FnExactNumText', WHERE WHAT IT READS IS OF BULK AT MOST 1048576: true; the input reads as it did. -/
def fnExactNumTextUptoRow : OpenClaim := { program := "ytkoephlichepeaa", sum := "d592be5343fb4855144eb1c734c081e5dab0ea2d9b74f7601d5c6ffe9902b9d2", func := "loop.example/g00454/laws.FnExactNumText", spec := "fnExactNumText", recurses := true, apart := false, narrowed := true }
def FnExactNumTextUptoSaid : Prop := fnExactNumTextUptoRow.holds Try.pinned (OpenSpec.upto fnExactNumTextSpec)

/-- 'laws.FnExactJobOk', WHERE WHAT IT READS IS OF BULK AT MOST 1048576: true; the input reads as it did. -/
def fnExactJobOkUptoRow : OpenClaim := { program := "ytkoephlichepeaa", sum := "d592be5343fb4855144eb1c734c081e5dab0ea2d9b74f7601d5c6ffe9902b9d2", func := "loop.example/g00454/laws.FnExactJobOk", spec := "fnExactJobOk", apart := false, narrowed := true }
def FnExactJobOkUptoSaid : Prop := fnExactJobOkUptoRow.holds Try.pinned (OpenSpec.upto fnExactJobOkSpec)

/-- 'laws.FnExactVecSub', WHERE WHAT IT READS IS OF BULK AT MOST 1048576: true; the input reads as it did. -/
def fnExactVecSubUptoRow : OpenClaim := { program := "ytkoephlichepeaa", sum := "d592be5343fb4855144eb1c734c081e5dab0ea2d9b74f7601d5c6ffe9902b9d2", func := "loop.example/g00454/laws.FnExactVecSub", spec := "fnExactVecSub", apart := false, narrowed := true }
def FnExactVecSubUptoSaid : Prop := fnExactVecSubUptoRow.holds Try.pinned (OpenSpec.upto fnExactVecSubSpec)

/-- 'laws.FnExactVecAdd', WHERE WHAT IT READS IS OF BULK AT MOST 1048576: true; the input reads as it did. -/
def fnExactVecAddUptoRow : OpenClaim := { program := "ytkoephlichepeaa", sum := "d592be5343fb4855144eb1c734c081e5dab0ea2d9b74f7601d5c6ffe9902b9d2", func := "loop.example/g00454/laws.FnExactVecAdd", spec := "fnExactVecAdd", apart := false, narrowed := true }
def FnExactVecAddUptoSaid : Prop := fnExactVecAddUptoRow.holds Try.pinned (OpenSpec.upto fnExactVecAddSpec)

/-- 'laws.FnExactVecMin', WHERE WHAT IT READS IS OF BULK AT MOST 1048576: true; the input reads as it did. -/
def fnExactVecMinUptoRow : OpenClaim := { program := "ytkoephlichepeaa", sum := "d592be5343fb4855144eb1c734c081e5dab0ea2d9b74f7601d5c6ffe9902b9d2", func := "loop.example/g00454/laws.FnExactVecMin", spec := "fnExactVecMin", apart := false, narrowed := true }
def FnExactVecMinUptoSaid : Prop := fnExactVecMinUptoRow.holds Try.pinned (OpenSpec.upto fnExactVecMinSpec)

/-- 'laws.FnExactVecText', WHERE WHAT IT READS IS OF BULK AT MOST 1048576: true; the input reads as it did. -/
def fnExactVecTextUptoRow : OpenClaim := { program := "ytkoephlichepeaa", sum := "d592be5343fb4855144eb1c734c081e5dab0ea2d9b74f7601d5c6ffe9902b9d2", func := "loop.example/g00454/laws.FnExactVecText", spec := "fnExactVecText", recurses := true, apart := false, narrowed := true }
def FnExactVecTextUptoSaid : Prop := fnExactVecTextUptoRow.holds Try.pinned (OpenSpec.upto fnExactVecTextSpec)

/-- 'laws.FnExactTextNum', WHERE WHAT IT READS IS OF BULK AT MOST 1048576: true; the input reads as it did. -/
def fnExactTextNumUptoRow : OpenClaim := { program := "ytkoephlichepeaa", sum := "d592be5343fb4855144eb1c734c081e5dab0ea2d9b74f7601d5c6ffe9902b9d2", func := "loop.example/g00454/laws.FnExactTextNum", spec := "fnExactTextNum", recurses := true, apart := false, narrowed := true }
def FnExactTextNumUptoSaid : Prop := fnExactTextNumUptoRow.holds Try.pinned (OpenSpec.upto fnExactTextNumSpec)

/-- 'laws.FnExactParts', WHERE WHAT IT READS IS OF BULK AT MOST 1048576: true; the input reads as it did. -/
def fnExactPartsUptoRow : OpenClaim := { program := "ytkoephlichepeaa", sum := "d592be5343fb4855144eb1c734c081e5dab0ea2d9b74f7601d5c6ffe9902b9d2", func := "loop.example/g00454/laws.FnExactParts", spec := "fnExactParts", apart := false, narrowed := true }
def FnExactPartsUptoSaid : Prop := fnExactPartsUptoRow.holds Try.pinned (OpenSpec.upto fnExactPartsSpec)

/-- 'laws.FnExactTextVec', WHERE WHAT IT READS IS OF BULK AT MOST 1048576: true; the input reads as it did. -/
def fnExactTextVecUptoRow : OpenClaim := { program := "ytkoephlichepeaa", sum := "d592be5343fb4855144eb1c734c081e5dab0ea2d9b74f7601d5c6ffe9902b9d2", func := "loop.example/g00454/laws.FnExactTextVec", spec := "fnExactTextVec", recurses := true, apart := false, narrowed := true }
def FnExactTextVecUptoSaid : Prop := fnExactTextVecUptoRow.holds Try.pinned (OpenSpec.upto fnExactTextVecSpec)

end Rows
end Go.Proofs.Ytkoephlichepeaa
