/-
  No cell of these rows narrows 'for every input' (looked for: loops, veiled, ifaces, maps, wideKeys, modest, calm, conditions, laid).
  DERIVED. THE GIVEN ROWS OF THIS SEAT. 2 by the template 'for every input the law returns true; each argument reads behind the call as it read before'; 0 by the template 'total and deterministic' (their statements: YtdppjjdhidkjoaaTotals.lean).
  GIVEN WITH THE SEED: the statements are not yours to turn. If you find one false, say at which input.
  Laid BY PROGRAM, IN A SANDBOX (cutbox-rows.mjs): the forced cells as the released guide's own fill.sh prints them over the translation 60f13b2338c0aa6a… (all of the seat's roots in one cut). By AI agents, Wed Nov 11 2026. No macro, syntax, notation, axiom, sorry.
-/
import Derived.Test.YtdppjjdhidkjoaaChecked
import GoSem.Claim
import GoSem.ClaimJoined
import GoSem.ClaimMapViews
import Derived.JoinedTies
import Derived.KernelRfl
namespace Go.Proofs.Ytdppjjdhidkjoaa
/- THE CELL 'sum', in the pinned program and in every row, IS THE sha256 OF THE DUMP (.gsa) THAT YtdppjjdhidkjoaaProg.lean LOADS. Nothing in Lean hashes anything: it is a label: what it is worth is what the hold of that sum in a sandbox is worth. -/
noncomputable def Try.pinned : Pinned := { name := "ytdppjjdhidkjoaa", sum := "60f13b2338c0aa6a5d973f2b7b2e0b86e22d55f0b99af7a583169b1680948f29", checked := Try.checked }
namespace Rows
def none {H : Type} : Left H := { results := [], args := [] }

/-- 'laws.FnChoose': WHATEVER THE INPUT: true; the input reads as it did. -/
def fnChooseSpec : ChangeSpec := { name := "fnChoose", fn := fun _ => fun
  | [d] => { results := [.lit (.bool true)], args := [d] }
  | _ => none }
def fnChooseRow : OpenClaim := { program := "ytdppjjdhidkjoaa", sum := "60f13b2338c0aa6a5d973f2b7b2e0b86e22d55f0b99af7a583169b1680948f29", func := "loop.example/g00454/laws.FnChoose", spec := "fnChoose", unfollowed := true, recurses := true, apart := false }
def FnChooseSaid : Prop := fnChooseRow.holds Try.pinned (OpenSpec.ofChange fnChooseSpec)

/-- ITS FALSE NEIGHBOUR: 'it returns false'. Refute it at one input. -/
def fnChooseWrong : ChangeSpec := { name := "fnChoose", fn := fun _ => fun
  | [d] => { results := [.lit (.bool false)], args := [d] }
  | _ => none }
def FnChooseWrongFalsely : Prop := fnChooseRow.holds Try.pinned (OpenSpec.ofChange fnChooseWrong)

/-- 'laws.FnExactChoose': WHATEVER THE INPUT: true; the input reads as it did. -/
def fnExactChooseSpec : ChangeSpec := { name := "fnExactChoose", fn := fun _ => fun
  | [d1, d2, d3, d4] => { results := [.lit (.bool true)], args := [d1, d2, d3, d4] }
  | _ => none }
def fnExactChooseRow : OpenClaim := { program := "ytdppjjdhidkjoaa", sum := "60f13b2338c0aa6a5d973f2b7b2e0b86e22d55f0b99af7a583169b1680948f29", func := "loop.example/g00454/laws.FnExactChoose", spec := "fnExactChoose", unfollowed := true, recurses := true, apart := false }
def FnExactChooseSaid : Prop := fnExactChooseRow.holds Try.pinned (OpenSpec.ofChange fnExactChooseSpec)

/-- ITS FALSE NEIGHBOUR: 'it returns false'. Refute it at one input. -/
def fnExactChooseWrong : ChangeSpec := { name := "fnExactChoose", fn := fun _ => fun
  | [d1, d2, d3, d4] => { results := [.lit (.bool false)], args := [d1, d2, d3, d4] }
  | _ => none }
def FnExactChooseWrongFalsely : Prop := fnExactChooseRow.holds Try.pinned (OpenSpec.ofChange fnExactChooseWrong)

/- THE SECOND FORM. 'bulk': how many values and letters a reading holds, each counted each time it is reached (what is shared counts as often as it is met; a slice's spare places count too). A statement '..UptoSaid' is the law's where the arguments, and the package variables that the reading takes, are together of bulk at most 1048576: NARROWER than '..Said'. Prove '..Said' where nothing that the law and all that it calls make is longer than what came in: it says more and counts as full. Else prove '..UptoSaid'. A law counts once. -/
mutual
def uptoBulk {H : Type} : DataW H → Nat
  | .lit (.string bytes) => bytes.length + 1
  | .lit _ => 1
  | .nil => 1
  | .ptr d => uptoBulk d + 1
  | .slice elems spare => uptoBulkAll elems + uptoBulkAll spare + 1
  | .agg parts => uptoBulkAll parts + 1
  | .iface _ d => uptoBulk d + 1
  | .map entries => uptoBulkEntries entries + 1
  | .held _ => 1
def uptoBulkAll {H : Type} : List (DataW H) → Nat
  | [] => 0
  | d :: r => uptoBulk d + uptoBulkAll r
def uptoBulkEntries {H : Type} : List (Lit × DataW H) → Nat
  | [] => 0
  | x :: r => uptoBulkEntry x + uptoBulkEntries r
def uptoBulkEntry {H : Type} : Lit × DataW H → Nat
  | (.string bytes, d) => bytes.length + uptoBulk d + 1
  | (_, d) => uptoBulk d + 1
 end
def uptoSmall : (H : Type) → List (DataW H) → Bool := fun _ ds => decide (uptoBulkAll ds ≤ 1048576)
def OpenSpec.upto (s : _root_.Go.ChangeSpec) : _root_.Go.OpenSpec := { _root_.Go.OpenSpec.ofChange s with cond := some uptoSmall }

/-- 'laws.FnChoose', WHERE WHAT IT READS IS OF BULK AT MOST 1048576: true; the input reads as it did. -/
def fnChooseUptoRow : OpenClaim := { program := "ytdppjjdhidkjoaa", sum := "60f13b2338c0aa6a5d973f2b7b2e0b86e22d55f0b99af7a583169b1680948f29", func := "loop.example/g00454/laws.FnChoose", spec := "fnChoose", unfollowed := true, recurses := true, apart := false, narrowed := true }
def FnChooseUptoSaid : Prop := fnChooseUptoRow.holds Try.pinned (OpenSpec.upto fnChooseSpec)

/-- 'laws.FnExactChoose', WHERE WHAT IT READS IS OF BULK AT MOST 1048576: true; the input reads as it did. -/
def fnExactChooseUptoRow : OpenClaim := { program := "ytdppjjdhidkjoaa", sum := "60f13b2338c0aa6a5d973f2b7b2e0b86e22d55f0b99af7a583169b1680948f29", func := "loop.example/g00454/laws.FnExactChoose", spec := "fnExactChoose", unfollowed := true, recurses := true, apart := false, narrowed := true }
def FnExactChooseUptoSaid : Prop := fnExactChooseUptoRow.holds Try.pinned (OpenSpec.upto fnExactChooseSpec)

end Rows
end Go.Proofs.Ytdppjjdhidkjoaa
