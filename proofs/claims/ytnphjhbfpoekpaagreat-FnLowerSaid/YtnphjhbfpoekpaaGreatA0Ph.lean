import Derived.Test.YtnphjhbfpoekpaaGreatRows
import Derived.ProofKit
import Derived.OpenShut
import Derived.WalkKit
import Derived.Deep.Slices
import Derived.Deep.Fields
import Derived.ChangeSame
import Derived.WideShapes
namespace Go.Proofs.YtnphjhbfpoekpaaGreat
set_option linter.unusedSimpArgs false
set_option linter.unusedVariables false
set_option linter.unnecessarySimpa false
open Go.ChangeShapes Go.WideShapes Go.ChangeAt Go.RowKit
theorem own_ : ownKnob Tryz.prog.godebug = none := by kernel_rfl
theorem laidOut_ : laidOutB Tryz.prog = true := by kernel_rfl
theorem trodAll_below {H : Type} {enc : TypeId × Value → H} {P : Program} (hl : laidOutB P = true) {W W' : World} (hb : Below W.heap.size W W') :
  ∀ {ts : List TypeId} {vs : List Value} {ds : List (DataW H)} {ps : List MemPlace}, (∀ t ∈ ts, P.readableRec t = true ∧ t < P.types.size) →
   DataW.TrodAll enc P W 0 (fun _ => true) true ts vs ds ps → (∀ x ∈ ps, x.block < W.heap.size) → DataW.TrodAll enc P W' 0 (fun b => decide (b < W.heap.size)) true ts vs ds ps
 | [], _, _, _, _, h, _ => by
  obtain ⟨rfl, rfl, rfl⟩ := trodAll_nil h
  exact rfl
 | t :: ts, _, _, _, hr, h, hlt => by
  obtain ⟨v, vs1, d, ds1, a, b, rfl, rfl, rfl, h1, h2⟩ := trodAll_cons h
  exact ⟨a, b, Below.trod hl (hr t (by simp)).1 (hr t (by simp)).2 h1 hb (fun x hx => hlt x (by simp [hx])),
   trodAll_below hl hb (fun u hu => hr u (by simp [hu])) h2 (fun x hx => hlt x (by simp [hx])), rfl⟩
theorem law_post {H : Type} {enc : TypeId × Value → H} {P : Program} {f : Func} {s : ChangeSpec} {W W' : World} {args : Array Value} {ds gs : List (DataW H)} {before : List MemPlace}
  (hl : laidOutB P = true) (hr : ∀ t ∈ f.params.toList, P.readableRec t = true ∧ t < P.types.size) (hv : s.vars = [])
  (hsp : s.fn H (ds ++ gs) = { results := [.lit (.bool true)], args := ds }) {tb : TypeId} (hres : f.resultTypes = #[tb]) (htb : P.underlying tb = some .bool)
  (hW : DataW.Whole enc P f.params.toList s.vars false W args.toList ds gs before) (hb : Below W.heap.size W W') :
  s.post enc P f false true false false W args (.bool true) W' := by
 have hlt := hW.lt
 have hW' := hW
 obtain ⟨p, q, hA, hV, rfl, _, _⟩ := hW
 rw [hv] at hV
 obtain ⟨rfl, rfl⟩ := trodVars_none hV
 refine ⟨ds, [], p ++ [], [], p, [], hW', ?_, ?_, ?_, hb.frame _, fun h => by cases h⟩
 ·rw [hsp, hres]
  exact trodAll_cons_mk (shut_bool htb _) trodAll_mk0
 ·rw [hsp]
  exact trodAll_below hl hb hr hA (fun x hx => hlt x (by simp [hx]))
 ·rw [hsp, hv]
  exact rfl
end Go.Proofs.YtnphjhbfpoekpaaGreat
namespace Go.Proofs.YtnphjhbfpoekpaaGreat
set_option linter.unusedSimpArgs false
set_option linter.unusedVariables false
set_option linter.unnecessarySimpa false
open Go.ChangeShapes Go.WideShapes Go.ChangeAt Go.RowKit Go.Deep
theorem and_mk {a b : Bool} (h : a = true) (h' : b = true) : (a && b) = true := by rw [h, h']; rfl
section
variable {H : Type} {enc : TypeId × Value → H} {P : Program} {w : World} {base : Nat} {spare : Nat → Bool} {held : Bool}
end
noncomputable def enterS : { f : Program → List Char → Bool // ∀ P l, P.initOrder.toList = l → P.mayEnter = f P l } := ⟨_, fun P l h => by unfold Program.mayEnter; rw [h]⟩
noncomputable def makeS : { f : Program → List Char → Option Make // ∀ P l, P.initOrder.toList = l → P.make = f P l } := ⟨_, fun P l h => by unfold Program.make Program.headLifts; rw [h]⟩
noncomputable def liftS : { f : Program → List Char → Bool // ∀ P l, P.initOrder.toList = l → P.liftsFinal = f P l } := ⟨_, fun P l h => by unfold Program.liftsFinal Program.headLifts; rw [h]⟩
set_option maxRecDepth 1000000 in
theorem enter_ : Tryz.prog.mayEnter = true := (enterS.2 Tryz.prog _ ((congrArg String.toList (rfl : Tryz.prog.initOrder = String.ofList _)).trans String.toList_ofList)).trans (by kernel_rfl)
set_option maxRecDepth 1000000 in
theorem make_ : Tryz.prog.make = some .cut := (makeS.2 Tryz.prog _ ((congrArg String.toList (rfl : Tryz.prog.initOrder = String.ofList _)).trans String.toList_ofList)).trans (by kernel_rfl)
theorem makeB_ : (Tryz.prog.make == some .cut) = true := by rw [make_]; rfl
set_option maxRecDepth 1000000 in
theorem lifts_ : Tryz.prog.liftsFinal = false := (liftS.2 Tryz.prog _ ((congrArg String.toList (rfl : Tryz.prog.initOrder = String.ofList _)).trans String.toList_ofList)).trans (by kernel_rfl)
theorem liftsB_ : (false == Tryz.prog.liftsFinal) = true := by rw [lifts_]; rfl
end Go.Proofs.YtnphjhbfpoekpaaGreat
