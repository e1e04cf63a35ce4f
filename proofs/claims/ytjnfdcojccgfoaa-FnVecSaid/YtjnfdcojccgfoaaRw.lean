/-
  DERIVED. From a contract of a law to its row: what the law hands back is true and below the heap's end nothing has turned, so each argument reads as it read.
-/
import Derived.Test.YtjnfdcojccgfoaaRows
import Derived.ProofKit
import Derived.OpenShut
import Derived.WalkKit
namespace Go.Proofs.Ytjnfdcojccgfoaa
set_option linter.unusedSimpArgs false
set_option linter.unusedVariables false
set_option linter.unnecessarySimpa false
open Go.ChangeShapes Go.WideShapes Go.ChangeAt Go.RowKit

theorem own_ : ownKnob Try.prog.godebug = none := by kernel_rfl
theorem laidOut_ : laidOutB Try.prog = true := by kernel_rfl

theorem trodAll_below {H : Type} {enc : TypeId × Value → H} {P : Program} (hl : laidOutB P = true) {W W' : World} (hb : Below W.heap.size W W') :
    ∀ {ts : List TypeId} {vs : List Value} {ds : List (DataW H)} {ps : List MemPlace}, (∀ t ∈ ts, P.readableRec t = true ∧ t < P.types.size) →
      DataW.TrodAll enc P W 0 (fun _ => true) true ts vs ds ps → (∀ x ∈ ps, x.block < W.heap.size) → DataW.TrodAll enc P W' 0 (fun b => decide (b < W.heap.size)) true ts vs ds ps
  | [], _, _, _, _, h, _ => by
    obtain ⟨rfl, rfl, rfl⟩ := trodAll_nil h
    exact rfl
  | t :: ts, _, _, _, hr, h, hlt => by
    obtain ⟨v, vs1, d, ds1, a, b, rfl, rfl, rfl, h1, h2⟩ := trodAll_cons h
    exact ⟨a, b, Below.trod hl (hr t (by simp)).1 (hr t (by simp)).2 h1 hb (fun x hx => hlt x (by simp [hx])),
      trodAll_below hl hb (fun u hu => hr u (by simp [hu])) h2 (fun x hx => hlt x (by simp [hx])), rfl⟩

theorem keptBut_below {W W' : World} (hb : Below W.heap.size W W') (may : MemPlace → Prop) : W.keptBut W' may := hb.frame may

theorem law_post {H : Type} {enc : TypeId × Value → H} {P : Program} {f : Func} {s : ChangeSpec} {W W' : World} {args : Array Value} {ds gs : List (DataW H)} {before : List MemPlace}
    (hl : laidOutB P = true) (hr : ∀ t ∈ f.params.toList, P.readableRec t = true ∧ t < P.types.size) (hv : s.vars = [])
    (hsp : s.fn H (ds ++ gs) = { results := [.lit (.bool true)], args := ds }) {tb : TypeId} (hres : f.resultTypes = #[tb]) (htb : P.underlying tb = some .bool)
    (hW : DataW.Whole enc P f.params.toList s.vars false W args.toList ds gs before) (hb : Below W.heap.size W W') :
    s.post enc P f false true false false W args (.bool true) W' := by
  have hlt := hW.lt
  have hW' := hW
  obtain ⟨p, q, hA, hV, rfl, _, _⟩ := hW
  rw [hv] at hV
  obtain ⟨rfl, rfl⟩ := trodVars_none hV
  refine ⟨ds, [], p ++ [], [], p, [], hW', ?_, ?_, ?_, hb.frame _, fun h => by cases h⟩
  · rw [hsp, hres]
    exact trodAll_cons_mk (shut_bool htb _) trodAll_mk0
  · rw [hsp]
    exact trodAll_below hl hb hr hA (fun x hx => hlt x (by simp [hx]))
  · rw [hsp, hv]
    exact rfl

theorem len3 {l : List Int} (h : l.length = 3) : ∃ a b c, l = [a, b, c] := by
  match l, h with
  | [a, b, c], _ => exact ⟨a, b, c, rfl⟩
theorem len11 {l : List Int} (h : l.length = 11) : ∃ x0 x1 x2 x3 x4 x5 x6 x7 x8 x9 x10, l = [x0, x1, x2, x3, x4, x5, x6, x7, x8, x9, x10] := by
  match l, h with
  | [x0, x1, x2, x3, x4, x5, x6, x7, x8, x9, x10], _ => exact ⟨x0, x1, x2, x3, x4, x5, x6, x7, x8, x9, x10, rfl⟩
/-- A struct of int cells alone: its value is a row of ints. -/
theorem okWide_ints {P : Program} {W : World} {r : Reach} {b : Nat} {t : TypeId} {v : Value} {fs : Array Field} {ts : List TypeId} (hs : P.underlying t = some (.struct fs))
    (hct : P.cellTypes P.depth t = some ts) (hall : ∀ i, i < ts.length → (ts[i]?).bind P.underlying = some (.int .i64)) (h : Value.okWide P W r b t v) :
    ∃ ns : List Int, v = .agg (ns.map (Value.int .i64)).toArray ∧ ns.length = P.cellsOf t := by
  simp only [Value.okWide, hs] at h
  obtain ⟨cs, rfl, hsz, ts', hct', ⟨n, hn⟩, hc⟩ := h
  rw [hct] at hct'
  cases hct'
  have key : ∀ (l : List Value), (∀ x ∈ l, ∃ z : Int, x = .int .i64 z) → ∃ ns : List Int, l = ns.map (Value.int .i64) := by
    intro l
    induction l with
    | nil => exact fun _ => ⟨[], rfl⟩
    | cons x l ih =>
      intro hx
      obtain ⟨z, rfl⟩ := hx x (by simp)
      obtain ⟨ns, rfl⟩ := ih (fun y hy => hx y (by simp [hy]))
      exact ⟨z :: ns, rfl⟩
  obtain ⟨ns, hns⟩ := key cs.toList (by
    intro x hx
    obtain ⟨i, hi⟩ := List.getElem?_of_mem hx
    have hi' : cs[i]? = some x := by simpa using hi
    obtain ⟨u, hu, hk⟩ := hc i x hi'
    have hlen : i % ts.length < ts.length := by
      have := (List.getElem?_eq_some_iff.1 hu).1
      exact this
    have hu2 := hall _ hlen
    rw [hu] at hu2
    simp only [Option.bind_some] at hu2
    unfold Cell.okWide at hk
    rw [hu2] at hk
    simp only [Cell.ok, hu2] at hk
    cases x <;> simp_all)
  refine ⟨ns, ?_, ?_⟩
  · rw [← hns]
  · have : cs.toList.length = ns.length := by rw [hns]; simp
    simp at this
    omega
end Go.Proofs.Ytjnfdcojccgfoaa
