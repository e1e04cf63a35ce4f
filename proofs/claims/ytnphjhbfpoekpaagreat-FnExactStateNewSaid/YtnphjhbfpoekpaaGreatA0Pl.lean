import Derived.Test.YtnphjhbfpoekpaaGreatRows
import Derived.ProofKit
import Derived.OpenShut
import Derived.WalkKit
import Derived.Deep.Slices
import Derived.Deep.Fields
import Derived.ChangeSame
import Derived.WideShapes
namespace Go.Proofs.YtnphjhbfpoekpaaGreat
set_option linter.unusedSimpArgs false
set_option linter.unusedVariables false
set_option linter.unnecessarySimpa false
open Go.ChangeShapes Go.WideShapes Go.ChangeAt Go.RowKit
theorem own_ : ownKnob Tryz.prog.godebug = none := by kernel_rfl
theorem laidOut_ : laidOutB Tryz.prog = true := by kernel_rfl
theorem trodAll_below {H : Type} {enc : TypeId × Value → H} {P : Program} (hl : laidOutB P = true) {W W' : World} (hb : Below W.heap.size W W') :
  ∀ {ts : List TypeId} {vs : List Value} {ds : List (DataW H)} {ps : List MemPlace}, (∀ t ∈ ts, P.readableRec t = true ∧ t < P.types.size) →
   DataW.TrodAll enc P W 0 (fun _ => true) true ts vs ds ps → (∀ x ∈ ps, x.block < W.heap.size) → DataW.TrodAll enc P W' 0 (fun b => decide (b < W.heap.size)) true ts vs ds ps
 | [], _, _, _, _, h, _ => by
  obtain ⟨rfl, rfl, rfl⟩ := trodAll_nil h
  exact rfl
 | t :: ts, _, _, _, hr, h, hlt => by
  obtain ⟨v, vs1, d, ds1, a, b, rfl, rfl, rfl, h1, h2⟩ := trodAll_cons h
  exact ⟨a, b, Below.trod hl (hr t (by simp)).1 (hr t (by simp)).2 h1 hb (fun x hx => hlt x (by simp [hx])),
   trodAll_below hl hb (fun u hu => hr u (by simp [hu])) h2 (fun x hx => hlt x (by simp [hx])), rfl⟩
theorem law_post {H : Type} {enc : TypeId × Value → H} {P : Program} {f : Func} {s : ChangeSpec} {W W' : World} {args : Array Value} {ds gs : List (DataW H)} {before : List MemPlace}
  (hl : laidOutB P = true) (hr : ∀ t ∈ f.params.toList, P.readableRec t = true ∧ t < P.types.size) (hv : s.vars = [])
  (hsp : s.fn H (ds ++ gs) = { results := [.lit (.bool true)], args := ds }) {tb : TypeId} (hres : f.resultTypes = #[tb]) (htb : P.underlying tb = some .bool)
  (hW : DataW.Whole enc P f.params.toList s.vars false W args.toList ds gs before) (hb : Below W.heap.size W W') :
  s.post enc P f false true false false W args (.bool true) W' := by
 have hlt := hW.lt
 have hW' := hW
 obtain ⟨p, q, hA, hV, rfl, _, _⟩ := hW
 rw [hv] at hV
 obtain ⟨rfl, rfl⟩ := trodVars_none hV
 refine ⟨ds, [], p ++ [], [], p, [], hW', ?_, ?_, ?_, hb.frame _, fun h => by cases h⟩
 ·rw [hsp, hres]
  exact trodAll_cons_mk (shut_bool htb _) trodAll_mk0
 ·rw [hsp]
  exact trodAll_below hl hb hr hA (fun x hx => hlt x (by simp [hx]))
 ·rw [hsp, hv]
  exact rfl
theorem len3 {l : List Int} (h : l.length = 3) : ∃ a b c, l = [a, b, c] := by
 match l, h with
 | [a, b, c], _ => exact ⟨a, b, c, rfl⟩
theorem okWide_ints {P : Program} {W : World} {r : Reach} {b : Nat} {t : TypeId} {v : Value} {fs : Array Field} {ts : List TypeId} (hs : P.underlying t = some (.struct fs))
  (hct : P.cellTypes P.depth t = some ts) (hall : ∀ i, i < ts.length → (ts[i]?).bind P.underlying = some (.int .i64)) (h : Value.okWide P W r b t v) :
  ∃ ns : List Int, v = .agg (ns.map (Value.int .i64)).toArray ∧ ns.length = P.cellsOf t := by
 simp only [Value.okWide, hs] at h
 obtain ⟨cs, rfl, hsz, ts', hct', ⟨n, hn⟩, hc⟩ := h
 rw [hct] at hct'
 cases hct'
 have key : ∀ (l : List Value), (∀ x ∈ l, ∃ z : Int, x = .int .i64 z) → ∃ ns : List Int, l = ns.map (Value.int .i64) := by
  intro l
  induction l with
  | nil => exact fun _ => ⟨[], rfl⟩
  | cons x l ih =>
   intro hx
   obtain ⟨z, rfl⟩ := hx x (by simp)
   obtain ⟨ns, rfl⟩ := ih (fun y hy => hx y (by simp [hy]))
   exact ⟨z :: ns, rfl⟩
 obtain ⟨ns, hns⟩ := key cs.toList (by
  intro x hx
  obtain ⟨i, hi⟩ := List.getElem?_of_mem hx
  have hi' : cs[i]? = some x := by simpa using hi
  obtain ⟨u, hu, hk⟩ := hc i x hi'
  have hlen : i % ts.length < ts.length := by
   have := (List.getElem?_eq_some_iff.1 hu).1
   exact this
  have hu2 := hall _ hlen
  rw [hu] at hu2
  simp only [Option.bind_some] at hu2
  unfold Cell.okWide at hk
  rw [hu2] at hk
  simp only [Cell.ok, hu2] at hk
  cases x <;> simp_all)
 refine ⟨ns, ?_, ?_⟩
 ·rw [← hns]
 ·have : cs.toList.length = ns.length := by rw [hns]; simp
  simp at this
  omega
end Go.Proofs.YtnphjhbfpoekpaaGreat
namespace Go.Proofs.YtnphjhbfpoekpaaGreat
set_option linter.unusedSimpArgs false
set_option linter.unusedVariables false
set_option linter.unnecessarySimpa false
open Go.ChangeShapes Go.WideShapes Go.ChangeAt Go.RowKit Go.Deep
def intsOnly (P : Program) : Nat → TypeId → Bool
 | 0, _ => false
 | n + 1, t => match P.underlying t with
  | some (.int .i64) => P.cellsOf t == 1
  | some (.struct fs) => (List.range (P.cellsOf t)).all (fun i => fs.any fun f => decide (f.offset ≤ i) && decide (i < f.offset + P.cellsOf f.type)) && fs.all (fun f => intsOnly P n f.type)
  | _ => false
theorem and_mk {a b : Bool} (h : a = true) (h' : b = true) : (a && b) = true := by rw [h, h']; rfl
theorem vlen2 {l : List Value} (h : l.length = 2) : ∃ a b, l = [a, b] := by
 match l, h with
 | [a, b], _ => exact ⟨a, b, rfl⟩
section
variable {H : Type} {enc : TypeId × Value → H} {P : Program} {w : World} {base : Nat} {spare : Nat → Bool} {held : Bool}
theorem trod_ints : ∀ (n : Nat) (t : TypeId) (fuel : Nat) (cs : List Value) (x : DataW H × List MemPlace), intsOnly P n t = true → DataW.trod enc P w base spare held fuel t cs = some x → ∀ v ∈ cs, ∃ z : Int, v = .int .i64 z
 | 0, _, _, _, _, h, _ => by simp [intsOnly] at h
 | n + 1, t, fuel, cs, x, h, ht => by
  unfold intsOnly at h
  split at h
  ·rename_i hu
   obtain ⟨m, rfl, _, _⟩ := DataW.trod_int hu ht
   intro v hv
   exact ⟨m, by simpa using hv⟩
  ·rename_i fs hu
   obtain ⟨ys, n', hn', hy, hlen, hyl, hf⟩ := DataW.trod_struct hu ht
   simp only [Bool.and_eq_true, List.all_eq_true, List.mem_range, Array.all_eq_true_iff_forall_mem] at h
   obtain ⟨hcov, hall⟩ := h
   intro v hv
   obtain ⟨i, hi, rfl⟩ := List.getElem_of_mem hv
   have hc := hcov i (by omega)
   rw [Array.any_eq_true'] at hc
   obtain ⟨f, hfm, hfi⟩ := hc
   simp only [Bool.and_eq_true, decide_eq_true_eq] at hfi
   obtain ⟨j, hj, hfj⟩ := Array.getElem_of_mem hfm
   have hfj' : fs[j]? = some f := by rw [Array.getElem?_eq_getElem hj, hfj]
   have h1 := hf j f hfj'
   have hjl : j < ys.length := by omega
   rw [List.getElem?_eq_getElem hjl] at h1
   refine trod_ints n f.type n' _ _ (hall f hfm) h1 _ ?_
   refine List.mem_iff_getElem?.2 ⟨i - f.offset, ?_⟩
   rw [List.getElem?_take, if_pos (by omega), List.getElem?_drop, show f.offset + (i - f.offset) = i by omega]
   exact List.getElem?_eq_getElem hi
  ·cases h
theorem open_int_slice {t e : TypeId} {fuel : Nat} {v : Value} {x : DataW H × List MemPlace} {C k : Nat} (ht : P.underlying t = some (.slice e)) (hC : P.cellsOf e = C) (hpos : 0 < C) (hi : intsOnly P k e = true)
  (h : DataW.trod enc P w base spare held fuel t [v] = some x) :
  ∃ (A : Option Addr) (n c : Nat) (z : Nat → Nat → Int), v = .slice A n c ∧ n ≤ maxLen ∧ c ≤ maxLen ∧ (0 < n → ∃ b off, A = some ⟨b, off, none⟩ ∧ b < w.heap.size ∧
   ∀ i j, i < n → j < C → w.cell? ⟨b, off + i * C + j, none⟩ = some (.int .i64 (z i j))) := by
 rcases open_slice ht h with ⟨h0, _⟩ | ⟨a, len, cap, m, n', D, Pl, hcs, hb, hl, hm, hmm, hx, hel⟩
 ·simp only [List.cons.injEq, and_true] at h0
  exact ⟨none, 0, 0, fun _ _ => 0, h0, by simp, by simp, fun h => absurd h (by omega)⟩
 ·simp only [List.cons.injEq, and_true] at hcs
  have hlm : len ≤ m := by rw [hmm]; split <;> omega
  have key : ∀ i j, i < len → j < C → ∃ z : Int, w.cell? ((a.add (i * C)).add j) = some (.int .i64 z) := by
   intro i j hil hjC
   obtain ⟨cs', hc, ht'⟩ := hel i (by omega)
   rw [hC] at hc
   obtain ⟨_, hcl, hat⟩ := World.cells?_some hc
   have h1 := hat j hjC
   rw [List.getElem?_eq_getElem (by omega)] at h1
   obtain ⟨z, hz⟩ := trod_ints k e n' cs' _ hi ht' _ (List.getElem_mem (show j < cs'.length by omega))
   exact ⟨z, by rw [h1, hz]⟩
  refine ⟨some a, len, cap, fun i j => if hh : i < len ∧ j < C then (key i j hh.1 hh.2).choose else 0, hcs, by omega, hm, fun hn => ?_⟩
  obtain ⟨z0, hz0⟩ := key 0 0 hn hpos
  have hsp : a.spot = none := by
   simp only [Nat.zero_mul, Addr.add, if_pos] at hz0
   unfold World.cell? at hz0
   split at hz0
   ·split at hz0
    ·cases hz0
    ·rename_i hs; simpa using hs
   ·cases hz0
  obtain ⟨b, off, spot⟩ := a
  simp only at hsp
  subst hsp
  refine ⟨b, off, rfl, ?_, ?_⟩
  ·rcases Nat.lt_or_ge b w.heap.size with h | h
   ·exact h
   ·exfalso
    simp only [Nat.zero_mul, Addr.add, if_pos] at hz0
    unfold World.cell? at hz0
    rw [Array.getElem?_eq_none h] at hz0
    cases hz0
  ·intro i j hil hjC
   simp only [hil, hjC, and_self, dite_true]
   have := (key i j hil hjC).choose_spec
   have e : ((⟨b, off, none⟩ : Addr).add (i * C)).add j = ⟨b, off + i * C + j, none⟩ := by
    rw [add_add]
    unfold Addr.add
    by_cases h0 : i * C + j = 0
    ·rw [if_pos h0]; congr 1; omega
    ·rw [if_neg h0]; congr 1; simp only; omega
   generalize (key i j hil hjC).choose = zz at this ⊢
   rw [e] at this
   exact this
theorem open_struct {r : Reach} {b0 : Nat} {t : TypeId} {fs : Array Field} {v : Value} {d : DataW H} {p : List MemPlace} (hs : P.underlying t = some (.struct fs))
  (hv : Value.okWide P w r b0 t v) (h : DataW.Trod enc P w base spare held t v d p) :
  ∃ (cs : List Value) (n : Nat), v = .agg cs.toArray ∧ cs.length = P.cellsOf t ∧ ∀ (j : Nat) (f : Field), fs[j]? = some f → ∃ x, DataW.trod enc P w base spare held n f.type ((cs.drop f.offset).take (P.cellsOf f.type)) = some x := by
 obtain ⟨cs, rfl, hsz⟩ := okWide_struct hs hv
 obtain ⟨l⟩ := cs
 obtain ⟨fuel, hf⟩ := h
 obtain ⟨xs, n, _, hx, _, hlen, hg⟩ := DataW.trod_struct hs hf
 refine ⟨l, n, rfl, hsz, fun j f hj => ?_⟩
 have hjl : j < xs.length := by rw [hlen]; exact (Array.getElem?_eq_some_iff.1 hj).1
 exact ⟨xs[j], by rw [← List.getElem?_eq_getElem hjl]; exact hg j f hj⟩
end
noncomputable def enterS : { f : Program → List Char → Bool // ∀ P l, P.initOrder.toList = l → P.mayEnter = f P l } := ⟨_, fun P l h => by unfold Program.mayEnter; rw [h]⟩
noncomputable def makeS : { f : Program → List Char → Option Make // ∀ P l, P.initOrder.toList = l → P.make = f P l } := ⟨_, fun P l h => by unfold Program.make Program.headLifts; rw [h]⟩
noncomputable def liftS : { f : Program → List Char → Bool // ∀ P l, P.initOrder.toList = l → P.liftsFinal = f P l } := ⟨_, fun P l h => by unfold Program.liftsFinal Program.headLifts; rw [h]⟩
set_option maxRecDepth 1000000 in
theorem enter_ : Tryz.prog.mayEnter = true := (enterS.2 Tryz.prog _ ((congrArg String.toList (rfl : Tryz.prog.initOrder = String.ofList _)).trans String.toList_ofList)).trans (by kernel_rfl)
set_option maxRecDepth 1000000 in
theorem make_ : Tryz.prog.make = some .cut := (makeS.2 Tryz.prog _ ((congrArg String.toList (rfl : Tryz.prog.initOrder = String.ofList _)).trans String.toList_ofList)).trans (by kernel_rfl)
theorem makeB_ : (Tryz.prog.make == some .cut) = true := by rw [make_]; rfl
set_option maxRecDepth 1000000 in
theorem lifts_ : Tryz.prog.liftsFinal = false := (liftS.2 Tryz.prog _ ((congrArg String.toList (rfl : Tryz.prog.initOrder = String.ofList _)).trans String.toList_ofList)).trans (by kernel_rfl)
theorem liftsB_ : (false == Tryz.prog.liftsFinal) = true := by rw [lifts_]; rfl
end Go.Proofs.YtnphjhbfpoekpaaGreat
