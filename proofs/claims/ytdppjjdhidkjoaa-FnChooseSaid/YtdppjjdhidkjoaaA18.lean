/-
  Texts of this proof, put together.
-/
import Derived.Test.YtdppjjdhidkjoaaA5
import Derived.Test.YtdppjjdhidkjoaaA7
import Derived.Test.YtdppjjdhidkjoaaA8
import Derived.Test.YtdppjjdhidkjoaaA16
import Derived.Deep.QuietTactic
import Derived.BigQuiet
import Derived.Deep.AppendLies
import Derived.Test.YtdppjjdhidkjoaaA12
/- The times of a profile with two more. -/
namespace Go.Proofs.Ytdppjjdhidkjoaa
set_option linter.unusedSimpArgs false
set_option linter.unusedVariables false
set_option linter.unnecessarySimpa false
open Go.RowKit
def tmN (ps : List Q) (lo hi : Int) : Nat → List Int
  | 0 => ps.map (·.t)
  | 1 => insT lo (ps.map (·.t))
  | _ => timesL ps lo hi
def tmK (ps : List Q) (k : Nat) : List Int := (ps.take k).map (·.t)
theorem tmK_len (ps : List Q) (k : Nat) : (tmK ps k).length ≤ k := by unfold tmK; simp; omega
theorem tmK_succ {ps : List Q} {k : Nat} {q : Q} (h : ps[k]? = some q) : tmK ps (k + 1) = tmK ps k ++ [q.t] := by unfold tmK; rw [take_snoc' h, List.map_append, List.map_singleton]
theorem tmK_all {ps : List Q} {n : Nat} (h : ps.length = n) (lo hi : Int) : tmK ps n = tmN ps lo hi 0 := by unfold tmK; rw [take_all (by omega)]; rfl
theorem insT_len (t : Int) (xs : List Int) : (insT t xs).length ≤ xs.length + 1 := by
  induction xs with
  | nil => simp [insT]
  | cons x r ih =>
    unfold insT
    split
    · have := List.length_filter_le (fun y => decide (y ≠ t)) (x :: r)
      simp only [List.length_cons] at this ⊢; omega
    · simp only [List.length_cons]; omega
theorem tmN_len (ps : List Q) (lo hi : Int) (i : Nat) : (tmN ps lo hi i).length ≤ ps.length + 2 := by
  match i with
  | 0 => simp [tmN]
  | 1 => have := insT_len lo (ps.map (·.t)); simp [tmN] at this ⊢; omega
  | i + 2 => exact timesL_len ps lo hi
theorem insF_len (t : Int) : ∀ (xs : List Int) (s : List Int × Bool), (xs.foldl (insF t) s).1.length ≤ s.1.length + 2 * xs.length
  | [], s => by simp
  | x :: r, s => by
    have h := insF_len t r (insF t s x)
    have h1 : (insF t s x).1.length ≤ s.1.length + 2 := by unfold insF; split <;> (try split) <;> simp <;> (try split) <;> simp
    simp only [List.foldl_cons, List.length_cons]; omega
theorem fold_snoc {xs : List Int} {k : Nat} {x t : Int} (h : xs[k]? = some x) (s : List Int × Bool) : (xs.take (k + 1)).foldl (insF t) s = insF t ((xs.take k).foldl (insF t) s) x := by
  rw [take_snoc' h, List.foldl_append]; rfl

/-- What the inner loop keeps: the row that grows, and all that lay below. -/
structure TK (B : Nat) (w0 wr : World) (v : Value) (xs : List Int) : Prop where
  own : wr.ownsRow B 3 1 v xs.length (ints xs)
  bel : Below B w0 wr
  le : B ≤ w0.heap.size
theorem TK.put {B : Nat} {w0 wr wa w1 : World} {v v' : Value} {xs : List Int} {x : Int} (h : TK B w0 wr v xs) (hb : Below wr.heap.size wr wa) (hv : w1.ownsRow B 3 1 v' (xs.length + 1) (ints xs ++ [.int .i64 x])) (hg : wa.grownBy w1 v.ownBlock) : TK B w0 w1 v' (xs ++ [x]) := by
  have hs := h.bel.size
  have hs2 := hb.size
  have h1 := h.le
  exact ⟨by rw [ints_snoc, List.length_append]; exact hv, Below.grown (h.bel.trans (hb.mono (by omega))) hg (by omega) (fun k hk => own_ge h.own k hk), h.le⟩
theorem TK.bel' {B : Nat} {w0 wr w1 : World} {v : Value} {xs : List Int} (h : TK B w0 wr v xs) (hb : Below wr.heap.size wr w1) : TK B w0 w1 v xs :=
  ⟨own_bel h.own hb, h.bel.trans (hb.mono (Nat.le_trans h.le h.bel.size)), h.le⟩
end Go.Proofs.Ytdppjjdhidkjoaa

/- A profile that is changed over a span (reference). -/
namespace Go.Proofs.Ytdppjjdhidkjoaa
set_option linter.unusedSimpArgs false
set_option linter.unusedVariables false
set_option linter.unnecessarySimpa false
open Go.RowKit
theorem push_same {out : List Q} {q : Q} {t : Int} {v : V} (h : out.getLast? = some q) (ha : q.a = v.A) (hb : q.b = v.B) (hc : q.c = v.C) : push out t v = out := by
  unfold push; rw [h]; simp [Q.same, mkQ, ha, hb, hc]
theorem push_diff {out : List Q} {q : Q} {t : Int} {v : V} (h : out.getLast? = some q) (hn : ¬ (q.a = v.A ∧ q.b = v.B ∧ q.c = v.C)) : push out t v = out ++ [mkQ t v] := by
  unfold push; rw [h]
  have : q.same (mkQ t v) = false := by
    cases hs : q.same (mkQ t v) with
    | false => rfl
    | true => exact absurd (by simpa [Q.same, mkQ, and_assoc] using hs) hn
  simp [this]
theorem news9 {w : World} {cs : Array Value} {t : TypeId} {k : Nat} (hk : k = w.heap.size) : ∀ j u, cs.toList[j]? = some u → (w.alloc (.cells cs t)).cell? ((⟨k, 0, none⟩ : Addr).add j) = some u := World.news_of_block (heap_at (w := w) (.cells cs t) hk)
theorem push_nil (t : Int) (v : V) : push [] t v = [] ++ [mkQ t v] := rfl
theorem valAt_in {ps : List Q} {lo hi : Int} {f : V → V} {t : Int} (h1 : lo ≤ t) (h2 : t < hi) : valAt ps lo hi f t = f (freeV t ps) := by unfold valAt; rw [if_pos ⟨h1, h2⟩]
theorem valAt_out {ps : List Q} {lo hi : Int} {f : V → V} {t : Int} (h : ¬ (lo ≤ t ∧ t < hi)) : valAt ps lo hi f t = freeV t ps := by unfold valAt; rw [if_neg h]
def okTo (ps : List Q) (lo hi : Int) (fb : V → Bool) (l : List Int) : Prop := ∀ t ∈ l, lo ≤ t → t < hi → fb (freeV t ps) = true
theorem okTo_snoc {ps : List Q} {lo hi : Int} {fb : V → Bool} {T : List Int} {k : Nat} {x : Int} (h : okTo ps lo hi fb (T.take k)) (hx : T[k]? = some x) (hf : lo ≤ x → x < hi → fb (freeV x ps) = true) : okTo ps lo hi fb (T.take (k + 1)) := by
  rw [take_snoc' hx]
  intro t ht
  rcases List.mem_append.1 ht with ht | ht
  · exact h t ht
  · simp at ht; subst ht; exact hf
theorem okTo_all {ps : List Q} {lo hi : Int} {fb : V → Bool} (h : okTo ps lo hi fb (timesL ps lo hi)) : chgB ps lo hi fb = true := by
  unfold chgB
  rw [List.all_eq_true]
  intro t ht
  by_cases h1 : lo ≤ t ∧ t < hi
  · rw [h t ht h1.1 h1.2]; simp
  · have : (decide (lo ≤ t) && decide (t < hi)) = false := by
      cases hh : (decide (lo ≤ t) && decide (t < hi)) with
      | false => rfl
      | true => simp at hh; exact absurd hh h1
    rw [this]; rfl
theorem chg_bad {ps : List Q} {lo hi : Int} {fb : V → Bool} {k : Nat} {x : Int} (hx : (timesL ps lo hi)[k]? = some x) (h1 : lo ≤ x) (h2 : x < hi) (hf : fb (freeV x ps) = false) : chgB ps lo hi fb = false := by
  cases h : chgB ps lo hi fb with
  | false => rfl
  | true => have := chgB_at h (List.mem_of_getElem? hx) h1 h2; rw [hf] at this; cases this
/-- The truth and the profile of a change. -/
def cgB (ps : List Q) (lo hi : Int) (f : V → V) (fb : V → Bool) : Bool := chgB ps lo hi fb && decide ((chgV ps lo hi f).length ≤ 200)
def cgV (ps : List Q) (lo hi : Int) (f : V → V) (fb : V → Bool) : List Q := if cgB ps lo hi f fb then chgV ps lo hi f else []

end Go.Proofs.Ytdppjjdhidkjoaa

/- A profile that is changed over a span: adding (reference). -/
namespace Go.Proofs.Ytdppjjdhidkjoaa
set_option linter.unusedSimpArgs false
set_option linter.unusedVariables false
set_option linter.unnecessarySimpa false
open Go.RowKit

end Go.Proofs.Ytdppjjdhidkjoaa

/- Taking from a profile and giving back (reference). -/
namespace Go.Proofs.Ytdppjjdhidkjoaa
set_option linter.unusedSimpArgs false
set_option linter.unusedVariables false
set_option linter.unnecessarySimpa false
open Go.RowKit
def tkV (ps : List Q) (lo hi : Int) (v : V) : List Q := if takeB ps lo hi v then takeV ps lo hi v else []
def gvV (ps : List Q) (lo hi : Int) (v : V) : List Q := if giveB ps lo hi v then giveV ps lo hi v else []
theorem tk_eq {ps : List Q} {lo hi : Int} {v : V} (h : minB ps lo hi = true) : cgB ps lo hi (fun y => subV y v) (fun y => subB y v) = takeB ps lo hi v ∧ cgV ps lo hi (fun y => subV y v) (fun y => subB y v) = tkV ps lo hi v := by
  have e : cgB ps lo hi (fun y => subV y v) (fun y => subB y v) = takeB ps lo hi v := by
    unfold minB at h
    unfold cgB takeB
    rw [h]; rfl
  exact ⟨e, by unfold cgV tkV; rw [e]; rfl⟩
theorem gv_eq {ps : List Q} {lo hi : Int} {v : V} (h : minB ps lo hi = true) : cgB ps lo hi (fun y => addV y v) (fun y => addB y v) = giveB ps lo hi v ∧ cgV ps lo hi (fun y => addV y v) (fun y => addB y v) = gvV ps lo hi v := by
  have e : cgB ps lo hi (fun y => addV y v) (fun y => addB y v) = giveB ps lo hi v := by
    unfold minB at h
    unfold cgB giveB
    rw [h]; rfl
  exact ⟨e, by unfold cgV gvV; rw [e]; rfl⟩
theorem tk_no {ps : List Q} {lo hi : Int} {v : V} (h : minB ps lo hi = false) : takeB ps lo hi v = false ∧ tkV ps lo hi v = [] := by
  have e : takeB ps lo hi v = false := by unfold minB at h; unfold takeB; rw [h]; rfl
  exact ⟨e, by unfold tkV; rw [e]; rfl⟩
theorem gv_no {ps : List Q} {lo hi : Int} {v : V} (h : minB ps lo hi = false) : giveB ps lo hi v = false ∧ gvV ps lo hi v = [] := by
  have e : giveB ps lo hi v = false := by unfold minB at h; unfold giveB; rw [h]; rfl
  exact ⟨e, by unfold gvV; rw [e]; rfl⟩
end Go.Proofs.Ytdppjjdhidkjoaa
