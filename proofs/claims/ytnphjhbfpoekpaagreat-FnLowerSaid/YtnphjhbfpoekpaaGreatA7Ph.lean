import Derived.Test.YtnphjhbfpoekpaaGreatRows
import Derived.WalkKit
import Derived.Test.YtnphjhbfpoekpaaGreatA3Ph
import Derived.IntWalk
import Derived.Test.YtnphjhbfpoekpaaGreatA1Ph
import Derived.Deep.Light
import Derived.Test.YtnphjhbfpoekpaaGreatA5Ph
namespace Go.Proofs.YtnphjhbfpoekpaaGreat
set_option linter.unusedSimpArgs false
set_option linter.unusedVariables false
set_option linter.unnecessarySimpa false
open Go.RowKit
theorem rise_ext : ∀ {a b : List Int}, a.Pairwise (· < ·) → b.Pairwise (· < ·) → (∀ x, x ∈ a ↔ x ∈ b) → a = b
 | [], [], _, _, _ => rfl
 | [], y :: s, _, _, h => by have := (h y).2 (by simp); cases this
 | x :: r, [], _, _, h => by have := (h x).1 (by simp); cases this
 | x :: r, y :: s, ha, hb, h => by
  rw [List.pairwise_cons] at ha hb
  have hxy : x = y := by
   have h1 := (h x).1 (by simp)
   have h2 := (h y).2 (by simp)
   rw [List.mem_cons] at h1 h2
   rcases h1 with h1 | h1
   ·exact h1
   ·rcases h2 with h2 | h2
    ·exact h2.symm
    ·have := hb.1 x h1; have := ha.1 y h2; omega
  subst hxy
  congr 1
  refine rise_ext ha.2 hb.2 fun z => ?_
  have hz := h z
  simp only [List.mem_cons] at hz
  constructor
  ·intro hr
   rcases hz.1 (Or.inr hr) with e | e
   ·subst e; have := ha.1 z hr; omega
   ·exact e
  ·intro hr
   rcases hz.2 (Or.inr hr) with e | e
   ·subst e; have := hb.1 z hr; omega
   ·exact e
def insT (t : Int) : List Int → List Int
 | [] => [t]
 | x :: r => if t ≤ x then t :: (x :: r).filter (fun y => decide (y ≠ t)) else x :: insT t r
def insF (t : Int) (s : List Int × Bool) (x : Int) : List Int × Bool :=
 let s1 := if s.2 = false ∧ t ≤ x then (s.1 ++ [t], true) else s
 if x ≠ t then (s1.1 ++ [x], s1.2) else s1
def insE (t : Int) (s : List Int × Bool) : List Int := if s.2 then s.1 else s.1 ++ [t]
theorem insF_done (t : Int) : ∀ (xs acc : List Int), xs.foldl (insF t) (acc, true) = (acc ++ xs.filter (fun y => decide (y ≠ t)), true)
 | [], acc => by simp
 | x :: r, acc => by
  rw [List.foldl_cons]
  by_cases h : x = t
  ·have : insF t (acc, true) x = (acc, true) := by simp [insF, h]
   rw [this, insF_done t r]; simp [h]
  ·have : insF t (acc, true) x = (acc ++ [x], true) := by simp [insF, h]
   rw [this, insF_done t r]; simp [h]
theorem insF_all (t : Int) : ∀ (xs acc : List Int), insE t (xs.foldl (insF t) (acc, false)) = acc ++ insT t xs
 | [], acc => by simp [insE, insT]
 | x :: r, acc => by
  rw [List.foldl_cons]
  by_cases h : t ≤ x
  ·by_cases h2 : x = t
   ·have : insF t (acc, false) x = (acc ++ [t], true) := by simp [insF, h2]
    rw [this, insF_done]; simp [insE, insT, h, h2]
   ·have : insF t (acc, false) x = (acc ++ [t] ++ [x], true) := by simp [insF, h, h2]
    rw [this, insF_done]; simp [insE, insT, h, h2]
  ·have h2 : x ≠ t := by omega
   have : insF t (acc, false) x = (acc ++ [x], false) := by simp [insF, h, h2]
   rw [this, insF_all t r]; simp [insT, h]
theorem insT_mem (t : Int) : ∀ (xs : List Int) (y : Int), y ∈ insT t xs ↔ y = t ∨ y ∈ xs
 | [], y => by simp [insT]
 | x :: r, y => by
  unfold insT
  split
  ·simp only [List.mem_cons, List.mem_filter, decide_eq_true_eq]
   constructor
   ·rintro (h | ⟨h, _⟩)
    ·exact Or.inl h
    ·exact Or.inr h
   ·intro h
    by_cases e : y = t
    ·exact Or.inl e
    ·exact Or.inr ⟨h.resolve_left e, e⟩
  ·simp only [List.mem_cons, insT_mem t r y]
   constructor
   ·rintro (h | h | h)
    ·exact Or.inr (Or.inl h)
    ·exact Or.inl h
    ·exact Or.inr (Or.inr h)
   ·rintro (h | h | h)
    ·exact Or.inr (Or.inl h)
    ·exact Or.inl h
    ·exact Or.inr (Or.inr h)
theorem insT_rise (t : Int) : ∀ (xs : List Int), xs.Pairwise (· < ·) → (insT t xs).Pairwise (· < ·)
 | [], _ => by simp [insT]
 | x :: r, h => by
  rw [List.pairwise_cons] at h
  unfold insT
  split
  ·rename_i hle
   rw [List.pairwise_cons]
   refine ⟨?_, ?_⟩
   ·intro y hy
    simp only [List.mem_filter, List.mem_cons, decide_eq_true_eq] at hy
    rcases hy.1 with e | e
    ·have := hy.2; omega
    ·have := h.1 y e; omega
   ·exact List.Pairwise.filter _ (List.pairwise_cons.2 h)
  ·rename_i hle
   rw [List.pairwise_cons]
   refine ⟨?_, insT_rise t r h.2⟩
   intro y hy
   rcases (insT_mem t r y).1 hy with e | e
   ·omega
   ·exact h.1 y e
def rise (n : Int) : List Int → List Int
 | [] => [n]
 | x :: r => if n < x then n :: x :: r else x :: rise n r
def riseF (n : Int) (s : List Int × Bool) (x : Int) : List Int × Bool :=
 let s1 := if s.2 = false ∧ n < x then (s.1 ++ [n], true) else s
 (s1.1 ++ [x], s1.2)
theorem riseF_done (n : Int) : ∀ (xs acc : List Int), xs.foldl (riseF n) (acc, true) = (acc ++ xs, true)
 | [], acc => by simp
 | x :: r, acc => by rw [List.foldl_cons]; have : riseF n (acc, true) x = (acc ++ [x], true) := by simp [riseF]
                     rw [this, riseF_done n r]; simp
theorem riseF_all (n : Int) : ∀ (xs acc : List Int), insE n (xs.foldl (riseF n) (acc, false)) = acc ++ rise n xs
 | [], acc => by simp [insE, rise]
 | x :: r, acc => by
  rw [List.foldl_cons]
  by_cases h : n < x
  ·have : riseF n (acc, false) x = (acc ++ [n] ++ [x], true) := by simp [riseF, h]
   rw [this, riseF_done]; simp [insE, rise, h]
  ·have : riseF n (acc, false) x = (acc ++ [x], false) := by simp [riseF, h]
   rw [this, riseF_all n r]; simp [rise, h]
theorem rise_mem (n : Int) : ∀ (xs : List Int) (y : Int), y ∈ rise n xs ↔ y = n ∨ y ∈ xs
 | [], y => by simp [rise]
 | x :: r, y => by
  unfold rise
  split
  ·simp
  ·simp only [List.mem_cons, rise_mem n r y]
   constructor
   ·rintro (h | h | h)
    ·exact Or.inr (Or.inl h)
    ·exact Or.inl h
    ·exact Or.inr (Or.inr h)
   ·rintro (h | h | h)
    ·exact Or.inr (Or.inl h)
    ·exact Or.inl h
    ·exact Or.inr (Or.inr h)
theorem rise_rise (n : Int) : ∀ (xs : List Int), xs.Pairwise (· < ·) → n ∉ xs → (rise n xs).Pairwise (· < ·)
 | [], _, _ => by simp [rise]
 | x :: r, h, hn => by
  rw [List.pairwise_cons] at h
  simp only [List.mem_cons, not_or] at hn
  unfold rise
  split
  ·rename_i hlt
   rw [List.pairwise_cons, List.pairwise_cons]
   refine ⟨?_, h⟩
   intro y hy
   simp only [List.mem_cons] at hy
   rcases hy with e | e
   ·omega
   ·have := h.1 y e; omega
  ·rename_i hlt
   rw [List.pairwise_cons]
   refine ⟨?_, rise_rise n r h.2 hn.2⟩
   intro y hy
   rcases (rise_mem n r y).1 hy with e | e
   ·have := hn.1; omega
   ·exact h.1 y e
theorem rise_len (n : Int) : ∀ (xs : List Int), (rise n xs).length = xs.length + 1
 | [] => rfl
 | x :: r => by unfold rise; split <;> simp [rise_len n r]
theorem V.ext' {a b : V} (h1 : a.A = b.A) (h2 : a.B = b.B) (h3 : a.C = b.C) : a = b := by
 cases a; cases b; simp_all
theorem same_iff {p q : Q} : p.same q = true ↔ p.v = q.v := by
 unfold Q.same Q.v
 simp [and_assoc]
theorem same_no {p q : Q} : p.same q = false ↔ p.v ≠ q.v := by
 rw [← Bool.not_eq_true, same_iff]
def mkQ (t : Int) (v : V) : Q := ⟨t, v.A, v.B, v.C⟩
theorem mkQ_v (t : Int) (v : V) : (mkQ t v).v = v := rfl
theorem mkQ_t (t : Int) (v : V) : (mkQ t v).t = t := rfl
def push (out : List Q) (t : Int) (v : V) : List Q := match out.getLast? with
 | none => [mkQ t v]
 | some q => if q.same (mkQ t v) then out else out ++ [mkQ t v]
def chF (g : Int → V) (out : List Q) (t : Int) : List Q := push out t (g t)
def chL (g : Int → V) (tl : List Int) : List Q := tl.foldl (chF g) []
theorem chL_snoc (g : Int → V) (tl : List Int) (t : Int) : chL g (tl ++ [t]) = push (chL g tl) t (g t) := by simp [chL, chF]
theorem push_len (out : List Q) (t : Int) (v : V) : (push out t v).length ≤ out.length + 1 := by
 unfold push; split
 ·simp
 ·split <;> simp
theorem snoc_ind {α : Type} {P : List α → Prop} (h0 : P []) (h1 : ∀ l x, P l → P (l ++ [x])) (l : List α) : P l := by
 have key : ∀ n (l : List α), l.length = n → P l := by
  intro n
  induction n with
  | zero => intro l hl; rw [List.length_eq_zero_iff.1 hl]; exact h0
  | succ n ih =>
   intro l hl
   have hne : l ≠ [] := by intro e; rw [e] at hl; cases hl
   rw [← List.dropLast_concat_getLast hne]
   exact h1 _ _ (ih _ (by simp; omega))
 exact key _ l rfl
theorem chL_len (g : Int → V) (tl : List Int) : (chL g tl).length ≤ tl.length := by
 induction tl using snoc_ind with
 | h0 => simp [chL]
 | h1 l x ih => rw [chL_snoc]; have := push_len (chL g l) x (g x); simp; omega
structure Norm (ps : List Q) : Prop where
 lt : ∀ (k : Nat) p q, ps[k]? = some p → ps[k + 1]? = some q → p.t < q.t
 ne : ∀ (k : Nat) p q, ps[k]? = some p → ps[k + 1]? = some q → p.v ≠ q.v
theorem Norm.tail {p : Q} {r : List Q} (h : Norm (p :: r)) : Norm r := ⟨fun k a b ha hb => h.lt (k + 1) a b (by simpa using ha) (by simpa using hb), fun k a b ha hb => h.ne (k + 1) a b (by simpa using ha) (by simpa using hb)⟩
theorem Norm.all_gt : ∀ {r : List Q} {p : Q}, Norm (p :: r) → ∀ q ∈ r, p.t < q.t
 | [], _, _, q, hq => by cases hq
 | q' :: r, p, h, q, hq => by
  have h1 := h.lt 0 p q' rfl rfl
  rcases List.mem_cons.1 hq with e | e
  ·subst e; exact h1
  ·have := (Norm.all_gt h.tail) q e; omega
theorem norm_push {out : List Q} {t : Int} {v : V} (h : Norm out) (ht : ∀ q ∈ out, q.t < t) : Norm (push out t v) := by
 unfold push
 split
 ·constructor <;> intro k p q hp hq <;> simp at hq
 ·rename_i l hl
  split
  ·exact h
  ·rename_i hs
   have hs' : l.same (mkQ t v) = false := by simpa using hs
   have hln : l ∈ out := List.mem_of_getLast? hl
   have hlast : out[out.length - 1]? = some l := by rw [← List.getLast?_eq_getElem?]; exact hl
   have hpos : 0 < out.length := List.length_pos_of_mem hln
   have key : ∀ (k : Nat) p q, (out ++ [mkQ t v])[k]? = some p → (out ++ [mkQ t v])[k + 1]? = some q → (out[k]? = some p ∧ out[k + 1]? = some q) ∨ (p = l ∧ q = mkQ t v) := by
    intro k p q hp hq
    by_cases hk : k + 1 < out.length
    ·rw [List.getElem?_append_left (by omega)] at hp
     rw [List.getElem?_append_left hk] at hq
     exact Or.inl ⟨hp, hq⟩
    ·have hk2 : k + 1 = out.length := by
      rcases Nat.lt_or_ge out.length (k + 1) with h3 | h3
      ·rw [List.getElem?_eq_none (by simp; omega)] at hq; cases hq
      ·omega
     rw [List.getElem?_append_left (by omega), show k = out.length - 1 by omega, hlast] at hp
     rw [hk2, List.getElem?_append_right (by omega)] at hq
     simp at hq
     exact Or.inr ⟨(Option.some.inj hp).symm, hq.symm⟩
   constructor
   ·intro k p q hp hq
    rcases key k p q hp hq with ⟨a, b⟩ | ⟨rfl, rfl⟩
    ·exact h.lt k p q a b
    ·exact ht p hln
   ·intro k p q hp hq
    rcases key k p q hp hq with ⟨a, b⟩ | ⟨rfl, rfl⟩
    ·exact h.ne k p q a b
    ·exact same_no.1 hs'
theorem push_mem {out : List Q} {t : Int} {v : V} {q : Q} (h : q ∈ push out t v) : q ∈ out ∨ q = mkQ t v := by
 unfold push at h
 split at h
 ·right; simpa using h
 ·split at h
  ·exact Or.inl h
  ·rw [List.mem_append] at h
   rcases h with h | h
   ·exact Or.inl h
   ·right; simpa using h
theorem chL_mem (g : Int → V) (tl : List Int) : ∀ q ∈ chL g tl, q.t ∈ tl ∧ q.v = g q.t := by
 induction tl using snoc_ind with
 | h0 => intro q hq; simp [chL] at hq
 | h1 l x ih =>
  intro q hq
  rw [chL_snoc] at hq
  rcases push_mem hq with h | h
  ·exact ⟨by simp [(ih q h).1], (ih q h).2⟩
  ·subst h; exact ⟨by simp [mkQ], rfl⟩
theorem snoc_rise {l : List Int} {x : Int} (h : (l ++ [x]).Pairwise (· < ·)) : l.Pairwise (· < ·) ∧ ∀ y ∈ l, y < x := by
 rw [List.pairwise_append] at h
 exact ⟨h.1, fun y hy => h.2.2 y hy x (by simp)⟩
theorem chL_norm (g : Int → V) (tl : List Int) (h : tl.Pairwise (· < ·)) : Norm (chL g tl) := by
 induction tl using snoc_ind with
 | h0 => constructor <;> intro k p q hp <;> simp [chL] at hp
 | h1 l x ih =>
  obtain ⟨h1, h2⟩ := snoc_rise h
  rw [chL_snoc]
  exact norm_push (ih h1) fun q hq => h2 _ (chL_mem g l q hq).1
theorem chL_head (g : Int → V) (t : Int) (r : List Int) : (chL g (t :: r)).head? = some (mkQ t (g t)) := by
 induction r using snoc_ind with
 | h0 => simp [chL, chF, push]
 | h1 l x ih =>
  rw [← List.cons_append, chL_snoc]
  unfold push
  split
  ·rename_i h; rw [List.getLast?_eq_none_iff] at h; rw [h] at ih; cases ih
  ·split
   ·exact ih
   ·rw [List.head?_append, ih]; rfl
theorem freeV_snoc (t : Int) (ps : List Q) (q : Q) : freeV t (ps ++ [q]) = if q.t ≤ t then q.v else freeV t ps := by simp [freeV, freeF]
theorem freeV_last {t : Int} {ps : List Q} {q : Q} (hl : ps.getLast? = some q) (hq : q.t ≤ t) : freeV t ps = q.v := by
 have hne : ps ≠ [] := by intro e; rw [e] at hl; cases hl
 rw [← List.dropLast_concat_getLast hne] at hl ⊢
 rw [List.getLast?_append] at hl
 simp at hl
 rw [freeV_snoc, hl, if_pos hq]
def lastLe (t : Int) (tl : List Int) : Option Int := (tl.filter (fun s => decide (s ≤ t))).getLast?
theorem chL_free (g : Int → V) (tl : List Int) (h : tl.Pairwise (· < ·)) (t : Int) : freeV t (chL g tl) = match lastLe t tl with
  | some s => g s
  | none => V.zero := by
 induction tl using snoc_ind with
 | h0 => simp [chL, freeV, lastLe]
 | h1 l x ih =>
  obtain ⟨h1, h2⟩ := snoc_rise h
  have ih := ih h1
  rw [chL_snoc]
  by_cases hx : x ≤ t
  ·have e : lastLe t (l ++ [x]) = some x := by simp [lastLe, List.filter_append, hx]
   rw [e]
   simp only
   unfold push
   split
   ·simp [freeV, freeF, mkQ_t, hx, mkQ_v]
   ·rename_i q hq
    have hqm : q ∈ chL g l := List.mem_of_getLast? hq
    split
    ·rename_i hs
     have := same_iff.1 hs
     rw [mkQ_v] at this
     rw [freeV_last hq (by have := h2 _ (chL_mem g l q hqm).1; omega), this]
    ·rw [freeV_snoc, mkQ_t, if_pos hx, mkQ_v]
  ·have e : lastLe t (l ++ [x]) = lastLe t l := by simp [lastLe, List.filter_append, hx]
   rw [e, ← ih]
   unfold push
   split
   ·rename_i hn
    rw [List.getLast?_eq_none_iff] at hn
    simp [freeV, freeF, mkQ_t, hx, hn]
   ·split
    ·rfl
    ·rw [freeV_snoc, mkQ_t, if_neg hx]
theorem freeV_congr {s t : Int} : ∀ (ps : List Q) (v : V), (∀ q ∈ ps, (q.t ≤ s ↔ q.t ≤ t)) → ps.foldl (freeF s) v = ps.foldl (freeF t) v
 | [], _, _ => rfl
 | q :: r, v, h => by
  have h1 := h q (by simp)
  rw [List.foldl_cons, List.foldl_cons]
  have : freeF s v q = freeF t v q := by unfold freeF; simp only [h1]
  rw [this]
  exact freeV_congr r _ fun x hx => h x (by simp [hx])
def valAt (ps : List Q) (lo hi : Int) (f : V → V) (t : Int) : V := if lo ≤ t ∧ t < hi then f (freeV t ps) else freeV t ps
theorem lastLe_some {t : Int} {tl : List Int} {s : Int} (h : tl.Pairwise (· < ·)) (hs : lastLe t tl = some s) : s ∈ tl ∧ s ≤ t ∧ ∀ y ∈ tl, (y ≤ s ↔ y ≤ t) := by
 induction tl using snoc_ind with
 | h0 => simp [lastLe] at hs
 | h1 l x ih =>
  obtain ⟨h1, h2⟩ := snoc_rise h
  by_cases hx : x ≤ t
  ·have e : lastLe t (l ++ [x]) = some x := by simp [lastLe, List.filter_append, hx]
   rw [e] at hs
   obtain rfl := Option.some.inj hs
   refine ⟨by simp, hx, fun y hy => ?_⟩
   rw [List.mem_append] at hy
   rcases hy with hy | hy
   ·have := h2 y hy; constructor <;> intro _ <;> omega
   ·simp at hy; subst hy; constructor <;> intro _ <;> omega
  ·have e : lastLe t (l ++ [x]) = lastLe t l := by simp [lastLe, List.filter_append, hx]
   rw [e] at hs
   obtain ⟨a, b, c⟩ := ih h1 hs
   refine ⟨by simp [a], b, fun y hy => ?_⟩
   rw [List.mem_append] at hy
   rcases hy with hy | hy
   ·exact c y hy
   ·simp at hy; subst hy; constructor <;> intro _ <;> omega
theorem lastLe_ex {t : Int} {tl : List Int} {s0 : Int} (h0 : s0 ∈ tl) (h : s0 ≤ t) : ∃ s, lastLe t tl = some s := by
 unfold lastLe
 have hm : s0 ∈ tl.filter (fun s => decide (s ≤ t)) := by simp [h0, h]
 cases hl : (tl.filter (fun s => decide (s ≤ t))).getLast? with
 | none => rw [List.getLast?_eq_none_iff] at hl; rw [hl] at hm; cases hm
 | some s => exact ⟨s, rfl⟩
theorem valAt_const {ps : List Q} {lo hi : Int} {f : V → V} {tl : List Int} {s t : Int} (hlo : lo ∈ tl) (hhi : hi ∈ tl) (hps : ∀ q ∈ ps, q.t ∈ tl) (h : ∀ y ∈ tl, (y ≤ s ↔ y ≤ t)) : valAt ps lo hi f s = valAt ps lo hi f t := by
 have e : freeV s ps = freeV t ps := freeV_congr ps _ fun q hq => h _ (hps q hq)
 have h1 := h lo hlo
 have h2 := h hi hhi
 unfold valAt
 rw [e]
 by_cases hc : lo ≤ t ∧ t < hi
 ·rw [if_pos hc, if_pos (by omega)]
 ·rw [if_neg hc, if_neg (by omega)]
theorem change_free {ps : List Q} {lo hi : Int} {f : V → V} {tl : List Int} (hr : tl.Pairwise (· < ·)) (hlo : lo ∈ tl) (hhi : hi ∈ tl) (hps : ∀ q ∈ ps, q.t ∈ tl) (h0 : (0 : Int) ∈ tl) {t : Int} (ht : 0 ≤ t) :
  freeV t (chL (valAt ps lo hi f) tl) = valAt ps lo hi f t := by
 rw [chL_free _ _ hr]
 obtain ⟨s, hs⟩ := lastLe_ex h0 ht
 rw [hs]
 obtain ⟨_, _, h3⟩ := lastLe_some hr hs
 exact valAt_const hlo hhi hps h3
theorem profOk_norm {ps : List Q} (h : zAv ps = true) : Norm ps := by
 unfold zAv at h
 simp only [Bool.and_eq_true, decide_eq_true_eq, List.all_eq_true, List.mem_range] at h
 obtain ⟨⟨⟨h1, h2⟩, h3⟩, h4⟩ := h
 have key : ∀ (k : Nat) p q, ps[k]? = some p → ps[k + 1]? = some q → p.t < q.t ∧ p.same q = false := by
  intro k p q hp hq
  have hk : k + 1 < ps.length := (List.getElem?_eq_some_iff.1 hq).1
  have := h4 (k + 1) hk
  unfold ptOk at this
  rw [hq] at this
  simp only [Bool.and_eq_true, Bool.or_eq_true, decide_eq_true_eq] at this
  have h5 := this.2.resolve_left (by omega)
  rw [show k + 1 - 1 = k by omega, hp] at h5
  simpa using h5
 exact ⟨fun k p q hp hq => (key k p q hp hq).1, fun k p q hp hq => same_no.1 (key k p q hp hq).2⟩
theorem norm_profOk {ps : List Q} {q : Q} (h : Norm ps) (hq : ps.head? = some q) (h0 : q.t = 0) (hl : ps.length ≤ 200) (hok : ∀ q ∈ ps, q.ok = true) : zAv ps = true := by
 unfold zAv
 have h1 : 1 ≤ ps.length := by cases ps with
  | nil => cases hq
  | cons _ _ => simp
 simp only [Bool.and_eq_true, decide_eq_true_eq, List.all_eq_true, List.mem_range]
 refine ⟨⟨⟨h1, hl⟩, by rw [hq]; simp [h0]⟩, fun k hk => ?_⟩
 unfold ptOk
 rw [zgh hk]
 simp only [Bool.and_eq_true, Bool.or_eq_true, decide_eq_true_eq]
 refine ⟨hok _ (List.getElem_mem hk), ?_⟩
 cases k with
 | zero => exact Or.inl rfl
 | succ k =>
  right
  rw [show k + 1 - 1 = k by omega, zgh (by omega)]
  have e1 : ps[k]? = some (ps[k]'(by omega)) := zgh _
  have e2 : ps[k + 1]? = some ps[k + 1] := zgh _
  have := h.lt k _ _ e1 e2
  have h6 := h.ne k _ _ e1 e2
  simp [this, same_no.2 h6]
theorem freeV_ok {t : Int} : ∀ (ps : List Q) (v : V), v.ok = true → (∀ q ∈ ps, q.ok = true) → (ps.foldl (freeF t) v).ok = true
 | [], _, h, _ => h
 | q :: r, v, h, hq => by
  rw [List.foldl_cons]
  refine freeV_ok r _ ?_ fun x hx => hq x (by simp [hx])
  unfold freeF
  split
  ·have := hq q (by simp); unfold Q.ok at this; simp at this; exact this.2
  ·exact h
theorem zero_ok : V.zero.ok = true := by decide
theorem w_small (x : Int) (h : -2000001 ≤ x ∧ x ≤ 2000001) : wrap64 x = x := IntWalk.wrap64_in x (by omega)
def spanB (lo hi : Int) : Bool := timeB lo && timeB hi && decide (lo < hi)
theorem span_parts {lo hi : Int} (h : spanB lo hi = true) : 0 ≤ lo ∧ lo < hi ∧ hi ≤ 1000000000 := by
 simp [spanB, timeB, inB] at h; omega
def timesL (ps : List Q) (lo hi : Int) : List Int := insT hi (insT lo (ps.map (·.t)))
theorem timesL_mem {ps : List Q} {lo hi x : Int} : x ∈ timesL ps lo hi ↔ x = hi ∨ x = lo ∨ ∃ q ∈ ps, q.t = x := by
 unfold timesL
 rw [insT_mem, insT_mem, List.mem_map]
theorem map_rise : ∀ {ps : List Q}, Norm ps → (ps.map (·.t)).Pairwise (· < ·)
 | [], _ => by simp
 | p :: r, h => by
  rw [List.map_cons, List.pairwise_cons]
  refine ⟨fun x hx => ?_, map_rise h.tail⟩
  obtain ⟨q, hq, rfl⟩ := List.mem_map.1 hx
  exact h.all_gt q hq
theorem timesL_rise {ps : List Q} (h : Norm ps) (lo hi : Int) : (timesL ps lo hi).Pairwise (· < ·) := insT_rise _ _ (insT_rise _ _ (map_rise h))
theorem timesL_len (ps : List Q) (lo hi : Int) : (timesL ps lo hi).length ≤ ps.length + 2 := by
 have key : ∀ (t : Int) (xs : List Int), (insT t xs).length ≤ xs.length + 1 := by
  intro t xs
  induction xs with
  | nil => simp [insT]
  | cons x r ih =>
   unfold insT; split
   ·have := List.length_filter_le (fun y => decide (y ≠ t)) (x :: r); simp only [List.length_cons] at this ⊢; omega
   ·simp only [List.length_cons]; omega
 have h1 := key hi (insT lo (ps.map (·.t)))
 have h2 := key lo (ps.map (·.t))
 unfold timesL
 simp at h2 ⊢; omega
theorem timesL_uniq {ps : List Q} (h : Norm ps) {lo hi : Int} {l : List Int} (hl : l.Pairwise (· < ·)) (hm : ∀ x, x ∈ l ↔ x = hi ∨ x = lo ∨ ∃ q ∈ ps, q.t = x) : l = timesL ps lo hi :=
 rise_ext hl (timesL_rise h lo hi) fun x => by rw [hm, timesL_mem]
def chgV (ps : List Q) (lo hi : Int) (f : V → V) : List Q := chL (valAt ps lo hi f) (timesL ps lo hi)
def chgB (ps : List Q) (lo hi : Int) (fb : V → Bool) : Bool := (timesL ps lo hi).all fun t => !(decide (lo ≤ t) && decide (t < hi)) || fb (freeV t ps)
theorem chgB_at {ps : List Q} {lo hi : Int} {fb : V → Bool} (h : chgB ps lo hi fb = true) {t : Int} (ht : t ∈ timesL ps lo hi) (h1 : lo ≤ t) (h2 : t < hi) : fb (freeV t ps) = true := by
 unfold chgB at h
 rw [List.all_eq_true] at h
 have := h t ht
 simpa [h1, h2] using this
theorem chgB_all {ps : List Q} (hn : Norm ps) {lo hi : Int} {fb : V → Bool} : chgB ps lo hi fb = true ↔ ∀ t, lo ≤ t → t < hi → fb (freeV t ps) = true := by
 constructor
 ·intro h t h1 h2
  have hlo : lo ∈ timesL ps lo hi := timesL_mem.2 (Or.inr (Or.inl rfl))
  have hhi : hi ∈ timesL ps lo hi := timesL_mem.2 (Or.inl rfl)
  have hr := timesL_rise hn lo hi
  obtain ⟨s, hs⟩ := lastLe_ex hlo h1
  obtain ⟨hm, hle, hiff⟩ := lastLe_some hr hs
  have e : freeV s ps = freeV t ps := freeV_congr ps _ fun q hq => hiff _ (timesL_mem.2 (Or.inr (Or.inr ⟨q, hq, rfl⟩)))
  rw [← e]
  exact chgB_at h hm ((hiff lo hlo).2 h1) (by omega)
 ·intro h
  unfold chgB
  rw [List.all_eq_true]
  intro t _
  by_cases hc : lo ≤ t ∧ t < hi
  ·simp [hc.1, hc.2, h t hc.1 hc.2]
  ·simp; omega
theorem norm_head {ps : List Q} (h : zAv ps = true) : ∃ q r, ps = q :: r ∧ q.t = 0 := by
 obtain ⟨h1, _, h3, _, _⟩ := profOk_parts h
 cases ps with
 | nil => simp at h1
 | cons q r => exact ⟨q, r, rfl, by simpa using h3⟩
theorem timesL_zero {ps : List Q} (h : zAv ps = true) (lo hi : Int) : (0 : Int) ∈ timesL ps lo hi := by
 obtain ⟨q, r, rfl, h0⟩ := norm_head h
 exact timesL_mem.2 (Or.inr (Or.inr ⟨q, by simp, h0⟩))
theorem rise_min {l : List Int} {m : Int} (hr : l.Pairwise (· < ·)) (hm : m ∈ l) (hle : ∀ x ∈ l, m ≤ x) : ∃ r, l = m :: r := by
 cases l with
 | nil => cases hm
 | cons x r =>
  rw [List.pairwise_cons] at hr
  rcases List.mem_cons.1 hm with e | e
  ·subst e; exact ⟨r, rfl⟩
  ·have := hr.1 m e; have := hle x (by simp); omega
theorem timesL_bd {ps : List Q} (h : zAv ps = true) {lo hi : Int} (hs : spanB lo hi = true) : ∀ x ∈ timesL ps lo hi, 0 ≤ x ∧ x ≤ 1000000000 := by
 obtain ⟨_, _, _, hok, _⟩ := profOk_parts h
 have := span_parts hs
 intro x hx
 rcases timesL_mem.1 hx with e | e | ⟨q, hq, e⟩
 ·omega
 ·omega
 ·have := hok q hq; unfold Q.ok timeB inB at this; simp at this; omega
theorem timesL_head {ps : List Q} (h : zAv ps = true) {lo hi : Int} (hs : spanB lo hi = true) : ∃ r, timesL ps lo hi = 0 :: r :=
 rise_min (timesL_rise (profOk_norm h) lo hi) (timesL_zero h lo hi) fun x hx => (timesL_bd h hs x hx).1
theorem free_ok {ps : List Q} (h : zAv ps = true) (t : Int) : (freeV t ps).ok = true := freeV_ok ps _ zero_ok (profOk_parts h).2.2.2.1
theorem chg_ok {ps : List Q} (h : zAv ps = true) {lo hi : Int} (hs : spanB lo hi = true) {f : V → V} {fb : V → Bool} (hc : chgB ps lo hi fb = true) (hf : ∀ x, fb x = true → (f x).ok = true) : zAv (chgV ps lo hi f) = decide ((chgV ps lo hi f).length ≤ 200) := by
 by_cases hl : (chgV ps lo hi f).length ≤ 200
 ·rw [decide_eq_true hl]
  obtain ⟨r, hr⟩ := timesL_head h hs
  have hhead : (chgV ps lo hi f).head? = some (mkQ 0 (valAt ps lo hi f 0)) := by
   unfold chgV; rw [hr]; exact chL_head _ _ _
  refine norm_profOk (chL_norm _ _ (timesL_rise (profOk_norm h) lo hi)) hhead rfl hl ?_
  intro q hq
  obtain ⟨h1, h2⟩ := chL_mem _ _ q hq
  have hb := timesL_bd h hs _ h1
  have hv : (valAt ps lo hi f q.t).ok = true := by
   unfold valAt
   split
   ·rename_i hin
    exact hf _ (chgB_at hc h1 hin.1 hin.2)
   ·exact free_ok h _
  rw [← h2] at hv
  unfold Q.ok timeB inB
  have h3 : vecOkB q.a q.b q.c = true := hv
  simp [h3, hb.1, hb.2]
 ·rw [decide_eq_false hl]
  unfold zAv
  simp [hl]
theorem chg_free {ps : List Q} (h : zAv ps = true) {lo hi : Int} {f : V → V} {t : Int} (ht : 0 ≤ t) : freeV t (chgV ps lo hi f) = valAt ps lo hi f t :=
 change_free (timesL_rise (profOk_norm h) lo hi) (timesL_mem.2 (Or.inr (Or.inl rfl))) (timesL_mem.2 (Or.inl rfl)) (fun q hq => timesL_mem.2 (Or.inr (Or.inr ⟨q, hq, rfl⟩))) (timesL_zero h lo hi) ht
theorem chg_len (ps : List Q) (lo hi : Int) (f : V → V) : (chgV ps lo hi f).length ≤ ps.length + 2 := Nat.le_trans (chL_len _ _) (timesL_len _ _ _)
def takeV (ps : List Q) (lo hi : Int) (v : V) : List Q := chgV ps lo hi fun x => subV x v
def takeB (ps : List Q) (lo hi : Int) (v : V) : Bool := zAv ps && spanB lo hi && chgB ps lo hi (fun x => subB x v) && decide ((takeV ps lo hi v).length ≤ 200)
theorem sub_ok {x v : V} (h : subB x v = true) : (subV x v).ok = true ∧ x.ok = true ∧ v.ok = true := by
 simp only [subB, validB, Bool.and_eq_true] at h
 simp [subV, validV, h.1.1, h.1.2, h.2]
theorem ok_bd {v : V} (h : v.ok = true) : (0 ≤ v.A ∧ v.A ≤ 1000000) ∧ (0 ≤ v.B ∧ v.B ≤ 1000000) ∧ (0 ≤ v.C ∧ v.C ≤ 1000000) := by
 simp [V.ok, vecOkB, resB, inB] at h; omega
theorem sub_vals {x v : V} (h : subB x v = true) : (subV x v).A = x.A - v.A ∧ (subV x v).B = x.B - v.B ∧ (subV x v).C = x.C - v.C := by
 simp only [subB, validB, Bool.and_eq_true] at h
 have h1 := ok_bd h.1.1
 have h2 := ok_bd h.1.2
 have e : subV x v = difV x v := by simp [subV, validV, h.1.1, h.1.2, h.2]
 rw [e]
 show wrap64 (x.A - v.A) = x.A - v.A ∧ wrap64 (x.B - v.B) = x.B - v.B ∧ wrap64 (x.C - v.C) = x.C - v.C
 exact ⟨w_small _ (by omega), w_small _ (by omega), w_small _ (by omega)⟩
theorem take_parts {ps : List Q} {lo hi : Int} {v : V} (h : takeB ps lo hi v = true) : zAv ps = true ∧ spanB lo hi = true ∧ chgB ps lo hi (fun x => subB x v) = true ∧ (takeV ps lo hi v).length ≤ 200 := by
 simp only [takeB, Bool.and_eq_true, decide_eq_true_eq] at h
 exact ⟨h.1.1.1, h.1.1.2, h.1.2, h.2⟩
theorem take_ok {ps : List Q} {lo hi : Int} {v : V} (h : takeB ps lo hi v = true) : zAv (takeV ps lo hi v) = true := by
 obtain ⟨h1, h2, h3, h4⟩ := take_parts h
 unfold takeV at h4 ⊢
 rw [chg_ok h1 h2 h3 fun x hx => (sub_ok hx).1]
 exact decide_eq_true h4
theorem take_free {ps : List Q} {lo hi : Int} {v : V} (h : takeB ps lo hi v = true) {t : Int} (ht : 0 ≤ t) : freeV t (takeV ps lo hi v) = if lo ≤ t ∧ t < hi then subV (freeV t ps) v else freeV t ps := chg_free (take_parts h).1 ht
theorem take_sub {ps : List Q} {lo hi : Int} {v : V} (h : takeB ps lo hi v = true) {t : Int} (h1 : lo ≤ t) (h2 : t < hi) : subB (freeV t ps) v = true := by
 obtain ⟨a, b, c, d⟩ := take_parts h
 exact (chgB_all (profOk_norm a)).1 c t h1 h2
theorem pair_ext {α : Type} {r : α → α → Prop} (has : ∀ a b, r a b → r b a → False) (hir : ∀ a, ¬ r a a) : ∀ {a b : List α}, a.Pairwise r → b.Pairwise r → (∀ x, x ∈ a ↔ x ∈ b) → a = b
 | [], [], _, _, _ => rfl
 | [], y :: s, _, _, h => by have := (h y).2 (by simp); cases this
 | x :: t, [], _, _, h => by have := (h x).1 (by simp); cases this
 | x :: t, y :: s, ha, hb, h => by
  rw [List.pairwise_cons] at ha hb
  have hxy : x = y := by
   have h1 := (h x).1 (by simp)
   have h2 := (h y).2 (by simp)
   rw [List.mem_cons] at h1 h2
   rcases h1 with h1 | h1
   ·exact h1
   ·rcases h2 with h2 | h2
    ·exact h2.symm
    ·exact (has _ _ (hb.1 x h1) (ha.1 y h2)).elim
  subst hxy
  congr 1
  refine pair_ext has hir ha.2 hb.2 fun z => ?_
  have hz := h z
  simp only [List.mem_cons] at hz
  constructor
  ·intro hr
   rcases hz.1 (Or.inr hr) with e | e
   ·subst e; exact (hir _ (ha.1 z hr)).elim
   ·exact e
  ·intro hr
   rcases hz.2 (Or.inr hr) with e | e
   ·subst e; exact (hir _ (hb.1 z hr)).elim
   ·exact e
def riseAll (xs : List Int) : List Int := xs.foldl (fun o x => rise x o) []
theorem riseAll_snoc (xs : List Int) (x : Int) : riseAll (xs ++ [x]) = rise x (riseAll xs) := by simp [riseAll]
theorem riseAll_aux : ∀ (xs acc : List Int), acc.Pairwise (· < ·) → xs.Nodup → (∀ x ∈ xs, x ∉ acc) → (xs.foldl (fun o x => rise x o) acc).Pairwise (· < ·) ∧ (∀ y, y ∈ xs.foldl (fun o x => rise x o) acc ↔ y ∈ xs ∨ y ∈ acc) ∧ (xs.foldl (fun o x => rise x o) acc).length = xs.length + acc.length
 | [], acc, h, _, _ => ⟨h, by simp, by simp⟩
 | x :: r, acc, h, hn, hd => by
  rw [List.nodup_cons] at hn
  obtain ⟨a, b, c⟩ := riseAll_aux r (rise x acc) (rise_rise x acc h (hd x (by simp))) hn.2 (fun y hy hm => by
   rcases (rise_mem x acc y).1 hm with e | e
   ·subst e; exact hn.1 hy
   ·exact hd y (by simp [hy]) e)
  refine ⟨a, fun y => ?_, ?_⟩
  ·rw [List.foldl_cons, b y, rise_mem]
   simp only [List.mem_cons]
   constructor
   ·rintro (h | h | h)
    ·exact Or.inl (Or.inr h)
    ·exact Or.inl (Or.inl h)
    ·exact Or.inr h
   ·rintro ((h | h) | h)
    ·exact Or.inr (Or.inl h)
    ·exact Or.inl h
    ·exact Or.inr (Or.inr h)
  ·rw [List.foldl_cons, c, rise_len]; simp; omega
theorem riseAll_rise {xs : List Int} (h : xs.Nodup) : (riseAll xs).Pairwise (· < ·) := (riseAll_aux xs [] (by simp) h (by simp)).1
theorem riseAll_mem {xs : List Int} (h : xs.Nodup) (y : Int) : y ∈ riseAll xs ↔ y ∈ xs := by
 have := (riseAll_aux xs [] (by simp) h (by simp)).2.1 y
 simpa [riseAll] using this
theorem riseAll_len (xs : List Int) : (riseAll xs).length = xs.length := by
 have key : ∀ (xs acc : List Int), (xs.foldl (fun o x => rise x o) acc).length = xs.length + acc.length := by
  intro xs
  induction xs with
  | nil => intro acc; simp
  | cons x r ih => intro acc; rw [List.foldl_cons, ih, rise_len]; simp; omega
 simpa [riseAll] using key xs []
theorem riseAll_uniq {xs l : List Int} (h : xs.Nodup) (hp : l.Perm xs) (hs : l.Pairwise (· ≤ ·)) : l = riseAll xs := by
 have hn : l.Nodup := hp.nodup_iff.2 h
 have hlt : l.Pairwise (· < ·) := by
  have := hs.and hn
  exact this.imp fun {a b} ⟨h1, h2⟩ => by omega
 exact rise_ext hlt (riseAll_rise h) fun x => by rw [riseAll_mem h, hp.mem_iff]
section
variable (lf : Int → Nat) (mine : List Int)
def group (l : Nat) : List Int := mine.filter fun x => decide (lf x = l)
def cnt (l : Nat) : Nat := (group lf mine l).length
def bef (a b : Nat) : Prop := cnt lf mine b < cnt lf mine a ∨ (cnt lf mine a = cnt lf mine b ∧ a < b)
def distF (acc : List Nat) (x : Int) : List Nat := if lf x ∈ acc then acc else acc ++ [lf x]
def dist : List Nat := mine.foldl (distF lf) []
def IsL (L : List Nat) : Prop := L.Pairwise (bef lf mine) ∧ ∀ l, l ∈ L ↔ ∃ x ∈ mine, lf x = l
end
section
variable {lf : Int → Nat} {mine : List Int}
theorem bef_asymm (a b : Nat) (h : bef lf mine a b) (h' : bef lf mine b a) : False := by unfold bef at h h'; omega
theorem bef_irrefl (a : Nat) : ¬ bef lf mine a a := by unfold bef; omega
theorem bef_trans {a b c : Nat} (h : bef lf mine a b) (h' : bef lf mine b c) : bef lf mine a c := by unfold bef at *; omega
theorem bef_total {a b : Nat} (h : a ≠ b) : bef lf mine a b ∨ bef lf mine b a := by unfold bef; omega
theorem IsL.uniq {L M : List Nat} (h : IsL lf mine L) (h' : IsL lf mine M) : L = M := pair_ext bef_asymm bef_irrefl h.1 h'.1 fun x => by rw [h.2, h'.2]
theorem IsL.nodup {L : List Nat} (h : IsL lf mine L) : L.Nodup := h.1.imp fun {a b} hb e => by subst e; exact bef_irrefl a hb
theorem dist_aux : ∀ (xs : List Int) (acc : List Nat), acc.Nodup → (xs.foldl (distF lf) acc).Nodup ∧ ∀ l, l ∈ xs.foldl (distF lf) acc ↔ l ∈ acc ∨ ∃ x ∈ xs, lf x = l
 | [], acc, h => ⟨h, by simp⟩
 | x :: r, acc, h => by
  rw [List.foldl_cons]
  by_cases hm : lf x ∈ acc
  ·have e : distF lf acc x = acc := if_pos hm
   rw [e]
   obtain ⟨a, b⟩ := dist_aux r acc h
   refine ⟨a, fun l => ?_⟩
   rw [b]
   simp only [List.mem_cons, exists_eq_or_imp]
   constructor
   ·rintro (h | h)
    ·exact Or.inl h
    ·exact Or.inr (Or.inr h)
   ·rintro (h | h | h)
    ·exact Or.inl h
    ·exact Or.inl (h ▸ hm)
    ·exact Or.inr h
  ·have e : distF lf acc x = acc ++ [lf x] := if_neg hm
   rw [e]
   obtain ⟨a, b⟩ := dist_aux r (acc ++ [lf x]) (List.nodup_append.2 ⟨h, by simp, fun a ha b hb e => by simp at hb; subst e; subst hb; exact hm ha⟩)
   refine ⟨a, fun l => ?_⟩
   rw [b]
   simp only [List.mem_append, List.mem_cons, List.not_mem_nil, or_false, exists_eq_or_imp]
   constructor
   ·rintro ((h | h) | h)
    ·exact Or.inl h
    ·exact Or.inr (Or.inl h.symm)
    ·exact Or.inr (Or.inr h)
   ·rintro (h | h | h)
    ·exact Or.inl (Or.inl h)
    ·exact Or.inl (Or.inr h.symm)
    ·exact Or.inr h
theorem dist_nodup : (dist lf mine).Nodup := (dist_aux mine [] (by simp)).1
theorem dist_mem (l : Nat) : l ∈ dist lf mine ↔ ∃ x ∈ mine, lf x = l := by
 have := (dist_aux (lf := lf) mine [] (by simp)).2 l
 simpa [dist] using this
theorem isL_of {L : List Nat} (hp : L.Perm (dist lf mine)) (hs : L.Pairwise fun a b => ¬ bef lf mine b a) : IsL lf mine L := by
 have hn : L.Nodup := hp.nodup_iff.2 dist_nodup
 refine ⟨(hs.and hn).imp fun {a b} ⟨h1, h2⟩ => (bef_total h2).resolve_right h1, fun l => ?_⟩
 rw [hp.mem_iff, dist_mem]
instance (a b : Nat) : Decidable (bef lf mine a b) := by unfold bef; infer_instance
def insB (lf : Int → Nat) (mine : List Int) (x : Nat) : List Nat → List Nat
 | [] => [x]
 | y :: t => if bef lf mine x y then x :: y :: t else y :: insB lf mine x t
theorem insB_mem (x : Nat) : ∀ (L : List Nat) (l : Nat), l ∈ insB lf mine x L ↔ l = x ∨ l ∈ L
 | [], l => by simp [insB]
 | y :: t, l => by
  unfold insB
  split
  ·simp
  ·simp only [List.mem_cons, insB_mem x t l]
   constructor
   ·rintro (h | h | h)
    ·exact Or.inr (Or.inl h)
    ·exact Or.inl h
    ·exact Or.inr (Or.inr h)
   ·rintro (h | h | h)
    ·exact Or.inr (Or.inl h)
    ·exact Or.inl h
    ·exact Or.inr (Or.inr h)
theorem insB_ord (x : Nat) : ∀ (L : List Nat), L.Pairwise (bef lf mine) → x ∉ L → (insB lf mine x L).Pairwise (bef lf mine)
 | [], _, _ => by simp [insB]
 | y :: t, hp, hxy => by
  simp only [List.mem_cons, not_or] at hxy
  unfold insB
  split
  ·rename_i hb
   refine List.pairwise_cons.2 ⟨fun z hz => ?_, hp⟩
   rcases List.mem_cons.1 hz with e | e
   ·subst e; exact hb
   ·exact bef_trans hb ((List.pairwise_cons.1 hp).1 z e)
  ·rename_i hb
   refine List.pairwise_cons.2 ⟨fun z hz => ?_, insB_ord x t (List.pairwise_cons.1 hp).2 hxy.2⟩
   rcases (insB_mem x t z).1 hz with e | e
   ·subst e; exact (bef_total hxy.1).resolve_left hb
   ·exact (List.pairwise_cons.1 hp).1 z e
def sortL (lf : Int → Nat) (mine : List Int) : List Nat := (dist lf mine).foldr (insB lf mine) []
theorem sortL_isL (lf : Int → Nat) (mine : List Int) : IsL lf mine (sortL lf mine) := by
 have key : ∀ (xs : List Nat), xs.Nodup → (xs.foldr (insB lf mine) []).Pairwise (bef lf mine) ∧ ∀ l, l ∈ xs.foldr (insB lf mine) [] ↔ l ∈ xs := by
  intro xs
  induction xs with
  | nil => intro _; exact ⟨by simp, by simp⟩
  | cons x r ih =>
   intro hn
   rw [List.nodup_cons] at hn
   obtain ⟨h1, h2⟩ := ih hn.2
   rw [List.foldr_cons]
   exact ⟨insB_ord x _ h1 fun h => hn.1 ((h2 x).1 h), fun l => by rw [insB_mem, h2, List.mem_cons]⟩
 obtain ⟨h1, h2⟩ := key (dist lf mine) dist_nodup
 exact ⟨h1, fun l => by unfold sortL; rw [h2, dist_mem]⟩
theorem take_snoc_if {α : Type} (n : Nat) (xs : List α) (x : α) : (xs ++ [x]).take n = if (xs.take n).length < n then xs.take n ++ [x] else xs.take n := by
 by_cases h : xs.length < n
 ·rw [if_pos (by simp; omega), List.take_of_length_le (by simp; omega), List.take_of_length_le (by omega)]
 ·rw [if_neg (by simp; omega), List.take_append_of_le_length (by omega)]
theorem group_nodup (h : mine.Nodup) (l : Nat) : (group lf mine l).Nodup := h.filter _
theorem flatG_nodup (h : mine.Nodup) : ∀ {L : List Nat}, L.Nodup → (L.flatMap (group lf mine)).Nodup
 | [], _ => by simp
 | l :: r, hl => by
  rw [List.nodup_cons] at hl
  rw [List.flatMap_cons, List.nodup_append]
  refine ⟨group_nodup h l, flatG_nodup h hl.2, fun a ha b hb e => ?_⟩
  subst e
  simp only [group, List.mem_filter, decide_eq_true_eq] at ha
  obtain ⟨l', hl', hb'⟩ := List.mem_flatMap.1 hb
  simp only [group, List.mem_filter, decide_eq_true_eq] at hb'
  exact hl.1 (by rw [← ha.2, hb'.2]; exact hl')
theorem flatG_perm (h : mine.Nodup) {L : List Nat} (hL : IsL lf mine L) : (L.flatMap (group lf mine)).Perm mine := by
 refine (List.perm_ext_iff_of_nodup (flatG_nodup h hL.nodup) h).2 fun x => ?_
 rw [List.mem_flatMap]
 simp only [group, List.mem_filter, decide_eq_true_eq]
 constructor
 ·rintro ⟨l, _, hx, _⟩; exact hx
 ·intro hx; exact ⟨lf x, (hL.2 _).2 ⟨x, hx, rfl⟩, hx, rfl⟩
theorem flatG_len (h : mine.Nodup) {L : List Nat} (hL : IsL lf mine L) : (L.flatMap (group lf mine)).length = mine.length := (flatG_perm h hL).length_eq
def pickF (cn : Nat → Nat) (lp : Nat → Bool) (taken : List Nat) (best : Int) (s : Nat) : Int :=
 if cn s = 0 ∨ lp s = false ∨ s ∈ taken then best else if best < 0 ∨ cn best.toNat < cn s then (s : Int) else best
def pick (cn : Nat → Nat) (lp : Nat → Bool) (taken : List Nat) (N : Nat) : Int := (List.range N).foldl (pickF cn lp taken) (-1)
theorem pick_succ (cn : Nat → Nat) (lp : Nat → Bool) (taken : List Nat) (N : Nat) : pick cn lp taken (N + 1) = pickF cn lp taken (pick cn lp taken N) N := by simp [pick, List.range_succ]
def candB (cn : Nat → Nat) (lp : Nat → Bool) (taken : List Nat) (s : Nat) : Prop := cn s ≠ 0 ∧ lp s = true ∧ s ∉ taken
theorem pick_spec (cn : Nat → Nat) (lp : Nat → Bool) (taken : List Nat) : ∀ N, (pick cn lp taken N = -1 ∧ ∀ s, s < N → ¬ candB cn lp taken s) ∨
  ∃ b : Nat, pick cn lp taken N = b ∧ b < N ∧ candB cn lp taken b ∧ ∀ s, s < N → candB cn lp taken s → s ≠ b → cn s < cn b ∨ (cn s = cn b ∧ b < s)
 | 0 => Or.inl ⟨rfl, fun s hs => absurd hs (by omega)⟩
 | N + 1 => by
  rw [pick_succ]
  by_cases hc : candB cn lp taken N
  ·have hn : ¬ (cn N = 0 ∨ lp N = false ∨ N ∈ taken) := by
    unfold candB at hc; simp [hc.1, hc.2.1, hc.2.2]
   rcases pick_spec cn lp taken N with ⟨h1, h2⟩ | ⟨b, h1, h2, h3, h4⟩
   ·right
    refine ⟨N, by unfold pickF; rw [if_neg hn, h1, if_pos (Or.inl (by omega))], by omega, hc, fun s hs hcs hne => absurd hcs (h2 s (by omega))⟩
   ·right
    by_cases hlt : cn b < cn N
    ·refine ⟨N, by unfold pickF; rw [if_neg hn, h1, if_pos (Or.inr (by simpa using hlt))], by omega, hc, fun s hs hcs hne => ?_⟩
     by_cases e : s = b
     ·subst e; exact Or.inl hlt
     ·have := h4 s (by omega) hcs e; omega
    ·refine ⟨b, by unfold pickF; rw [if_neg hn, h1, if_neg (by simp; omega)], by omega, h3, fun s hs hcs hne => ?_⟩
     by_cases e : s = N
     ·subst e; omega
     ·exact h4 s (by omega) hcs hne
  ·have hn : cn N = 0 ∨ lp N = false ∨ N ∈ taken := by
    unfold candB at hc
    by_cases h1 : cn N = 0
    ·exact Or.inl h1
    ·by_cases h2 : lp N = true
     ·right; right
      exact Classical.byContradiction fun h3 => hc ⟨h1, h2, h3⟩
     ·right; left; simpa using h2
   have e : ∀ b, pickF cn lp taken b N = b := fun b => if_pos hn
   rw [e]
   rcases pick_spec cn lp taken N with ⟨h1, h2⟩ | ⟨b, h1, h2, h3, h4⟩
   ·left
    refine ⟨h1, fun s hs => ?_⟩
    by_cases e : s = N
    ·subst e; exact hc
    ·exact h2 s (by omega)
   ·right
    refine ⟨b, h1, by omega, h3, fun s hs hcs hne => ?_⟩
    by_cases e : s = N
    ·subst e; exact absurd hcs hc
    ·exact h4 s (by omega) hcs hne
theorem pick_L {cn : Nat → Nat} {lp : Nat → Bool} {N : Nat} {L : List Nat} (hL : IsL lf mine L) (hcn : ∀ l, lp l = true → cn l = cnt lf mine l) (hN : ∀ x ∈ mine, lf x < N) (hlp : ∀ x ∈ mine, lp (lf x) = true)
  {j : Nat} {l : Nat} (hj : L[j]? = some l) : pick cn lp (L.take j) N = l := by
 have hlL : l ∈ L := List.mem_of_getElem? hj
 obtain ⟨x, hx, hxl⟩ := (hL.2 l).1 hlL
 have hcand : ∀ s, s < N → (candB cn lp (L.take j) s ↔ s ∈ L.drop j) := by
  intro s _
  have hsplit : s ∈ L ↔ s ∈ L.take j ∨ s ∈ L.drop j := by rw [← List.mem_append, List.take_append_drop]
  have hnd : s ∈ L.take j → s ∉ L.drop j := by
   have := hL.nodup
   rw [← List.take_append_drop j L, List.nodup_append] at this
   intro h1 h2
   exact this.2.2 s h1 s h2 rfl
  unfold candB
  constructor
  ·rintro ⟨h1, h2, h3⟩
   rw [hcn s h2] at h1
   have : s ∈ L := (hL.2 s).2 (by
    unfold cnt group at h1
    have h5 : mine.filter (fun x => decide (lf x = s)) ≠ [] := fun e => h1 (by rw [e]; rfl)
    obtain ⟨y, hy⟩ := List.exists_mem_of_ne_nil _ h5
    simp only [List.mem_filter, decide_eq_true_eq] at hy
    exact ⟨y, hy.1, hy.2⟩)
   exact (hsplit.1 this).resolve_left h3
  ·intro h
   obtain ⟨y, hy, hys⟩ := (hL.2 s).1 (hsplit.2 (Or.inr h))
   have hl2 : lp s = true := by rw [← hys]; exact hlp y hy
   refine ⟨?_, hl2, fun h2 => hnd h2 h⟩
   rw [hcn s hl2]
   unfold cnt group
   intro e
   have h3 := List.length_eq_zero_iff.1 e
   have : y ∈ mine.filter (fun x => decide (lf x = s)) := by simp [hy, hys]
   rw [h3] at this; cases this
 have hjl : j < L.length := (List.getElem?_eq_some_iff.1 hj).1
 have hdrop : L.drop j = l :: L.drop (j + 1) := by
  rw [List.drop_eq_getElem_cons hjl]
  have := (List.getElem?_eq_some_iff.1 hj).2
  rw [this]
 have hlN : l < N := by rw [← hxl]; exact hN x hx
 have hlc : candB cn lp (L.take j) l := (hcand l hlN).2 (by rw [hdrop]; simp)
 rcases pick_spec cn lp (L.take j) N with ⟨_, h2⟩ | ⟨b, h1, h2, h3, h4⟩
 ·exact absurd hlc (h2 l hlN)
 ·rw [h1]
  by_cases e : l = b
  ·rw [e]
  ·exfalso
   have h5 := h4 l hlN hlc e
   have hbd := (hcand b h2).1 h3
   rw [hdrop] at hbd
   have hbl : b ∈ L.drop (j + 1) := (List.mem_cons.1 hbd).resolve_left (fun h => e h.symm)
   have hp : (L.drop j).Pairwise (bef lf mine) := hL.1.drop
   rw [hdrop, List.pairwise_cons] at hp
   have h6 := hp.1 b hbl
   rw [hcn l hlc.2.1, hcn b h3.2.1] at h5
   unfold bef at h6
   omega
def outV (lf : Int → Nat) (mine : List Int) (n : Nat) : List Int := riseAll (((sortL lf mine).flatMap (group lf mine)).take n)
theorem outV_of {n : Nat} {L : List Nat} (hL : IsL lf mine L) : outV lf mine n = riseAll ((L.flatMap (group lf mine)).take n) := by
 unfold outV; rw [(sortL_isL lf mine).uniq hL]
theorem outV_facts (h : mine.Nodup) {n : Nat} (hn : n ≤ mine.length) : (outV lf mine n).length = n ∧ (outV lf mine n).Pairwise (· < ·) ∧ ∀ x ∈ outV lf mine n, x ∈ mine := by
 have hL := sortL_isL lf mine
 unfold outV
 have hnd : (((sortL lf mine).flatMap (group lf mine)).take n).Nodup := (flatG_nodup h hL.nodup).sublist (List.take_sublist _ _)
 refine ⟨by rw [riseAll_len, List.length_take, flatG_len h hL]; omega, riseAll_rise hnd, fun x hx => ?_⟩
 have := (riseAll_mem hnd x).1 hx
 exact (flatG_perm h hL).mem_iff.1 (List.mem_of_mem_take this)
end
structure J where
 id : Int
 pr : Int
 nn : Int
 na : Int
 nb : Int
 nc : Int
 la : Int
 lb : Int
 lc : Int
 wl : Int
 lv : Int
def J.okB (j : J) : Bool := inB j.id 1 999 && inB j.pr 0 999 && inB j.nn 1 24 && vecOkB j.na j.nb j.nc && vecOkB j.la j.lb j.lc && inB j.wl 1 1000000 && inB j.lv 0 24
set_option maxHeartbeats 1000000 in
theorem jobOk_raw (j : J) (w : World) :
  Calls Tryz.prog 103 #[.agg #[.int .i64 j.id, .int .i64 j.pr, .int .i64 j.nn, .int .i64 j.na, .int .i64 j.nb, .int .i64 j.nc, .int .i64 j.la, .int .i64 j.lb, .int .i64 j.lc, .int .i64 j.wl, .int .i64 j.lv]] w fun e w' => e = .returned (.bool j.okB) ∧ Below w.heap.size w w' := by
 go_enter Tryz.func103, Tryz.ntmps103
 go_wp2_with (first | (go_at_call 54; refine (within_any _ _ _ _).mono ?_; rintro e w1 ⟨rfl, rfl⟩) | (go_at_call 101; refine (vecOk_raw _ _ _ _).mono ?_; rintro e w1 ⟨rfl, hb1⟩; obtain ⟨hc1, hf1⟩ := bcell hb1; have hs1 := hb1.size; (try simp at hs1); have hy10 : w.heap.size < w1.heap.size := (by omega); have hk10 := fun o => hc1 (w.heap.size) o zOm; have hg10 := fun o => hf1 (w.heap.size) o zOm; clear hc1 hf1))
 all_goals go_light
 all_goals go_ret
 all_goals refine ⟨zAl ?_, (by repeat (first | exact Below.refl _ _ | (refine zAc ?_ (zAa _ _)) | (refine zAc ?_ (by assumption)) | (refine Below.setCell ?_ (by simp <;> omega) _) | refine Below.drew ?_))⟩
 all_goals (simp only [J.okB]; simp_all)
set_option maxHeartbeats 1000000 in
theorem sjobOk_raw (j : J) (w : World) :
  Calls Tryz.prog 146 #[.agg #[.int .i64 j.id, .int .i64 j.pr, .int .i64 j.nn, .int .i64 j.na, .int .i64 j.nb, .int .i64 j.nc, .int .i64 j.la, .int .i64 j.lb, .int .i64 j.lc, .int .i64 j.wl, .int .i64 j.lv]] w fun e w' => e = .returned (.bool j.okB) ∧ Below w.heap.size w w' := by
 go_enter Tryz.func146, Tryz.ntmps146
 go_wp2_with (go_at_call 172; refine (svecOk_raw _ _ _ _).mono ?_; rintro e w1 ⟨rfl, hb1⟩; obtain ⟨hc1, hf1⟩ := bcell hb1; have hs1 := hb1.size; (try simp at hs1); have hy10 : w.heap.size < w1.heap.size := (by omega); have hk10 := fun o => hc1 (w.heap.size) o zOm; have hg10 := fun o => hf1 (w.heap.size) o zOm; clear hc1 hf1)
 all_goals go_light
 all_goals go_ret
 all_goals refine ⟨zAl ?_, (by repeat (first | exact Below.refl _ _ | (refine zAc ?_ (zAa _ _)) | (refine zAc ?_ (by assumption)) | (refine Below.setCell ?_ (by simp <;> omega) _) | refine Below.drew ?_))⟩
 all_goals (simp only [J.okB, inB]; grind)
def befJ (a b : J) : Prop := b.pr < a.pr ∨ (a.pr = b.pr ∧ a.id < b.id)
instance (a b : J) : Decidable (befJ a b) := by unfold befJ; infer_instance
theorem befJ_asymm (a b : J) (h : befJ a b) (h' : befJ b a) : False := by unfold befJ at h h'; omega
theorem befJ_irrefl (a : J) : ¬ befJ a a := by unfold befJ; omega
theorem befJ_trans {a b c : J} (h : befJ a b) (h' : befJ b c) : befJ a c := by unfold befJ at *; omega
theorem befJ_total {a b : J} (h : a.id ≠ b.id) : befJ a b ∨ befJ b a := by unfold befJ; omega
def insJ (j : J) : List J → List J
 | [] => [j]
 | x :: r => if befJ j x then j :: x :: r else x :: insJ j r
def insJF (j : J) (s : List J × Bool) (x : J) : List J × Bool :=
 let s1 := if s.2 = false ∧ befJ j x then (s.1 ++ [j], true) else s
 (s1.1 ++ [x], s1.2)
def insJE (j : J) (s : List J × Bool) : List J := if s.2 then s.1 else s.1 ++ [j]
theorem insJF_done (j : J) : ∀ (xs acc : List J), xs.foldl (insJF j) (acc, true) = (acc ++ xs, true)
 | [], acc => by simp
 | x :: r, acc => by
  rw [List.foldl_cons]
  have : insJF j (acc, true) x = (acc ++ [x], true) := by simp [insJF]
  rw [this, insJF_done j r]; simp
theorem insJF_all (j : J) : ∀ (xs acc : List J), insJE j (xs.foldl (insJF j) (acc, false)) = acc ++ insJ j xs
 | [], acc => by simp [insJE, insJ]
 | x :: r, acc => by
  rw [List.foldl_cons]
  by_cases h : befJ j x
  ·have : insJF j (acc, false) x = (acc ++ [j] ++ [x], true) := by simp [insJF, h]
   rw [this, insJF_done]; simp [insJE, insJ, h]
  ·have : insJF j (acc, false) x = (acc ++ [x], false) := by simp [insJF, h]
   rw [this, insJF_all j r]; simp [insJ, h]
theorem insJ_mem (j : J) : ∀ (xs : List J) (y : J), y ∈ insJ j xs ↔ y = j ∨ y ∈ xs
 | [], y => by simp [insJ]
 | x :: r, y => by
  unfold insJ
  split
  ·simp
  ·simp only [List.mem_cons, insJ_mem j r y]
   constructor
   ·rintro (h | h | h)
    ·exact Or.inr (Or.inl h)
    ·exact Or.inl h
    ·exact Or.inr (Or.inr h)
   ·rintro (h | h | h)
    ·exact Or.inr (Or.inl h)
    ·exact Or.inl h
    ·exact Or.inr (Or.inr h)
theorem insJ_len (j : J) : ∀ (xs : List J), (insJ j xs).length = xs.length + 1
 | [] => rfl
 | x :: r => by unfold insJ; split <;> simp [insJ_len j r]
theorem insJ_ord (j : J) : ∀ (xs : List J), xs.Pairwise befJ → (∀ x ∈ xs, x.id ≠ j.id) → (insJ j xs).Pairwise befJ
 | [], _, _ => by simp [insJ]
 | x :: r, h, hd => by
  rw [List.pairwise_cons] at h
  unfold insJ
  split
  ·rename_i hb
   rw [List.pairwise_cons, List.pairwise_cons]
   refine ⟨fun y hy => ?_, h⟩
   rcases List.mem_cons.1 hy with e | e
   ·subst e; exact hb
   ·exact befJ_trans hb (h.1 y e)
  ·rename_i hb
   rw [List.pairwise_cons]
   refine ⟨fun y hy => ?_, insJ_ord j r h.2 fun z hz => hd z (by simp [hz])⟩
   rcases (insJ_mem j r y).1 hy with e | e
   ·subst e; exact (befJ_total (hd x (by simp))).resolve_right hb
   ·exact h.1 y e
def orderV (l : List J) : List J := l.foldl (fun o j => insJ j o) []
theorem orderV_snoc (l : List J) (j : J) : orderV (l ++ [j]) = insJ j (orderV l) := by simp [orderV]
theorem orderV_len (l : List J) : (orderV l).length = l.length := by
 have key : ∀ (l acc : List J), (l.foldl (fun o j => insJ j o) acc).length = l.length + acc.length := by
  intro l
  induction l with
  | nil => intro acc; simp
  | cons x r ih => intro acc; rw [List.foldl_cons, ih, insJ_len]; simp; omega
 simpa [orderV] using key l []
theorem orderV_mem (l : List J) (y : J) : y ∈ orderV l ↔ y ∈ l := by
 have key : ∀ (l acc : List J), y ∈ l.foldl (fun o j => insJ j o) acc ↔ y ∈ l ∨ y ∈ acc := by
  intro l
  induction l with
  | nil => intro acc; simp
  | cons x r ih =>
   intro acc
   rw [List.foldl_cons, ih, insJ_mem]
   simp only [List.mem_cons]
   constructor
   ·rintro (h | h | h)
    ·exact Or.inl (Or.inr h)
    ·exact Or.inl (Or.inl h)
    ·exact Or.inr h
   ·rintro ((h | h) | h)
    ·exact Or.inr (Or.inl h)
    ·exact Or.inl h
    ·exact Or.inr (Or.inr h)
 simpa [orderV] using key l []
def distJ (l : List J) : Prop := l.Pairwise fun a b => a.id ≠ b.id
theorem orderV_ord {l : List J} (h : distJ l) : (orderV l).Pairwise befJ := by
 have key : ∀ (l acc : List J), acc.Pairwise befJ → distJ l → (∀ x ∈ l, ∀ y ∈ acc, y.id ≠ x.id) → (l.foldl (fun o j => insJ j o) acc).Pairwise befJ := by
  intro l
  induction l with
  | nil => intro acc h _ _; exact h
  | cons x r ih =>
   intro acc hacc hd hx
   unfold distJ at hd
   rw [List.pairwise_cons] at hd
   rw [List.foldl_cons]
   refine ih _ (insJ_ord x acc hacc (hx x (by simp))) hd.2 fun z hz y hy => ?_
   rcases (insJ_mem x acc y).1 hy with e | e
   ·subst e; exact hd.1 z hz
   ·exact hx z (by simp [hz]) y e
 exact key l [] (by simp) h (by simp)
theorem orderV_uniq {l d : List J} (h : distJ l) (hp : d.Perm l) (hs : d.Pairwise fun a b => ¬ befJ b a) : d = orderV l := by
 have hdd : distJ d := by
  unfold distJ at h ⊢
  exact (hp.pairwise_iff (fun {a b} hab => fun e => hab e.symm)).2 h
 have hb : d.Pairwise befJ := (hs.and hdd).imp fun {a b} ⟨h1, h2⟩ => (befJ_total h2).resolve_right h1
 exact pair_ext befJ_asymm befJ_irrefl hb (orderV_ord h) fun x => by rw [orderV_mem, hp.mem_iff]
def lfN (ns : List Q) (x : Int) : Nat := ((ns.getD x.toNat ⟨0, 0, 0, 0⟩).t).toNat
def inNodes (ns : List Q) (nodes : List Int) : Bool := nodes.all fun x => decide (0 ≤ x) && decide (x < ns.length)
def areB (ps : List Int) (ns : List Q) (nodes : List Int) : Bool := inNodes ns nodes && topoOkB ps ns
theorem inNodes_iff {ns : List Q} {nodes : List Int} : inNodes ns nodes = true ↔ ∀ x ∈ nodes, 0 ≤ x ∧ x < ns.length := by
 unfold inNodes; rw [List.all_eq_true]; simp
theorem lfN_ok {ps : List Int} {ns : List Q} (h : topoOkB ps ns = true) {x : Int} (h0 : 0 ≤ x) (h1 : x < ns.length) : lfN ns x < ps.length ∧ leafB ps (lfN ns x) = true ∧ ∃ q, ns[x.toNat]? = some q ∧ q.t = (lfN ns x : Int) ∧ q ∈ ns := by
 obtain ⟨_, _, _, _, _, _, hn⟩ := topo_parts h
 have hl : x.toNat < ns.length := by omega
 have hq : ns[x.toNat]? = some ns[x.toNat] := zgh hl
 have hm : ns[x.toNat] ∈ ns := List.getElem_mem hl
 have hok := hn _ hm
 unfold nodeOk at hok
 simp only [Bool.and_eq_true, decide_eq_true_eq] at hok
 have e : lfN ns x = (ns[x.toNat]).t.toNat := by unfold lfN; simp [List.getD, hq]
 have e2 : (lfN ns x : Int) = (ns[x.toNat]).t := by rw [e]; omega
 refine ⟨by omega, ?_, _, hq, e2.symm, hm⟩
 rw [← leafI_eq, e2]; exact hok.1.2
def undr (ps : List Int) (ns : List Q) (nodes : List Int) (s : Nat) : List Int := nodes.filter fun x => decide (s ∈ up ps (lfN ns x))
def goodB (ps : List Int) (ns : List Q) (nodes : List Int) (n : Nat) (most : Int) (s : Nat) : Prop := lev ps s ≤ most ∧ n ≤ (undr ps ns nodes s).length
instance (ps : List Int) (ns : List Q) (nodes : List Int) (n : Nat) (most : Int) (s : Nat) : Decidable (goodB ps ns nodes n most s) := by unfold goodB; infer_instance
def bestF (ps : List Int) (ns : List Q) (nodes : List Int) (n : Nat) (most : Int) (best : Int) (s : Nat) : Int :=
 if goodB ps ns nodes n most s ∧ (best < 0 ∨ lev ps s < lev ps best.toNat ∨ (lev ps s = lev ps best.toNat ∧ (undr ps ns nodes s).length < (undr ps ns nodes best.toNat).length)) then (s : Int) else best
def bestN (ps : List Int) (ns : List Q) (nodes : List Int) (n : Nat) (most : Int) (k : Nat) : Int := (List.range k).foldl (bestF ps ns nodes n most) (-1)
theorem bestN_succ (ps : List Int) (ns : List Q) (nodes : List Int) (n : Nat) (most : Int) (k : Nat) : bestN ps ns nodes n most (k + 1) = bestF ps ns nodes n most (bestN ps ns nodes n most k) k := by simp [bestN, List.range_succ]
theorem bestN_spec (ps : List Int) (ns : List Q) (nodes : List Int) (n : Nat) (most : Int) : ∀ k, (bestN ps ns nodes n most k = -1 ∧ ∀ s, s < k → ¬ goodB ps ns nodes n most s) ∨
  ∃ b : Nat, bestN ps ns nodes n most k = b ∧ b < k ∧ goodB ps ns nodes n most b ∧ ∀ s, s < k → goodB ps ns nodes n most s → lev ps b ≤ lev ps s
 | 0 => Or.inl ⟨rfl, fun s hs => absurd hs (by omega)⟩
 | k + 1 => by
  rw [bestN_succ]
  by_cases hc : goodB ps ns nodes n most k
  ·rcases bestN_spec ps ns nodes n most k with ⟨h1, h2⟩ | ⟨b, h1, h2, h3, h4⟩
   ·right
    refine ⟨k, by unfold bestF; rw [h1, if_pos ⟨hc, Or.inl (by omega)⟩], by omega, hc, fun s hs hcs => ?_⟩
    by_cases e : s = k
    ·subst e; exact Int.le_refl _
    ·exact absurd hcs (h2 s (by omega))
   ·right
    by_cases hle : lev ps k < lev ps b ∨ (lev ps k = lev ps b ∧ (undr ps ns nodes k).length < (undr ps ns nodes b).length)
    ·refine ⟨k, by unfold bestF; rw [h1, if_pos ⟨hc, Or.inr (by simpa using hle)⟩], by omega, hc, fun s hs hcs => ?_⟩
     by_cases e : s = k
     ·subst e; exact Int.le_refl _
     ·have := h4 s (by omega) hcs; omega
    ·refine ⟨b, by unfold bestF; rw [h1, if_neg (fun hx => by
      rcases hx.2 with h | h
      ·omega
      ·exact hle (by simpa using h))], by omega, h3, fun s hs hcs => ?_⟩
     by_cases e : s = k
     ·subst e; omega
     ·exact h4 s (by omega) hcs
  ·have e : ∀ b, bestF ps ns nodes n most b k = b := fun b => if_neg (fun hx => hc hx.1)
   rw [e]
   rcases bestN_spec ps ns nodes n most k with ⟨h1, h2⟩ | ⟨b, h1, h2, h3, h4⟩
   ·left
    refine ⟨h1, fun s hs => ?_⟩
    by_cases e : s = k
    ·subst e; exact hc
    ·exact h2 s (by omega)
   ·right
    refine ⟨b, h1, by omega, h3, fun s hs hcs => ?_⟩
    by_cases e : s = k
    ·subst e; exact absurd hcs hc
    ·exact h4 s (by omega) hcs
def chooseV (ps : List Int) (ns : List Q) (nodes : List Int) (n : Nat) (most : Int) : Option (List Int) :=
 if bestN ps ns nodes n most ps.length < 0 then none else some (outV (lfN ns) (undr ps ns nodes (bestN ps ns nodes n most ps.length).toNat) n)
def ascB (l : List Int) : Bool := decide (l.Pairwise (· < ·))
def ChooseV (ps : List Int) (ns : List Q) (nodes : List Int) (n most : Int) : Option (List Int) := if areB ps ns nodes && ascB nodes && decide (1 ≤ n) then chooseV ps ns nodes n.toNat most else none
theorem choose_some {ps : List Int} {ns : List Q} {nodes : List Int} {n : Nat} {most : Int} (hn : nodes.Nodup) {out : List Int} (h : chooseV ps ns nodes n most = some out) :
  ∃ b, b < ps.length ∧ goodB ps ns nodes n most b ∧ (∀ s, s < ps.length → goodB ps ns nodes n most s → lev ps b ≤ lev ps s) ∧ out.length = n ∧ out.Pairwise (· < ·) ∧ ∀ x ∈ out, x ∈ undr ps ns nodes b := by
 unfold chooseV at h
 split at h
 ·cases h
 ·rename_i hb
  have ho := Option.some.inj h
  rcases bestN_spec ps ns nodes n most ps.length with ⟨h1, h2⟩ | ⟨b, h1, h2, h3, h4⟩
  ·omega
  ·rw [h1] at ho
   simp only [Int.toNat_natCast] at ho
   have hnd : (undr ps ns nodes b).Nodup := hn.filter _
   obtain ⟨f1, f2, f3⟩ := outV_facts (lf := lfN ns) hnd (n := n) h3.2
   rw [ho] at f1 f2 f3
   exact ⟨b, h2, h3, h4, f1, f2, f3⟩
structure Rm where
 par : List Int
 nodes : List Q
 up : List Bool
 profs : List (List Q)
 lics : List Q
def Rm.okB (r : Rm) : Bool := topoOkB r.par r.nodes && decide (r.up.length = r.nodes.length) && decide (r.profs.length = r.nodes.length) && r.profs.all zAv && zAv r.lics
def J.need (j : J) : V := ⟨j.na, j.nb, j.nc⟩
def J.lic (j : J) : V := ⟨j.la, j.lb, j.lc⟩
def fitV (a b : V) : Bool := fitsB a.A a.B a.C b.A b.B b.C
def eligB (r : Rm) (need : V) (lo hi : Int) (i : Nat) : Bool := r.up.getD i false && fitV need (leastV lo hi (r.profs.getD i []))
def eligN (r : Rm) (need : V) (lo hi : Int) (k : Nat) : List Int := ((List.range k).filter (eligB r need lo hi)).map fun (i : Nat) => (i : Int)
def eligV (r : Rm) (need : V) (lo hi : Int) : List Int := eligN r need lo hi r.profs.length
def EligV (r : Rm) (need : V) (lo hi : Int) : List Int := if r.okB && need.ok && spanB lo hi then eligV r need lo hi else []
theorem eligN_succ (r : Rm) (need : V) (lo hi : Int) (k : Nat) : eligN r need lo hi (k + 1) = if eligB r need lo hi k then eligN r need lo hi k ++ [(k : Int)] else eligN r need lo hi k := by
 unfold eligN
 rw [List.range_succ, List.filter_append, List.map_append]
 by_cases h : eligB r need lo hi k <;> simp [h]
theorem eligN_rise (r : Rm) (need : V) (lo hi : Int) : ∀ k, (eligN r need lo hi k).Pairwise (· < ·) ∧ ∀ x ∈ eligN r need lo hi k, 0 ≤ x ∧ x < k ∧ eligB r need lo hi x.toNat = true
 | 0 => by simp [eligN]
 | k + 1 => by
  rw [eligN_succ]
  obtain ⟨h1, h2⟩ := eligN_rise r need lo hi k
  split
  ·rename_i hb
   refine ⟨List.pairwise_append.2 ⟨h1, by simp, fun a ha b hb => ?_⟩, fun x hx => ?_⟩
   ·simp at hb; subst hb; exact (h2 a ha).2.1
   ·rcases List.mem_append.1 hx with e | e
    ·have := h2 x e; exact ⟨this.1, by omega, this.2.2⟩
    ·simp at e; subst e; exact ⟨by omega, by omega, by simpa using hb⟩
  ·exact ⟨h1, fun x hx => by have := h2 x hx; exact ⟨this.1, by omega, this.2.2⟩⟩
theorem rise_nodup {l : List Int} (h : l.Pairwise (· < ·)) : l.Nodup := h.imp fun {a b} hab e => by omega
theorem room_parts {r : Rm} (h : r.okB = true) : topoOkB r.par r.nodes = true ∧ r.up.length = r.nodes.length ∧ r.profs.length = r.nodes.length ∧ (∀ p ∈ r.profs, zAv p = true) ∧ zAv r.lics = true := by
 simp only [Rm.okB, Bool.and_eq_true, decide_eq_true_eq, List.all_eq_true] at h
 exact ⟨h.1.1.1.1, h.1.1.1.2, h.1.1.2, h.1.2, h.2⟩
def tryV (r : Rm) (j : J) (t : Int) : Option (List Int) := if t + j.wl ≤ 1000000000 ∧ fitV j.lic (leastV t (t + j.wl) r.lics) = true then chooseV r.par r.nodes (eligV r j.need t (t + j.wl)) j.nn.toNat j.lv else none
def timesE (r : Rm) (from_ : Int) : List Int := (r.lics :: r.profs).foldl (fun o p => p.foldl (fun o q => if from_ < q.t then insT q.t o else o) o) [from_]
def firstV (r : Rm) (j : J) : List Int → Option (Int × List Int)
 | [] => none
 | t :: l => match tryV r j t with
  | some nd => some (t, nd)
  | none => firstV r j l
def earlV (r : Rm) (j : J) (from_ : Int) : Option (Int × List Int) := if r.okB && j.okB && timeB from_ then firstV r j (timesE r from_) else none
def changeAt (r : Rm) (x : Int) : Prop := ∃ p ∈ r.lics :: r.profs, ∃ q ∈ p, q.t = x
theorem timesE_spec (r : Rm) (from_ : Int) : (timesE r from_).Pairwise (· < ·) ∧ ∀ x, x ∈ timesE r from_ ↔ x = from_ ∨ (from_ < x ∧ changeAt r x) := by
 have h1 : ∀ (p : List Q) (o : List Int), o.Pairwise (· < ·) → (p.foldl (fun o q => if from_ < q.t then insT q.t o else o) o).Pairwise (· < ·) ∧ ∀ x, x ∈ p.foldl (fun o q => if from_ < q.t then insT q.t o else o) o ↔ x ∈ o ∨ (from_ < x ∧ ∃ q ∈ p, q.t = x) := by
  intro p
  induction p with
  | nil => intro o ho; exact ⟨ho, by simp⟩
  | cons q r ih =>
   intro o ho
   rw [List.foldl_cons]
   by_cases hq : from_ < q.t
   ·rw [if_pos hq]
    obtain ⟨a, b⟩ := ih (insT q.t o) (insT_rise _ _ ho)
    refine ⟨a, fun x => ?_⟩
    rw [b, insT_mem]
    simp only [List.mem_cons, exists_eq_or_imp]
    constructor
    ·rintro ((h | h) | ⟨h, h'⟩)
     ·subst h; exact Or.inr ⟨hq, Or.inl rfl⟩
     ·exact Or.inl h
     ·exact Or.inr ⟨h, Or.inr h'⟩
    ·rintro (h | ⟨h, h' | h'⟩)
     ·exact Or.inl (Or.inr h)
     ·exact Or.inl (Or.inl h'.symm)
     ·exact Or.inr ⟨h, h'⟩
   ·rw [if_neg hq]
    obtain ⟨a, b⟩ := ih o ho
    refine ⟨a, fun x => ?_⟩
    rw [b]
    simp only [List.mem_cons, exists_eq_or_imp]
    constructor
    ·rintro (h | ⟨h, h'⟩)
     ·exact Or.inl h
     ·exact Or.inr ⟨h, Or.inr h'⟩
    ·rintro (h | ⟨h, h' | h'⟩)
     ·exact Or.inl h
     ·subst h'; exact absurd h hq
     ·exact Or.inr ⟨h, h'⟩
 have h2 : ∀ (l : List (List Q)) (o : List Int), o.Pairwise (· < ·) → (l.foldl (fun o p => p.foldl (fun o q => if from_ < q.t then insT q.t o else o) o) o).Pairwise (· < ·) ∧ ∀ x, x ∈ l.foldl (fun o p => p.foldl (fun o q => if from_ < q.t then insT q.t o else o) o) o ↔ x ∈ o ∨ (from_ < x ∧ ∃ p ∈ l, ∃ q ∈ p, q.t = x) := by
  intro l
  induction l with
  | nil => intro o ho; exact ⟨ho, by simp⟩
  | cons p r ih =>
   intro o ho
   rw [List.foldl_cons]
   obtain ⟨a, b⟩ := h1 p o ho
   obtain ⟨a', b'⟩ := ih _ a
   refine ⟨a', fun x => ?_⟩
   rw [b', b]
   simp only [List.mem_cons, exists_eq_or_imp]
   constructor
   ·rintro ((h | ⟨h, h'⟩) | ⟨h, h'⟩)
    ·exact Or.inl h
    ·exact Or.inr ⟨h, Or.inl h'⟩
    ·exact Or.inr ⟨h, Or.inr h'⟩
   ·rintro (h | ⟨h, h' | h'⟩)
    ·exact Or.inl (Or.inl h)
    ·exact Or.inl (Or.inr ⟨h, h'⟩)
    ·exact Or.inr ⟨h, h'⟩
 obtain ⟨a, b⟩ := h2 (r.lics :: r.profs) [from_] (by simp)
 exact ⟨a, fun x => by unfold timesE; rw [b]; simp [changeAt]⟩
theorem timesE_uniq {r : Rm} {from_ : Int} {l : List Int} (h : l.Pairwise (· < ·)) (hm : ∀ x, x ∈ l ↔ x = from_ ∨ (from_ < x ∧ changeAt r x)) : l = timesE r from_ :=
 rise_ext h (timesE_spec r from_).1 fun x => by rw [hm, (timesE_spec r from_).2]
theorem first_none {r : Rm} {j : J} : ∀ {l : List Int}, (∀ t ∈ l, tryV r j t = none) → firstV r j l = none
 | [], _ => rfl
 | t :: l, h => by unfold firstV; rw [h t (by simp)]; exact first_none fun u hu => h u (by simp [hu])
theorem first_at {r : Rm} {j : J} : ∀ {l : List Int} {k : Nat} {t : Int} {nd : List Int}, l[k]? = some t → (∀ i u, i < k → l[i]? = some u → tryV r j u = none) → tryV r j t = some nd → firstV r j l = some (t, nd)
 | [], _, _, _, h, _, _ => by simp at h
 | x :: l, 0, t, nd, h, _, ht => by
  simp at h; subst h
  unfold firstV; rw [ht]
 | x :: l, k + 1, t, nd, h, hb, ht => by
  have h0 := hb 0 x (by omega) rfl
  have ih := first_at (l := l) (k := k) (by simpa using h) (fun i u hi hu => hb (i + 1) u (by omega) (by simpa using hu)) ht
  unfold firstV; rw [h0]; exact ih
theorem first_some {r : Rm} {j : J} : ∀ {l : List Int} {t : Int} {nd : List Int}, l.Pairwise (· < ·) → firstV r j l = some (t, nd) → t ∈ l ∧ tryV r j t = some nd ∧ ∀ u ∈ l, u < t → tryV r j u = none
 | [], _, _, _, h => by cases h
 | x :: l, t, nd, hp, h => by
  rw [List.pairwise_cons] at hp
  unfold firstV at h
  cases hx : tryV r j x with
  | some y =>
   rw [hx] at h
   simp only [Option.some.injEq, Prod.mk.injEq] at h
   obtain ⟨rfl, rfl⟩ := h
   exact ⟨by simp, hx, fun u hu hlt => by
    rcases List.mem_cons.1 hu with e | e
    ·omega
    ·have := hp.1 u e; omega⟩
  | none =>
   rw [hx] at h
   obtain ⟨a, b, c⟩ := first_some hp.2 h
   refine ⟨by simp [a], b, fun u hu hlt => ?_⟩
   rcases List.mem_cons.1 hu with e | e
   ·subst e; exact hx
   ·exact c u e hlt
def leV (a b : V) : Prop := a.A ≤ b.A ∧ a.B ≤ b.B ∧ a.C ≤ b.C
theorem leV.refl (a : V) : leV a a := ⟨Int.le_refl _, Int.le_refl _, Int.le_refl _⟩
theorem leV.trans {a b c : V} (h : leV a b) (h' : leV b c) : leV a c := ⟨Int.le_trans h.1 h'.1, Int.le_trans h.2.1 h'.2.1, Int.le_trans h.2.2 h'.2.2⟩
def takeO (lo hi : Int) (v : V) (ps : List Q) : Option (List Q) := if takeB ps lo hi v then some (takeV ps lo hi v) else none
def nodesV (mv : List Q → Option (List Q)) : List Int → List (List Q) → Option (List (List Q))
 | [], ps => some ps
 | n :: l, ps => match mv (ps.getD n.toNat []) with
  | none => none
  | some p => nodesV mv l (ps.set n.toNat p)
def jobNodesB (r : Rm) (j : J) (nodes : List Int) : Bool := decide nodes.Nodup && areB r.par r.nodes nodes && decide ((nodes.length : Int) = j.nn)
def movedV (mv : V → List Q → Option (List Q)) (r : Rm) (j : J) (nodes : List Int) : Option Rm :=
 if r.okB && j.okB && jobNodesB r j nodes then
  match nodesV (mv j.need) nodes r.profs with
  | none => none
  | some ps => match mv j.lic r.lics with
   | none => none
   | some l => some { r with profs := ps, lics := l }
 else none
def resV (r : Rm) (j : J) (at_ : Int) (nodes : List Int) : Option Rm := if timeB at_ then movedV (takeO at_ (at_ + j.wl)) r j nodes else none
theorem nodesV_spec {mv : List Q → Option (List Q)} : ∀ {nodes : List Int} {ps qs : List (List Q)}, nodes.Nodup → (∀ x ∈ nodes, 0 ≤ x ∧ x < ps.length) → nodesV mv nodes ps = some qs →
  qs.length = ps.length ∧ (∀ x ∈ nodes, mv (ps.getD x.toNat []) = some (qs.getD x.toNat [])) ∧ ∀ i : Nat, (i : Int) ∉ nodes → qs.getD i [] = ps.getD i []
 | [], ps, qs, _, _, h => by
  obtain rfl := Option.some.inj h
  exact ⟨rfl, by simp, fun i _ => rfl⟩
 | n :: l, ps, qs, hn, hr, h => by
  rw [List.nodup_cons] at hn
  unfold nodesV at h
  have hnr := hr n (by simp)
  cases hm : mv (ps.getD n.toNat []) with
  | none => rw [hm] at h; cases h
  | some p =>
   rw [hm] at h
   obtain ⟨a, b, c⟩ := nodesV_spec (ps := ps.set n.toNat p) hn.2 (fun x hx => by have := hr x (by simp [hx]); simpa using this) h
   have hget : ∀ i : Nat, i ≠ n.toNat → (ps.set n.toNat p).getD i [] = ps.getD i [] := by
    intro i hi
    simp only [List.getD, List.getElem?_set]
    rw [if_neg (fun e => hi e.symm)]
   have hself : (ps.set n.toNat p).getD n.toNat [] = p := by
    simp only [List.getD, List.getElem?_set]
    rw [if_pos trivial, if_pos (by omega)]; rfl
   refine ⟨by rw [a]; simp, fun x hx => ?_, fun i hi => ?_⟩
   ·rcases List.mem_cons.1 hx with e | e
    ·subst e
     have hni : ((x.toNat : Nat) : Int) ∉ l := by rw [Int.toNat_of_nonneg hnr.1]; exact hn.1
     rw [c _ hni, hself, hm]
    ·have hx0 := hr x (by simp [e])
     have hne : x.toNat ≠ n.toNat := fun e2 => hn.1 (by rw [show n = x by omega]; exact e)
     rw [← hget _ hne]
     exact b x e
   ·simp only [List.mem_cons, not_or] at hi
    rw [c i hi.2, hget i (by omega)]
theorem job_parts {r : Rm} {j : J} {nodes : List Int} (h : jobNodesB r j nodes = true) : nodes.Nodup ∧ (∀ x ∈ nodes, 0 ≤ x ∧ x < r.nodes.length) ∧ topoOkB r.par r.nodes = true ∧ (nodes.length : Int) = j.nn := by
 simp only [jobNodesB, areB, Bool.and_eq_true, decide_eq_true_eq] at h
 exact ⟨h.1.1, inNodes_iff.1 h.1.2.1, h.1.2.2, h.2⟩
theorem moved_some {mv : V → List Q → Option (List Q)} {r s : Rm} {j : J} {nodes : List Int} (h : movedV mv r j nodes = some s) :
  r.okB = true ∧ j.okB = true ∧ jobNodesB r j nodes = true ∧ s.par = r.par ∧ s.nodes = r.nodes ∧ s.up = r.up ∧ s.profs.length = r.profs.length ∧ mv j.lic r.lics = some s.lics ∧
  (∀ x ∈ nodes, mv j.need (r.profs.getD x.toNat []) = some (s.profs.getD x.toNat [])) ∧ ∀ i : Nat, (i : Int) ∉ nodes → s.profs.getD i [] = r.profs.getD i [] := by
 unfold movedV at h
 split at h
 ·rename_i hc
  simp only [Bool.and_eq_true] at hc
  obtain ⟨⟨h1, h2⟩, h3⟩ := hc
  obtain ⟨n1, n2, n3, n4⟩ := job_parts h3
  have hpl := (room_parts h1).2.2.1
  cases hm : nodesV (mv j.need) nodes r.profs with
  | none => rw [hm] at h; cases h
  | some ps =>
   rw [hm] at h
   simp only at h
   cases hl : mv j.lic r.lics with
   | none => rw [hl] at h; cases h
   | some l =>
    rw [hl] at h
    obtain rfl := Option.some.inj h
    obtain ⟨a, b, c⟩ := nodesV_spec n1 (fun x hx => by have := n2 x hx; omega) hm
    exact ⟨h1, h2, h3, rfl, rfl, rfl, a, rfl, b, c⟩
 ·cases h
theorem getD_mem {ps : List (List Q)} {i : Nat} (h : i < ps.length) : ps.getD i [] ∈ ps := by
 simp [List.getD, zgh h]
theorem takeO_some {lo hi : Int} {v : V} {a b : List Q} (h : takeO lo hi v a = some b) : takeB a lo hi v = true ∧ b = takeV a lo hi v := by
 unfold takeO at h
 split at h
 ·rename_i hc; exact ⟨hc, (Option.some.inj h).symm⟩
 ·cases h
theorem okB_mk {r : Rm} (h1 : topoOkB r.par r.nodes = true) (h2 : r.up.length = r.nodes.length) (h3 : r.profs.length = r.nodes.length) (h4 : ∀ i, i < r.profs.length → zAv (r.profs.getD i []) = true) (h5 : zAv r.lics = true) : r.okB = true := by
 simp only [Rm.okB, Bool.and_eq_true, decide_eq_true_eq, List.all_eq_true]
 refine ⟨⟨⟨⟨h1, h2⟩, h3⟩, fun p hp => ?_⟩, h5⟩
 obtain ⟨i, hi, rfl⟩ := List.getElem_of_mem hp
 have := h4 i hi
 simpa [List.getD, zgh hi] using this
theorem moved_ok {mv : V → List Q → Option (List Q)} (hmv : ∀ v a b, mv v a = some b → zAv b = true) {r s : Rm} {j : J} {nodes : List Int} (h : movedV mv r j nodes = some s) : s.okB = true := by
 obtain ⟨h1, h2, h3, e1, e2, e3, e4, hl, hn, ho⟩ := moved_some h
 obtain ⟨a, b, c, d, e⟩ := room_parts h1
 refine okB_mk (by rw [e1, e2]; exact a) (by rw [e3, e2]; exact b) (by rw [e4, e2]; exact c) (fun i hi => ?_) (hmv _ _ _ hl)
 by_cases hi2 : (i : Int) ∈ nodes
 ·have := hn i hi2
  simp only [Int.toNat_natCast] at this
  exact hmv _ _ _ this
 ·rw [ho i hi2]
  exact d _ (getD_mem (by omega))
theorem res_ok {r s : Rm} {j : J} {t : Int} {nodes : List Int} (h : resV r j t nodes = some s) : s.okB = true := by
 unfold resV at h
 split at h
 ·exact moved_ok (fun v a b hab => by obtain ⟨h1, rfl⟩ := takeO_some hab; exact take_ok h1) h
 ·cases h
def Rm.few (r : Rm) (m : Nat) : Prop := (∀ p ∈ r.profs, p.length ≤ m) ∧ r.lics.length ≤ m
theorem job_wl {j : J} (h : j.okB = true) : 1 ≤ j.wl ∧ j.wl ≤ 1000000 ∧ 1 ≤ j.nn ∧ j.nn ≤ 24 ∧ j.need.ok = true ∧ j.lic.ok = true := by
 unfold J.okB at h
 simp only [Bool.and_eq_true] at h
 obtain ⟨⟨⟨⟨⟨⟨h1, h2⟩, h3⟩, h4⟩, h5⟩, h6⟩, h7⟩ := h
 simp [inB] at h3 h6
 exact ⟨h6.1, h6.2, h3.1, h3.2, h4, h5⟩
theorem earl_some {r : Rm} {j : J} {f t : Int} {nodes : List Int} (h : earlV r j f = some (t, nodes)) : r.okB = true ∧ j.okB = true ∧ timeB f = true ∧ f ≤ t ∧ tryV r j t = some nodes ∧ ∀ u ∈ timesE r f, u < t → tryV r j u = none := by
 unfold earlV at h
 split at h
 ·rename_i hc
  simp only [Bool.and_eq_true] at hc
  obtain ⟨a, b, c⟩ := first_some (timesE_spec r f).1 h
  have := ((timesE_spec r f).2 t).1 a
  exact ⟨hc.1.1, hc.1.2, hc.2, by omega, b, c⟩
 ·cases h
structure Rs where
 j : J
 t : Int
 nd : List Int
def resR (r : Rm) (x : Rs) : Option Rm := resV r x.j x.t x.nd
def applyL : Rm → List Rs → Option Rm
 | r, [] => some r
 | r, x :: l => match resR r x with
  | none => none
  | some s => applyL s l
def locP (r : Rm) : Option Nat → List Q
 | none => r.lics
 | some i => r.profs.getD i []
def locOk (r : Rm) : Option Nat → Prop
 | none => True
 | some i => i < r.profs.length
def touch (x : Rs) : Option Nat → Prop
 | none => True
 | some i => (i : Int) ∈ x.nd
instance (x : Rs) (l : Option Nat) : Decidable (touch x l) := by cases l <;> unfold touch <;> infer_instance
def wantV (x : Rs) : Option Nat → V
 | none => x.j.lic
 | some _ => x.j.need
def useV (x : Rs) (l : Option Nat) (u : Int) : V := if touch x l ∧ x.t ≤ u ∧ u < x.t + x.j.wl then wantV x l else V.zero
def Rs.okIn (r : Rm) (x : Rs) : Prop := x.j.okB = true ∧ jobNodesB r x.j x.nd = true ∧ timeB x.t = true ∧ spanB x.t (x.t + x.j.wl) = true
theorem res_step {r s : Rm} {x : Rs} (h : resR r x = some s) : r.okB = true ∧ s.okB = true ∧ x.okIn r ∧ s.par = r.par ∧ s.nodes = r.nodes ∧ s.profs.length = r.profs.length ∧
  (∀ l, locOk r l → ∀ u, 0 ≤ u → (freeV u (locP s l)).A = (freeV u (locP r l)).A - (useV x l u).A ∧ (freeV u (locP s l)).B = (freeV u (locP r l)).B - (useV x l u).B ∧ (freeV u (locP s l)).C = (freeV u (locP r l)).C - (useV x l u).C) ∧
  ∀ m, r.few m → s.few (m + 2) := by
 have hs := res_ok h
 unfold resR resV at h
 split at h
 ·rename_i ht
  obtain ⟨h1, h2, h3, e1, e2, e3, e4, hl, hn, ho⟩ := moved_some h
  obtain ⟨hlb, hle⟩ := takeO_some hl
  have key : ∀ {v : V} {a b : List Q}, takeO x.t (x.t + x.j.wl) v a = some b → ∀ u, 0 ≤ u → (freeV u b).A = (freeV u a).A - (if x.t ≤ u ∧ u < x.t + x.j.wl then v else V.zero).A ∧ (freeV u b).B = (freeV u a).B - (if x.t ≤ u ∧ u < x.t + x.j.wl then v else V.zero).B ∧ (freeV u b).C = (freeV u a).C - (if x.t ≤ u ∧ u < x.t + x.j.wl then v else V.zero).C := by
   intro v a b hab u hu
   obtain ⟨hb, rfl⟩ := takeO_some hab
   rw [take_free hb hu]
   by_cases hc : x.t ≤ u ∧ u < x.t + x.j.wl
   ·rw [if_pos hc, if_pos hc]
    exact sub_vals (take_sub hb hc.1 hc.2)
   ·rw [if_neg hc, if_neg hc]
    simp [V.zero]
  refine ⟨h1, hs, ⟨h2, h3, ht, (take_parts hlb).2.1⟩, e1, e2, e4, fun l hlo u hu => ?_, fun m hm => ?_⟩
  ·cases l with
   | none =>
    have := key hl u hu
    simpa [useV, touch, wantV, locP] using this
   | some i =>
    by_cases hi : (i : Int) ∈ x.nd
    ·have h5 := hn i hi
     simp only [Int.toNat_natCast] at h5
     have := key h5 u hu
     simpa [useV, touch, wantV, locP, hi] using this
    ·have e : locP s (some i) = locP r (some i) := ho i hi
     rw [e]
     simp [useV, touch, hi, V.zero]
  ·have key2 : ∀ {v : V} {a b : List Q}, takeO x.t (x.t + x.j.wl) v a = some b → b.length ≤ a.length + 2 := by
    intro v a b hab
    obtain ⟨_, rfl⟩ := takeO_some hab
    exact chg_len _ _ _ _
   refine ⟨fun p hp => ?_, by have := key2 hl; have := hm.2; omega⟩
   obtain ⟨i, hi, rfl⟩ := List.getElem_of_mem hp
   have hg : s.profs.getD i [] = s.profs[i] := by simp [List.getD, zgh hi]
   have hr : (r.profs.getD i []).length ≤ m := hm.1 _ (getD_mem (by omega))
   by_cases hin : (i : Int) ∈ x.nd
   ·have h5 := hn i hin
    simp only [Int.toNat_natCast] at h5
    have := key2 h5
    rw [hg] at this; omega
   ·have := ho i hin
    rw [hg] at this; rw [this]; omega
 ·cases h
theorem apply_app : ∀ {P S : List Rs} {r s : Rm}, applyL r P = some s → applyL r (P ++ S) = applyL s S
 | [], S, r, s, h => by obtain rfl := Option.some.inj h; rfl
 | x :: P, S, r, s, h => by
  cases hx : resR r x with
  | none => simp [applyL, hx] at h
  | some q =>
   have h' : applyL q P = some s := by simpa [applyL, hx] using h
   have := apply_app (S := S) h'
   simpa [applyL, hx] using this
structure Hd where
 id : Int
 at_ : Int
 nd : List Int
def Rs.hd (x : Rs) : Hd := ⟨x.j.id, x.t, x.nd⟩
structure PS where
 r : Rm
 a : List Hd
 b : List Hd
def planF (now : Int) (depth : Int) (s : PS) (j : J) : PS := match earlV s.r j now with
 | none => s
 | some (t, nd) => if now < t ∧ depth ≤ s.b.length then s else match resV s.r j t nd with
  | none => s
  | some q => if t = now then ⟨q, s.a ++ [⟨j.id, t, nd⟩], s.b⟩ else ⟨q, s.a, s.b ++ [⟨j.id, t, nd⟩]⟩
def planL (now depth : Int) (s : PS) (l : List J) : PS := l.foldl (planF now depth) s
def queueB (l : List J) : Bool := decide (l.length ≤ 60) && l.all J.okB && decide (l.Pairwise fun a b => a.id ≠ b.id)
def planB (r : Rm) (now : Int) (l : List J) (depth : Int) : Bool := r.okB && queueB l && timeB now && inB depth 0 60
def planV (r : Rm) (now : Int) (l : List J) (depth : Int) : PS := planL now depth ⟨r, [], []⟩ (orderV l)
theorem queue_parts {l : List J} (h : queueB l = true) : l.length ≤ 60 ∧ (∀ j ∈ l, j.okB = true) ∧ distJ l := by
 simp only [queueB, Bool.and_eq_true, decide_eq_true_eq, List.all_eq_true] at h
 exact ⟨h.1.1, h.1.2, h.2⟩
structure PInv (r : Rm) (now depth : Int) (l : List J) (s : PS) (R : List Rs) : Prop where
 ap : applyL r R = some s.r
 pm : (s.a ++ s.b).Perm (R.map Rs.hd)
 sub : (R.map Rs.j).Sublist l
 an : ∀ h ∈ s.a, h.at_ = now
 bn : ∀ h ∈ s.b, now < h.at_
 bl : 0 ≤ depth → (s.b.length : Int) ≤ depth
theorem plan_inv (r : Rm) (now depth : Int) (l : List J) : ∃ R, PInv r now depth l (planL now depth ⟨r, [], []⟩ l) R := by
 induction l using snoc_ind with
 | h0 => exact ⟨[], ⟨rfl, by simp [planL], by simp, by simp [planL], by simp [planL], by simp [planL]⟩⟩
 | h1 l j ih =>
  obtain ⟨R, h⟩ := ih
  have e : planL now depth ⟨r, [], []⟩ (l ++ [j]) = planF now depth (planL now depth ⟨r, [], []⟩ l) j := by simp [planL]
  rw [e]
  generalize planL now depth ⟨r, [], []⟩ l = s at h ⊢
  have same : PInv r now depth (l ++ [j]) s R := ⟨h.ap, h.pm, h.sub.trans (List.sublist_append_left _ _), h.an, h.bn, h.bl⟩
  unfold planF
  cases he : earlV s.r j now with
  | none => exact ⟨R, same⟩
  | some p =>
   obtain ⟨t, nd⟩ := p
   simp only
   by_cases hc : now < t ∧ depth ≤ s.b.length
   ·rw [if_pos hc]; exact ⟨R, same⟩
   ·rw [if_neg hc]
    have hft := (earl_some he).2.2.2.1
    cases hq : resV s.r j t nd with
    | none => exact ⟨R, same⟩
    | some q =>
     simp only
     have hap : applyL r (R ++ [⟨j, t, nd⟩]) = some q := by
      rw [apply_app h.ap]
      unfold applyL resR
      simp only
      rw [hq]; rfl
     have hsub : ((R ++ [(⟨j, t, nd⟩ : Rs)]).map Rs.j).Sublist (l ++ [j]) := by
      rw [List.map_append]
      exact h.sub.append (List.Sublist.refl _)
     have hmap : (R ++ [(⟨j, t, nd⟩ : Rs)]).map Rs.hd = R.map Rs.hd ++ [⟨j.id, t, nd⟩] := by simp [Rs.hd]
     by_cases ht : t = now
     ·rw [if_pos ht]
      refine ⟨R ++ [⟨j, t, nd⟩], ⟨hap, ?_, hsub, ?_, h.bn, h.bl⟩⟩
      ·rw [hmap]
       show ((s.a ++ [_]) ++ s.b).Perm _
       have : ((s.a ++ [(⟨j.id, t, nd⟩ : Hd)]) ++ s.b).Perm ((s.a ++ s.b) ++ [⟨j.id, t, nd⟩]) := by
        rw [List.append_assoc, List.append_assoc]
        exact List.Perm.append_left _ List.perm_append_comm
       exact this.trans (h.pm.append_right _)
      ·intro x hx
       rcases List.mem_append.1 hx with e | e
       ·exact h.an x e
       ·simp at e; subst e; exact ht
     ·rw [if_neg ht]
      refine ⟨R ++ [⟨j, t, nd⟩], ⟨hap, ?_, hsub, h.an, ?_, ?_⟩⟩
      ·rw [hmap]
       show (s.a ++ (s.b ++ [_])).Perm _
       rw [← List.append_assoc]
       exact h.pm.append_right _
      ·intro x hx
       rcases List.mem_append.1 hx with e | e
       ·exact h.bn x e
       ·simp at e; subst e; show now < t; omega
      ·intro hd
       show ((s.b ++ [_]).length : Int) ≤ depth
       simp only [List.length_append, List.length_singleton]
       have : ¬ depth ≤ s.b.length := fun h5 => hc ⟨by omega, h5⟩
       omega
def findJ (l : List J) (id : Int) : Option J := l.find? fun j => decide (j.id = id)
def lowJ : J := ⟨999, 0, 1, 0, 0, 0, 0, 0, 0, 1, 24⟩
theorem insJ_end (j : J) : ∀ (xs : List J), (∀ x ∈ xs, ¬ befJ j x) → insJ j xs = xs ++ [j]
 | [], _ => rfl
 | x :: r, h => by
  unfold insJ
  rw [if_neg (h x (by simp)), insJ_end j r fun y hy => h y (by simp [hy])]; rfl
theorem order_low {l : List J} (h : queueB l = true) (hid : ∀ j ∈ l, j.id ≠ 999) : orderV (l ++ [lowJ]) = orderV l ++ [lowJ] := by
 rw [orderV_snoc]
 refine insJ_end _ _ fun x hx => ?_
 have hx' := (orderV_mem l x).1 hx
 obtain ⟨_, q2, _⟩ := queue_parts h
 have h1 := q2 x hx'
 have h2 := hid x hx'
 unfold J.okB at h1
 simp only [Bool.and_eq_true] at h1
 obtain ⟨⟨⟨⟨⟨⟨a, b⟩, _⟩, _⟩, _⟩, _⟩, _⟩ := h1
 simp [inB] at a b
 unfold befJ lowJ
 simp only
 omega
theorem queue_low {l : List J} (h : queueB l = true) (hl : l.length ≠ 60) (hid : ∀ j ∈ l, j.id ≠ 999) : queueB (l ++ [lowJ]) = true := by
 obtain ⟨q1, q2, q3⟩ := queue_parts h
 simp only [queueB, Bool.and_eq_true, decide_eq_true_eq, List.all_eq_true]
 refine ⟨⟨by simp; omega, fun j hj => ?_⟩, ?_⟩
 ·rcases List.mem_append.1 hj with e | e
  ·exact q2 j e
  ·simp at e; subst e; decide
 ·refine List.pairwise_append.2 ⟨q3, by simp, fun a ha b hb => ?_⟩
  simp at hb; subst hb
  exact hid a ha
theorem plan_low {r : Rm} {now depth : Int} {l : List J} (h : planB r now l depth = true) (hl : l.length ≠ 60) (hid : ∀ j ∈ l, j.id ≠ 999) : planB r now (l ++ [lowJ]) depth = true ∧
  ∃ x y : List Hd, (planV r now (l ++ [lowJ]) depth).a = (planV r now l depth).a ++ x ∧ (planV r now (l ++ [lowJ]) depth).b = (planV r now l depth).b ++ y ∧ x.length + y.length ≤ 1 := by
 simp only [planB, Bool.and_eq_true] at h ⊢
 obtain ⟨⟨⟨hr, hq⟩, hnow⟩, hdep⟩ := h
 refine ⟨⟨⟨⟨hr, queue_low hq hl hid⟩, hnow⟩, hdep⟩, ?_⟩
 unfold planV
 rw [order_low hq hid]
 have e : planL now depth ⟨r, [], []⟩ (orderV l ++ [lowJ]) = planF now depth (planL now depth ⟨r, [], []⟩ (orderV l)) lowJ := by simp [planL]
 rw [e]
 generalize planL now depth ⟨r, [], []⟩ (orderV l) = s
 unfold planF
 have same : ∃ x y : List Hd, s.a = s.a ++ x ∧ s.b = s.b ++ y ∧ x.length + y.length ≤ 1 := ⟨[], [], by simp, by simp, by simp⟩
 split
 ·exact same
 ·split
  ·exact same
  ·split
   ·exact same
   ·split
    ·exact ⟨[_], [], rfl, by simp, by simp⟩
    ·exact ⟨[], [_], by simp, rfl, by simp⟩
end Go.Proofs.YtnphjhbfpoekpaaGreat
