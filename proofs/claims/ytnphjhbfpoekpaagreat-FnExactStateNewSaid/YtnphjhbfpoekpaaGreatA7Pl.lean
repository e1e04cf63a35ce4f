import Derived.Test.YtnphjhbfpoekpaaGreatRows
import Derived.WalkKit
import Derived.Test.YtnphjhbfpoekpaaGreatA3Pl
import Derived.IntWalk
import Derived.Test.YtnphjhbfpoekpaaGreatA1Pl
import Derived.Deep.Light
import Derived.Test.YtnphjhbfpoekpaaGreatA5Pl
namespace Go.Proofs.YtnphjhbfpoekpaaGreat
set_option linter.unusedSimpArgs false
set_option linter.unusedVariables false
set_option linter.unnecessarySimpa false
open Go.RowKit
theorem rise_ext : ∀ {a b : List Int}, a.Pairwise (· < ·) → b.Pairwise (· < ·) → (∀ x, x ∈ a ↔ x ∈ b) → a = b
 | [], [], _, _, _ => rfl
 | [], y :: s, _, _, h => by have := (h y).2 (by simp); cases this
 | x :: r, [], _, _, h => by have := (h x).1 (by simp); cases this
 | x :: r, y :: s, ha, hb, h => by
  rw [List.pairwise_cons] at ha hb
  have hxy : x = y := by
   have h1 := (h x).1 (by simp)
   have h2 := (h y).2 (by simp)
   rw [List.mem_cons] at h1 h2
   rcases h1 with h1 | h1
   ·exact h1
   ·rcases h2 with h2 | h2
    ·exact h2.symm
    ·have := hb.1 x h1; have := ha.1 y h2; omega
  subst hxy
  congr 1
  refine rise_ext ha.2 hb.2 fun z => ?_
  have hz := h z
  simp only [List.mem_cons] at hz
  constructor
  ·intro hr
   rcases hz.1 (Or.inr hr) with e | e
   ·subst e; have := ha.1 z hr; omega
   ·exact e
  ·intro hr
   rcases hz.2 (Or.inr hr) with e | e
   ·subst e; have := hb.1 z hr; omega
   ·exact e
def insT (t : Int) : List Int → List Int
 | [] => [t]
 | x :: r => if t ≤ x then t :: (x :: r).filter (fun y => decide (y ≠ t)) else x :: insT t r
def insF (t : Int) (s : List Int × Bool) (x : Int) : List Int × Bool :=
 let s1 := if s.2 = false ∧ t ≤ x then (s.1 ++ [t], true) else s
 if x ≠ t then (s1.1 ++ [x], s1.2) else s1
def insE (t : Int) (s : List Int × Bool) : List Int := if s.2 then s.1 else s.1 ++ [t]
theorem insF_done (t : Int) : ∀ (xs acc : List Int), xs.foldl (insF t) (acc, true) = (acc ++ xs.filter (fun y => decide (y ≠ t)), true)
 | [], acc => by simp
 | x :: r, acc => by
  rw [List.foldl_cons]
  by_cases h : x = t
  ·have : insF t (acc, true) x = (acc, true) := by simp [insF, h]
   rw [this, insF_done t r]; simp [h]
  ·have : insF t (acc, true) x = (acc ++ [x], true) := by simp [insF, h]
   rw [this, insF_done t r]; simp [h]
theorem insF_all (t : Int) : ∀ (xs acc : List Int), insE t (xs.foldl (insF t) (acc, false)) = acc ++ insT t xs
 | [], acc => by simp [insE, insT]
 | x :: r, acc => by
  rw [List.foldl_cons]
  by_cases h : t ≤ x
  ·by_cases h2 : x = t
   ·have : insF t (acc, false) x = (acc ++ [t], true) := by simp [insF, h2]
    rw [this, insF_done]; simp [insE, insT, h, h2]
   ·have : insF t (acc, false) x = (acc ++ [t] ++ [x], true) := by simp [insF, h, h2]
    rw [this, insF_done]; simp [insE, insT, h, h2]
  ·have h2 : x ≠ t := by omega
   have : insF t (acc, false) x = (acc ++ [x], false) := by simp [insF, h, h2]
   rw [this, insF_all t r]; simp [insT, h]
theorem insT_mem (t : Int) : ∀ (xs : List Int) (y : Int), y ∈ insT t xs ↔ y = t ∨ y ∈ xs
 | [], y => by simp [insT]
 | x :: r, y => by
  unfold insT
  split
  ·simp only [List.mem_cons, List.mem_filter, decide_eq_true_eq]
   constructor
   ·rintro (h | ⟨h, _⟩)
    ·exact Or.inl h
    ·exact Or.inr h
   ·intro h
    by_cases e : y = t
    ·exact Or.inl e
    ·exact Or.inr ⟨h.resolve_left e, e⟩
  ·simp only [List.mem_cons, insT_mem t r y]
   constructor
   ·rintro (h | h | h)
    ·exact Or.inr (Or.inl h)
    ·exact Or.inl h
    ·exact Or.inr (Or.inr h)
   ·rintro (h | h | h)
    ·exact Or.inr (Or.inl h)
    ·exact Or.inl h
    ·exact Or.inr (Or.inr h)
theorem insT_rise (t : Int) : ∀ (xs : List Int), xs.Pairwise (· < ·) → (insT t xs).Pairwise (· < ·)
 | [], _ => by simp [insT]
 | x :: r, h => by
  rw [List.pairwise_cons] at h
  unfold insT
  split
  ·rename_i hle
   rw [List.pairwise_cons]
   refine ⟨?_, ?_⟩
   ·intro y hy
    simp only [List.mem_filter, List.mem_cons, decide_eq_true_eq] at hy
    rcases hy.1 with e | e
    ·have := hy.2; omega
    ·have := h.1 y e; omega
   ·exact List.Pairwise.filter _ (List.pairwise_cons.2 h)
  ·rename_i hle
   rw [List.pairwise_cons]
   refine ⟨?_, insT_rise t r h.2⟩
   intro y hy
   rcases (insT_mem t r y).1 hy with e | e
   ·omega
   ·exact h.1 y e
theorem same_iff {p q : Q} : p.same q = true ↔ p.v = q.v := by
 unfold Q.same Q.v
 simp [and_assoc]
theorem same_no {p q : Q} : p.same q = false ↔ p.v ≠ q.v := by
 rw [← Bool.not_eq_true, same_iff]
def mkQ (t : Int) (v : V) : Q := ⟨t, v.A, v.B, v.C⟩
def push (out : List Q) (t : Int) (v : V) : List Q := match out.getLast? with
 | none => [mkQ t v]
 | some q => if q.same (mkQ t v) then out else out ++ [mkQ t v]
def chF (g : Int → V) (out : List Q) (t : Int) : List Q := push out t (g t)
def chL (g : Int → V) (tl : List Int) : List Q := tl.foldl (chF g) []
theorem chL_snoc (g : Int → V) (tl : List Int) (t : Int) : chL g (tl ++ [t]) = push (chL g tl) t (g t) := by simp [chL, chF]
theorem snoc_ind {α : Type} {P : List α → Prop} (h0 : P []) (h1 : ∀ l x, P l → P (l ++ [x])) (l : List α) : P l := by
 have key : ∀ n (l : List α), l.length = n → P l := by
  intro n
  induction n with
  | zero => intro l hl; rw [List.length_eq_zero_iff.1 hl]; exact h0
  | succ n ih =>
   intro l hl
   have hne : l ≠ [] := by intro e; rw [e] at hl; cases hl
   rw [← List.dropLast_concat_getLast hne]
   exact h1 _ _ (ih _ (by simp; omega))
 exact key _ l rfl
structure Norm (ps : List Q) : Prop where
 lt : ∀ (k : Nat) p q, ps[k]? = some p → ps[k + 1]? = some q → p.t < q.t
 ne : ∀ (k : Nat) p q, ps[k]? = some p → ps[k + 1]? = some q → p.v ≠ q.v
theorem Norm.tail {p : Q} {r : List Q} (h : Norm (p :: r)) : Norm r := ⟨fun k a b ha hb => h.lt (k + 1) a b (by simpa using ha) (by simpa using hb), fun k a b ha hb => h.ne (k + 1) a b (by simpa using ha) (by simpa using hb)⟩
theorem Norm.all_gt : ∀ {r : List Q} {p : Q}, Norm (p :: r) → ∀ q ∈ r, p.t < q.t
 | [], _, _, q, hq => by cases hq
 | q' :: r, p, h, q, hq => by
  have h1 := h.lt 0 p q' rfl rfl
  rcases List.mem_cons.1 hq with e | e
  ·subst e; exact h1
  ·have := (Norm.all_gt h.tail) q e; omega
theorem norm_push {out : List Q} {t : Int} {v : V} (h : Norm out) (ht : ∀ q ∈ out, q.t < t) : Norm (push out t v) := by
 unfold push
 split
 ·constructor <;> intro k p q hp hq <;> simp at hq
 ·rename_i l hl
  split
  ·exact h
  ·rename_i hs
   have hs' : l.same (mkQ t v) = false := by simpa using hs
   have hln : l ∈ out := List.mem_of_getLast? hl
   have hlast : out[out.length - 1]? = some l := by rw [← List.getLast?_eq_getElem?]; exact hl
   have hpos : 0 < out.length := List.length_pos_of_mem hln
   have key : ∀ (k : Nat) p q, (out ++ [mkQ t v])[k]? = some p → (out ++ [mkQ t v])[k + 1]? = some q → (out[k]? = some p ∧ out[k + 1]? = some q) ∨ (p = l ∧ q = mkQ t v) := by
    intro k p q hp hq
    by_cases hk : k + 1 < out.length
    ·rw [List.getElem?_append_left (by omega)] at hp
     rw [List.getElem?_append_left hk] at hq
     exact Or.inl ⟨hp, hq⟩
    ·have hk2 : k + 1 = out.length := by
      rcases Nat.lt_or_ge out.length (k + 1) with h3 | h3
      ·rw [List.getElem?_eq_none (by simp; omega)] at hq; cases hq
      ·omega
     rw [List.getElem?_append_left (by omega), show k = out.length - 1 by omega, hlast] at hp
     rw [hk2, List.getElem?_append_right (by omega)] at hq
     simp at hq
     exact Or.inr ⟨(Option.some.inj hp).symm, hq.symm⟩
   constructor
   ·intro k p q hp hq
    rcases key k p q hp hq with ⟨a, b⟩ | ⟨rfl, rfl⟩
    ·exact h.lt k p q a b
    ·exact ht p hln
   ·intro k p q hp hq
    rcases key k p q hp hq with ⟨a, b⟩ | ⟨rfl, rfl⟩
    ·exact h.ne k p q a b
    ·exact same_no.1 hs'
theorem push_mem {out : List Q} {t : Int} {v : V} {q : Q} (h : q ∈ push out t v) : q ∈ out ∨ q = mkQ t v := by
 unfold push at h
 split at h
 ·right; simpa using h
 ·split at h
  ·exact Or.inl h
  ·rw [List.mem_append] at h
   rcases h with h | h
   ·exact Or.inl h
   ·right; simpa using h
theorem chL_mem (g : Int → V) (tl : List Int) : ∀ q ∈ chL g tl, q.t ∈ tl ∧ q.v = g q.t := by
 induction tl using snoc_ind with
 | h0 => intro q hq; simp [chL] at hq
 | h1 l x ih =>
  intro q hq
  rw [chL_snoc] at hq
  rcases push_mem hq with h | h
  ·exact ⟨by simp [(ih q h).1], (ih q h).2⟩
  ·subst h; exact ⟨by simp [mkQ], rfl⟩
theorem snoc_rise {l : List Int} {x : Int} (h : (l ++ [x]).Pairwise (· < ·)) : l.Pairwise (· < ·) ∧ ∀ y ∈ l, y < x := by
 rw [List.pairwise_append] at h
 exact ⟨h.1, fun y hy => h.2.2 y hy x (by simp)⟩
theorem chL_norm (g : Int → V) (tl : List Int) (h : tl.Pairwise (· < ·)) : Norm (chL g tl) := by
 induction tl using snoc_ind with
 | h0 => constructor <;> intro k p q hp <;> simp [chL] at hp
 | h1 l x ih =>
  obtain ⟨h1, h2⟩ := snoc_rise h
  rw [chL_snoc]
  exact norm_push (ih h1) fun q hq => h2 _ (chL_mem g l q hq).1
theorem chL_head (g : Int → V) (t : Int) (r : List Int) : (chL g (t :: r)).head? = some (mkQ t (g t)) := by
 induction r using snoc_ind with
 | h0 => simp [chL, chF, push]
 | h1 l x ih =>
  rw [← List.cons_append, chL_snoc]
  unfold push
  split
  ·rename_i h; rw [List.getLast?_eq_none_iff] at h; rw [h] at ih; cases ih
  ·split
   ·exact ih
   ·rw [List.head?_append, ih]; rfl
def valAt (ps : List Q) (lo hi : Int) (f : V → V) (t : Int) : V := if lo ≤ t ∧ t < hi then f (freeV t ps) else freeV t ps
theorem profOk_norm {ps : List Q} (h : zAx ps = true) : Norm ps := by
 unfold zAx at h
 simp only [Bool.and_eq_true, decide_eq_true_eq, List.all_eq_true, List.mem_range] at h
 obtain ⟨⟨⟨h1, h2⟩, h3⟩, h4⟩ := h
 have key : ∀ (k : Nat) p q, ps[k]? = some p → ps[k + 1]? = some q → p.t < q.t ∧ p.same q = false := by
  intro k p q hp hq
  have hk : k + 1 < ps.length := (List.getElem?_eq_some_iff.1 hq).1
  have := h4 (k + 1) hk
  unfold ptOk at this
  rw [hq] at this
  simp only [Bool.and_eq_true, Bool.or_eq_true, decide_eq_true_eq] at this
  have h5 := this.2.resolve_left (by omega)
  rw [show k + 1 - 1 = k by omega, hp] at h5
  simpa using h5
 exact ⟨fun k p q hp hq => (key k p q hp hq).1, fun k p q hp hq => same_no.1 (key k p q hp hq).2⟩
theorem norm_profOk {ps : List Q} {q : Q} (h : Norm ps) (hq : ps.head? = some q) (h0 : q.t = 0) (hl : ps.length ≤ 200) (hok : ∀ q ∈ ps, q.ok = true) : zAx ps = true := by
 unfold zAx
 have h1 : 1 ≤ ps.length := by cases ps with
  | nil => cases hq
  | cons _ _ => simp
 simp only [Bool.and_eq_true, decide_eq_true_eq, List.all_eq_true, List.mem_range]
 refine ⟨⟨⟨h1, hl⟩, by rw [hq]; simp [h0]⟩, fun k hk => ?_⟩
 unfold ptOk
 rw [zgh hk]
 simp only [Bool.and_eq_true, Bool.or_eq_true, decide_eq_true_eq]
 refine ⟨hok _ (List.getElem_mem hk), ?_⟩
 cases k with
 | zero => exact Or.inl rfl
 | succ k =>
  right
  rw [show k + 1 - 1 = k by omega, zgh (by omega)]
  have e1 : ps[k]? = some (ps[k]'(by omega)) := zgh _
  have e2 : ps[k + 1]? = some ps[k + 1] := zgh _
  have := h.lt k _ _ e1 e2
  have h6 := h.ne k _ _ e1 e2
  simp [this, same_no.2 h6]
theorem freeV_ok {t : Int} : ∀ (ps : List Q) (v : V), v.ok = true → (∀ q ∈ ps, q.ok = true) → (ps.foldl (freeF t) v).ok = true
 | [], _, h, _ => h
 | q :: r, v, h, hq => by
  rw [List.foldl_cons]
  refine freeV_ok r _ ?_ fun x hx => hq x (by simp [hx])
  unfold freeF
  split
  ·have := hq q (by simp); unfold Q.ok at this; simp at this; exact this.2
  ·exact h
theorem zero_ok : V.zero.ok = true := by decide
def spanB (lo hi : Int) : Bool := timeB lo && timeB hi && decide (lo < hi)
theorem span_parts {lo hi : Int} (h : spanB lo hi = true) : 0 ≤ lo ∧ lo < hi ∧ hi ≤ 1000000000 := by
 simp [spanB, timeB, inB] at h; omega
def timesL (ps : List Q) (lo hi : Int) : List Int := insT hi (insT lo (ps.map (·.t)))
theorem timesL_mem {ps : List Q} {lo hi x : Int} : x ∈ timesL ps lo hi ↔ x = hi ∨ x = lo ∨ ∃ q ∈ ps, q.t = x := by
 unfold timesL
 rw [insT_mem, insT_mem, List.mem_map]
theorem map_rise : ∀ {ps : List Q}, Norm ps → (ps.map (·.t)).Pairwise (· < ·)
 | [], _ => by simp
 | p :: r, h => by
  rw [List.map_cons, List.pairwise_cons]
  refine ⟨fun x hx => ?_, map_rise h.tail⟩
  obtain ⟨q, hq, rfl⟩ := List.mem_map.1 hx
  exact h.all_gt q hq
theorem timesL_rise {ps : List Q} (h : Norm ps) (lo hi : Int) : (timesL ps lo hi).Pairwise (· < ·) := insT_rise _ _ (insT_rise _ _ (map_rise h))
theorem timesL_len (ps : List Q) (lo hi : Int) : (timesL ps lo hi).length ≤ ps.length + 2 := by
 have key : ∀ (t : Int) (xs : List Int), (insT t xs).length ≤ xs.length + 1 := by
  intro t xs
  induction xs with
  | nil => simp [insT]
  | cons x r ih =>
   unfold insT; split
   ·have := List.length_filter_le (fun y => decide (y ≠ t)) (x :: r); simp only [List.length_cons] at this ⊢; omega
   ·simp only [List.length_cons]; omega
 have h1 := key hi (insT lo (ps.map (·.t)))
 have h2 := key lo (ps.map (·.t))
 unfold timesL
 simp at h2 ⊢; omega
theorem timesL_uniq {ps : List Q} (h : Norm ps) {lo hi : Int} {l : List Int} (hl : l.Pairwise (· < ·)) (hm : ∀ x, x ∈ l ↔ x = hi ∨ x = lo ∨ ∃ q ∈ ps, q.t = x) : l = timesL ps lo hi :=
 rise_ext hl (timesL_rise h lo hi) fun x => by rw [hm, timesL_mem]
def chgV (ps : List Q) (lo hi : Int) (f : V → V) : List Q := chL (valAt ps lo hi f) (timesL ps lo hi)
def chgB (ps : List Q) (lo hi : Int) (fb : V → Bool) : Bool := (timesL ps lo hi).all fun t => !(decide (lo ≤ t) && decide (t < hi)) || fb (freeV t ps)
theorem chgB_at {ps : List Q} {lo hi : Int} {fb : V → Bool} (h : chgB ps lo hi fb = true) {t : Int} (ht : t ∈ timesL ps lo hi) (h1 : lo ≤ t) (h2 : t < hi) : fb (freeV t ps) = true := by
 unfold chgB at h
 rw [List.all_eq_true] at h
 have := h t ht
 simpa [h1, h2] using this
theorem norm_head {ps : List Q} (h : zAx ps = true) : ∃ q r, ps = q :: r ∧ q.t = 0 := by
 obtain ⟨h1, _, h3, _, _⟩ := profOk_parts h
 cases ps with
 | nil => simp at h1
 | cons q r => exact ⟨q, r, rfl, by simpa using h3⟩
theorem timesL_zero {ps : List Q} (h : zAx ps = true) (lo hi : Int) : (0 : Int) ∈ timesL ps lo hi := by
 obtain ⟨q, r, rfl, h0⟩ := norm_head h
 exact timesL_mem.2 (Or.inr (Or.inr ⟨q, by simp, h0⟩))
theorem rise_min {l : List Int} {m : Int} (hr : l.Pairwise (· < ·)) (hm : m ∈ l) (hle : ∀ x ∈ l, m ≤ x) : ∃ r, l = m :: r := by
 cases l with
 | nil => cases hm
 | cons x r =>
  rw [List.pairwise_cons] at hr
  rcases List.mem_cons.1 hm with e | e
  ·subst e; exact ⟨r, rfl⟩
  ·have := hr.1 m e; have := hle x (by simp); omega
theorem timesL_bd {ps : List Q} (h : zAx ps = true) {lo hi : Int} (hs : spanB lo hi = true) : ∀ x ∈ timesL ps lo hi, 0 ≤ x ∧ x ≤ 1000000000 := by
 obtain ⟨_, _, _, hok, _⟩ := profOk_parts h
 have := span_parts hs
 intro x hx
 rcases timesL_mem.1 hx with e | e | ⟨q, hq, e⟩
 ·omega
 ·omega
 ·have := hok q hq; unfold Q.ok timeB inB at this; simp at this; omega
theorem timesL_head {ps : List Q} (h : zAx ps = true) {lo hi : Int} (hs : spanB lo hi = true) : ∃ r, timesL ps lo hi = 0 :: r :=
 rise_min (timesL_rise (profOk_norm h) lo hi) (timesL_zero h lo hi) fun x hx => (timesL_bd h hs x hx).1
theorem free_ok {ps : List Q} (h : zAx ps = true) (t : Int) : (freeV t ps).ok = true := freeV_ok ps _ zero_ok (profOk_parts h).2.2.2.1
theorem chg_ok {ps : List Q} (h : zAx ps = true) {lo hi : Int} (hs : spanB lo hi = true) {f : V → V} {fb : V → Bool} (hc : chgB ps lo hi fb = true) (hf : ∀ x, fb x = true → (f x).ok = true) : zAx (chgV ps lo hi f) = decide ((chgV ps lo hi f).length ≤ 200) := by
 by_cases hl : (chgV ps lo hi f).length ≤ 200
 ·rw [decide_eq_true hl]
  obtain ⟨r, hr⟩ := timesL_head h hs
  have hhead : (chgV ps lo hi f).head? = some (mkQ 0 (valAt ps lo hi f 0)) := by
   unfold chgV; rw [hr]; exact chL_head _ _ _
  refine norm_profOk (chL_norm _ _ (timesL_rise (profOk_norm h) lo hi)) hhead rfl hl ?_
  intro q hq
  obtain ⟨h1, h2⟩ := chL_mem _ _ q hq
  have hb := timesL_bd h hs _ h1
  have hv : (valAt ps lo hi f q.t).ok = true := by
   unfold valAt
   split
   ·rename_i hin
    exact hf _ (chgB_at hc h1 hin.1 hin.2)
   ·exact free_ok h _
  rw [← h2] at hv
  unfold Q.ok timeB inB
  have h3 : vecOkB q.a q.b q.c = true := hv
  simp [h3, hb.1, hb.2]
 ·rw [decide_eq_false hl]
  unfold zAx
  simp [hl]
def takeV (ps : List Q) (lo hi : Int) (v : V) : List Q := chgV ps lo hi fun x => subV x v
def takeB (ps : List Q) (lo hi : Int) (v : V) : Bool := zAx ps && spanB lo hi && chgB ps lo hi (fun x => subB x v) && decide ((takeV ps lo hi v).length ≤ 200)
theorem sub_ok {x v : V} (h : subB x v = true) : (subV x v).ok = true ∧ x.ok = true ∧ v.ok = true := by
 simp only [subB, validB, Bool.and_eq_true] at h
 simp [subV, validV, h.1.1, h.1.2, h.2]
theorem take_parts {ps : List Q} {lo hi : Int} {v : V} (h : takeB ps lo hi v = true) : zAx ps = true ∧ spanB lo hi = true ∧ chgB ps lo hi (fun x => subB x v) = true ∧ (takeV ps lo hi v).length ≤ 200 := by
 simp only [takeB, Bool.and_eq_true, decide_eq_true_eq] at h
 exact ⟨h.1.1.1, h.1.1.2, h.1.2, h.2⟩
section
variable (lf : Int → Nat) (mine : List Int)
def group (l : Nat) : List Int := mine.filter fun x => decide (lf x = l)
def cnt (l : Nat) : Nat := (group lf mine l).length
def bef (a b : Nat) : Prop := cnt lf mine b < cnt lf mine a ∨ (cnt lf mine a = cnt lf mine b ∧ a < b)
end
section
variable {lf : Int → Nat} {mine : List Int}
instance (a b : Nat) : Decidable (bef lf mine a b) := by unfold bef; infer_instance
end
structure J where
 id : Int
 pr : Int
 nn : Int
 na : Int
 nb : Int
 nc : Int
 la : Int
 lb : Int
 lc : Int
 wl : Int
 lv : Int
def J.okB (j : J) : Bool := inB j.id 1 999 && inB j.pr 0 999 && inB j.nn 1 24 && vecOkB j.na j.nb j.nc && vecOkB j.la j.lb j.lc && inB j.wl 1 1000000 && inB j.lv 0 24
set_option maxHeartbeats 1000000 in
theorem jobOk_raw (j : J) (w : World) :
  Calls Tryz.prog 103 #[.agg #[.int .i64 j.id, .int .i64 j.pr, .int .i64 j.nn, .int .i64 j.na, .int .i64 j.nb, .int .i64 j.nc, .int .i64 j.la, .int .i64 j.lb, .int .i64 j.lc, .int .i64 j.wl, .int .i64 j.lv]] w fun e w' => e = .returned (.bool j.okB) ∧ Below w.heap.size w w' := by
 go_enter Tryz.func103, Tryz.ntmps103
 go_wp2_with (first | (go_at_call 54; refine (within_any _ _ _ _).mono ?_; rintro e w1 ⟨rfl, rfl⟩) | (go_at_call 101; refine (vecOk_raw _ _ _ _).mono ?_; rintro e w1 ⟨rfl, hb1⟩; obtain ⟨hc1, hf1⟩ := bcell hb1; have hs1 := hb1.size; (try simp at hs1); have hy10 : w.heap.size < w1.heap.size := (by omega); have hk10 := fun o => hc1 (w.heap.size) o zOm; have hg10 := fun o => hf1 (w.heap.size) o zOm; clear hc1 hf1))
 all_goals go_light
 all_goals go_ret
 all_goals refine ⟨zAj ?_, (by repeat (first | exact Below.refl _ _ | (refine zAc ?_ (zAa _ _)) | (refine zAc ?_ (by assumption)) | (refine Below.setCell ?_ (by simp <;> omega) _) | refine Below.drew ?_))⟩
 all_goals (simp only [J.okB]; simp_all)
set_option maxHeartbeats 1000000 in
theorem sjobOk_raw (j : J) (w : World) :
  Calls Tryz.prog 146 #[.agg #[.int .i64 j.id, .int .i64 j.pr, .int .i64 j.nn, .int .i64 j.na, .int .i64 j.nb, .int .i64 j.nc, .int .i64 j.la, .int .i64 j.lb, .int .i64 j.lc, .int .i64 j.wl, .int .i64 j.lv]] w fun e w' => e = .returned (.bool j.okB) ∧ Below w.heap.size w w' := by
 go_enter Tryz.func146, Tryz.ntmps146
 go_wp2_with (go_at_call 172; refine (svecOk_raw _ _ _ _).mono ?_; rintro e w1 ⟨rfl, hb1⟩; obtain ⟨hc1, hf1⟩ := bcell hb1; have hs1 := hb1.size; (try simp at hs1); have hy10 : w.heap.size < w1.heap.size := (by omega); have hk10 := fun o => hc1 (w.heap.size) o zOm; have hg10 := fun o => hf1 (w.heap.size) o zOm; clear hc1 hf1)
 all_goals go_light
 all_goals go_ret
 all_goals refine ⟨zAj ?_, (by repeat (first | exact Below.refl _ _ | (refine zAc ?_ (zAa _ _)) | (refine zAc ?_ (by assumption)) | (refine Below.setCell ?_ (by simp <;> omega) _) | refine Below.drew ?_))⟩
 all_goals (simp only [J.okB, inB]; grind)
def befJ (a b : J) : Prop := b.pr < a.pr ∨ (a.pr = b.pr ∧ a.id < b.id)
instance (a b : J) : Decidable (befJ a b) := by unfold befJ; infer_instance
def distJ (l : List J) : Prop := l.Pairwise fun a b => a.id ≠ b.id
def lowB (ps : List Int) (ls : List Nat) (s : Nat) : Bool := ls.all fun l => (up ps l).contains s
def lowF (ps : List Int) (ls : List Nat) (best : Int) (s : Nat) : Int := if lowB ps ls s = true ∧ (best < 0 ∨ lev ps s ≤ lev ps best.toNat) then (s : Int) else best
def lowN (ps : List Int) (ls : List Nat) (k : Nat) : Int := (List.range k).foldl (lowF ps ls) (-1)
theorem lowN_succ (ps : List Int) (ls : List Nat) (k : Nat) : lowN ps ls (k + 1) = lowF ps ls (lowN ps ls k) k := by simp [lowN, List.range_succ]
theorem lowN_spec (ps : List Int) (ls : List Nat) : ∀ k, (lowN ps ls k = -1 ∧ ∀ s, s < k → lowB ps ls s = false) ∨ ∃ b : Nat, lowN ps ls k = b ∧ b < k ∧ lowB ps ls b = true ∧ ∀ s, s < k → lowB ps ls s = true → lev ps b ≤ lev ps s
 | 0 => Or.inl ⟨rfl, fun s hs => absurd hs (by omega)⟩
 | k + 1 => by
  rw [lowN_succ]
  by_cases hc : lowB ps ls k = true
  ·rcases lowN_spec ps ls k with ⟨h1, h2⟩ | ⟨b, h1, h2, h3, h4⟩
   ·right
    refine ⟨k, by unfold lowF; rw [h1, if_pos ⟨hc, Or.inl (by omega)⟩], by omega, hc, fun s hs hcs => ?_⟩
    by_cases e : s = k
    ·subst e; exact Int.le_refl _
    ·have := h2 s (by omega); rw [hcs] at this; cases this
   ·right
    by_cases hle : lev ps k ≤ lev ps b
    ·refine ⟨k, by unfold lowF; rw [h1, if_pos ⟨hc, Or.inr (by simpa using hle)⟩], by omega, hc, fun s hs hcs => ?_⟩
     by_cases e : s = k
     ·subst e; exact Int.le_refl _
     ·have := h4 s (by omega) hcs; omega
    ·refine ⟨b, by unfold lowF; rw [h1, if_neg (by simp; omega)], by omega, h3, fun s hs hcs => ?_⟩
     by_cases e : s = k
     ·subst e; omega
     ·exact h4 s (by omega) hcs
  ·have e : ∀ b, lowF ps ls b k = b := fun b => if_neg (by simp [hc])
   rw [e]
   have hc' : lowB ps ls k = false := by simpa using hc
   rcases lowN_spec ps ls k with ⟨h1, h2⟩ | ⟨b, h1, h2, h3, h4⟩
   ·left
    refine ⟨h1, fun s hs => ?_⟩
    by_cases e : s = k
    ·subst e; exact hc'
    ·exact h2 s (by omega)
   ·right
    refine ⟨b, h1, by omega, h3, fun s hs hcs => ?_⟩
    by_cases e : s = k
    ·subst e; rw [hc'] at hcs; cases hcs
    ·exact h4 s (by omega) hcs
def lfN (ns : List Q) (x : Int) : Nat := ((ns.getD x.toNat ⟨0, 0, 0, 0⟩).t).toNat
def inNodes (ns : List Q) (nodes : List Int) : Bool := nodes.all fun x => decide (0 ≤ x) && decide (x < ns.length)
def areB (ps : List Int) (ns : List Q) (nodes : List Int) : Bool := inNodes ns nodes && topoOkB ps ns
theorem inNodes_iff {ns : List Q} {nodes : List Int} : inNodes ns nodes = true ↔ ∀ x ∈ nodes, 0 ≤ x ∧ x < ns.length := by
 unfold inNodes; rw [List.all_eq_true]; simp
theorem lfN_ok {ps : List Int} {ns : List Q} (h : topoOkB ps ns = true) {x : Int} (h0 : 0 ≤ x) (h1 : x < ns.length) : lfN ns x < ps.length ∧ leafB ps (lfN ns x) = true ∧ ∃ q, ns[x.toNat]? = some q ∧ q.t = (lfN ns x : Int) ∧ q ∈ ns := by
 obtain ⟨_, _, _, _, _, _, hn⟩ := topo_parts h
 have hl : x.toNat < ns.length := by omega
 have hq : ns[x.toNat]? = some ns[x.toNat] := zgh hl
 have hm : ns[x.toNat] ∈ ns := List.getElem_mem hl
 have hok := hn _ hm
 unfold nodeOk at hok
 simp only [Bool.and_eq_true, decide_eq_true_eq] at hok
 have e : lfN ns x = (ns[x.toNat]).t.toNat := by unfold lfN; simp [List.getD, hq]
 have e2 : (lfN ns x : Int) = (ns[x.toNat]).t := by rw [e]; omega
 refine ⟨by omega, ?_, _, hq, e2.symm, hm⟩
 rw [← leafI_eq, e2]; exact hok.1.2
def lowestV (ps : List Int) (ns : List Q) (nodes : List Int) : Int := if areB ps ns nodes && decide (1 ≤ nodes.length) then lowN ps (nodes.map (lfN ns)) ps.length else -1
theorem lowest_spec {ps : List Int} {ns : List Q} {nodes : List Int} (h : areB ps ns nodes = true) (hl : 1 ≤ nodes.length) : ∃ b : Nat, lowestV ps ns nodes = b ∧ b < ps.length ∧ (∀ x ∈ nodes, b ∈ up ps (lfN ns x)) ∧ ∀ s, s < ps.length → (∀ x ∈ nodes, s ∈ up ps (lfN ns x)) → lev ps b ≤ lev ps s := by
 have hh := h
 simp only [areB, Bool.and_eq_true] at h
 obtain ⟨hn, ht⟩ := h
 have hp := (topo_parts ht).2.2.2.2.1
 have h1 := (topo_parts ht).1
 have hb : ∀ s, lowB ps (nodes.map (lfN ns)) s = true ↔ ∀ x ∈ nodes, s ∈ up ps (lfN ns x) := by
  intro s; unfold lowB; rw [List.all_eq_true]; simp
 have e : lowestV ps ns nodes = lowN ps (nodes.map (lfN ns)) ps.length := if_pos (by simp [hh, hl])
 rcases lowN_spec ps (nodes.map (lfN ns)) ps.length with ⟨_, h2⟩ | ⟨b, h1, h2, h3, h4⟩
 ·exfalso
  have := h2 0 (by omega)
  rw [(hb 0).2 fun x hx => zero_up hp _ (lfN_ok ht (inNodes_iff.1 hn x hx).1 (inNodes_iff.1 hn x hx).2).1] at this
  cases this
 ·exact ⟨b, e.trans h1, h2, (hb b).1 h3, fun s hs hc => h4 s hs ((hb s).2 hc)⟩
def undr (ps : List Int) (ns : List Q) (nodes : List Int) (s : Nat) : List Int := nodes.filter fun x => decide (s ∈ up ps (lfN ns x))
def goodB (ps : List Int) (ns : List Q) (nodes : List Int) (n : Nat) (most : Int) (s : Nat) : Prop := lev ps s ≤ most ∧ n ≤ (undr ps ns nodes s).length
instance (ps : List Int) (ns : List Q) (nodes : List Int) (n : Nat) (most : Int) (s : Nat) : Decidable (goodB ps ns nodes n most s) := by unfold goodB; infer_instance
def ascB (l : List Int) : Bool := decide (l.Pairwise (· < ·))
structure Rm where
 par : List Int
 nodes : List Q
 up : List Bool
 profs : List (List Q)
 lics : List Q
def Rm.okB (r : Rm) : Bool := topoOkB r.par r.nodes && decide (r.up.length = r.nodes.length) && decide (r.profs.length = r.nodes.length) && r.profs.all zAx && zAx r.lics
def J.need (j : J) : V := ⟨j.na, j.nb, j.nc⟩
def J.lic (j : J) : V := ⟨j.la, j.lb, j.lc⟩
theorem room_parts {r : Rm} (h : r.okB = true) : topoOkB r.par r.nodes = true ∧ r.up.length = r.nodes.length ∧ r.profs.length = r.nodes.length ∧ (∀ p ∈ r.profs, zAx p = true) ∧ zAx r.lics = true := by
 simp only [Rm.okB, Bool.and_eq_true, decide_eq_true_eq, List.all_eq_true] at h
 exact ⟨h.1.1.1.1, h.1.1.1.2, h.1.1.2, h.1.2, h.2⟩
def leV (a b : V) : Prop := a.A ≤ b.A ∧ a.B ≤ b.B ∧ a.C ≤ b.C
theorem leV.refl (a : V) : leV a a := ⟨Int.le_refl _, Int.le_refl _, Int.le_refl _⟩
theorem leV.trans {a b c : V} (h : leV a b) (h' : leV b c) : leV a c := ⟨Int.le_trans h.1 h'.1, Int.le_trans h.2.1 h'.2.1, Int.le_trans h.2.2 h'.2.2⟩
def takeO (lo hi : Int) (v : V) (ps : List Q) : Option (List Q) := if takeB ps lo hi v then some (takeV ps lo hi v) else none
def nodesV (mv : List Q → Option (List Q)) : List Int → List (List Q) → Option (List (List Q))
 | [], ps => some ps
 | n :: l, ps => match mv (ps.getD n.toNat []) with
  | none => none
  | some p => nodesV mv l (ps.set n.toNat p)
def jobNodesB (r : Rm) (j : J) (nodes : List Int) : Bool := decide nodes.Nodup && areB r.par r.nodes nodes && decide ((nodes.length : Int) = j.nn)
def movedV (mv : V → List Q → Option (List Q)) (r : Rm) (j : J) (nodes : List Int) : Option Rm :=
 if r.okB && j.okB && jobNodesB r j nodes then
  match nodesV (mv j.need) nodes r.profs with
  | none => none
  | some ps => match mv j.lic r.lics with
   | none => none
   | some l => some { r with profs := ps, lics := l }
 else none
def resV (r : Rm) (j : J) (at_ : Int) (nodes : List Int) : Option Rm := if timeB at_ then movedV (takeO at_ (at_ + j.wl)) r j nodes else none
theorem nodesV_spec {mv : List Q → Option (List Q)} : ∀ {nodes : List Int} {ps qs : List (List Q)}, nodes.Nodup → (∀ x ∈ nodes, 0 ≤ x ∧ x < ps.length) → nodesV mv nodes ps = some qs →
  qs.length = ps.length ∧ (∀ x ∈ nodes, mv (ps.getD x.toNat []) = some (qs.getD x.toNat [])) ∧ ∀ i : Nat, (i : Int) ∉ nodes → qs.getD i [] = ps.getD i []
 | [], ps, qs, _, _, h => by
  obtain rfl := Option.some.inj h
  exact ⟨rfl, by simp, fun i _ => rfl⟩
 | n :: l, ps, qs, hn, hr, h => by
  rw [List.nodup_cons] at hn
  unfold nodesV at h
  have hnr := hr n (by simp)
  cases hm : mv (ps.getD n.toNat []) with
  | none => rw [hm] at h; cases h
  | some p =>
   rw [hm] at h
   obtain ⟨a, b, c⟩ := nodesV_spec (ps := ps.set n.toNat p) hn.2 (fun x hx => by have := hr x (by simp [hx]); simpa using this) h
   have hget : ∀ i : Nat, i ≠ n.toNat → (ps.set n.toNat p).getD i [] = ps.getD i [] := by
    intro i hi
    simp only [List.getD, List.getElem?_set]
    rw [if_neg (fun e => hi e.symm)]
   have hself : (ps.set n.toNat p).getD n.toNat [] = p := by
    simp only [List.getD, List.getElem?_set]
    rw [if_pos trivial, if_pos (by omega)]; rfl
   refine ⟨by rw [a]; simp, fun x hx => ?_, fun i hi => ?_⟩
   ·rcases List.mem_cons.1 hx with e | e
    ·subst e
     have hni : ((x.toNat : Nat) : Int) ∉ l := by rw [Int.toNat_of_nonneg hnr.1]; exact hn.1
     rw [c _ hni, hself, hm]
    ·have hx0 := hr x (by simp [e])
     have hne : x.toNat ≠ n.toNat := fun e2 => hn.1 (by rw [show n = x by omega]; exact e)
     rw [← hget _ hne]
     exact b x e
   ·simp only [List.mem_cons, not_or] at hi
    rw [c i hi.2, hget i (by omega)]
theorem job_parts {r : Rm} {j : J} {nodes : List Int} (h : jobNodesB r j nodes = true) : nodes.Nodup ∧ (∀ x ∈ nodes, 0 ≤ x ∧ x < r.nodes.length) ∧ topoOkB r.par r.nodes = true ∧ (nodes.length : Int) = j.nn := by
 simp only [jobNodesB, areB, Bool.and_eq_true, decide_eq_true_eq] at h
 exact ⟨h.1.1, inNodes_iff.1 h.1.2.1, h.1.2.2, h.2⟩
theorem moved_some {mv : V → List Q → Option (List Q)} {r s : Rm} {j : J} {nodes : List Int} (h : movedV mv r j nodes = some s) :
  r.okB = true ∧ j.okB = true ∧ jobNodesB r j nodes = true ∧ s.par = r.par ∧ s.nodes = r.nodes ∧ s.up = r.up ∧ s.profs.length = r.profs.length ∧ mv j.lic r.lics = some s.lics ∧
  (∀ x ∈ nodes, mv j.need (r.profs.getD x.toNat []) = some (s.profs.getD x.toNat [])) ∧ ∀ i : Nat, (i : Int) ∉ nodes → s.profs.getD i [] = r.profs.getD i [] := by
 unfold movedV at h
 split at h
 ·rename_i hc
  simp only [Bool.and_eq_true] at hc
  obtain ⟨⟨h1, h2⟩, h3⟩ := hc
  obtain ⟨n1, n2, n3, n4⟩ := job_parts h3
  have hpl := (room_parts h1).2.2.1
  cases hm : nodesV (mv j.need) nodes r.profs with
  | none => rw [hm] at h; cases h
  | some ps =>
   rw [hm] at h
   simp only at h
   cases hl : mv j.lic r.lics with
   | none => rw [hl] at h; cases h
   | some l =>
    rw [hl] at h
    obtain rfl := Option.some.inj h
    obtain ⟨a, b, c⟩ := nodesV_spec n1 (fun x hx => by have := n2 x hx; omega) hm
    exact ⟨h1, h2, h3, rfl, rfl, rfl, a, rfl, b, c⟩
 ·cases h
theorem takeO_some {lo hi : Int} {v : V} {a b : List Q} (h : takeO lo hi v a = some b) : takeB a lo hi v = true ∧ b = takeV a lo hi v := by
 unfold takeO at h
 split at h
 ·rename_i hc; exact ⟨hc, (Option.some.inj h).symm⟩
 ·cases h
theorem job_wl {j : J} (h : j.okB = true) : 1 ≤ j.wl ∧ j.wl ≤ 1000000 ∧ 1 ≤ j.nn ∧ j.nn ≤ 24 ∧ j.need.ok = true ∧ j.lic.ok = true := by
 unfold J.okB at h
 simp only [Bool.and_eq_true] at h
 obtain ⟨⟨⟨⟨⟨⟨h1, h2⟩, h3⟩, h4⟩, h5⟩, h6⟩, h7⟩ := h
 simp [inB] at h3 h6
 exact ⟨h6.1, h6.2, h3.1, h3.2, h4, h5⟩
structure Rs where
 j : J
 t : Int
 nd : List Int
def resR (r : Rm) (x : Rs) : Option Rm := resV r x.j x.t x.nd
def applyL : Rm → List Rs → Option Rm
 | r, [] => some r
 | r, x :: l => match resR r x with
  | none => none
  | some s => applyL s l
def touch (x : Rs) : Option Nat → Prop
 | none => True
 | some i => (i : Int) ∈ x.nd
instance (x : Rs) (l : Option Nat) : Decidable (touch x l) := by cases l <;> unfold touch <;> infer_instance
structure Hd where
 id : Int
 at_ : Int
 nd : List Int
def Rs.hd (x : Rs) : Hd := ⟨x.j.id, x.t, x.nd⟩
structure PS where
 r : Rm
 a : List Hd
 b : List Hd
def queueB (l : List J) : Bool := decide (l.length ≤ 60) && l.all J.okB && decide (l.Pairwise fun a b => a.id ≠ b.id)
theorem queue_parts {l : List J} (h : queueB l = true) : l.length ≤ 60 ∧ (∀ j ∈ l, j.okB = true) ∧ distJ l := by
 simp only [queueB, Bool.and_eq_true, decide_eq_true_eq, List.all_eq_true] at h
 exact ⟨h.1.1, h.1.2, h.2⟩
structure PInv (r : Rm) (now depth : Int) (l : List J) (s : PS) (R : List Rs) : Prop where
 ap : applyL r R = some s.r
 pm : (s.a ++ s.b).Perm (R.map Rs.hd)
 sub : (R.map Rs.j).Sublist l
 an : ∀ h ∈ s.a, h.at_ = now
 bn : ∀ h ∈ s.b, now < h.at_
 bl : 0 ≤ depth → (s.b.length : Int) ≤ depth
end Go.Proofs.YtnphjhbfpoekpaaGreat
