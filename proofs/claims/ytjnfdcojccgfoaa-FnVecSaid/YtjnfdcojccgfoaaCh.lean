/-
  Rows of points in their normal form: plain.
-/
import Derived.Test.YtjnfdcojccgfoaaPl
import Derived.Test.YtjnfdcojccgfoaaSo
namespace Go.Proofs.Ytjnfdcojccgfoaa
set_option linter.unusedSimpArgs false
set_option linter.unusedVariables false
set_option linter.unnecessarySimpa false
open Go.RowKit
theorem V.ext' {a b : V} (h1 : a.A = b.A) (h2 : a.B = b.B) (h3 : a.C = b.C) : a = b := by
  cases a; cases b; simp_all
theorem same_iff {p q : Q} : p.same q = true ↔ p.v = q.v := by
  unfold Q.same Q.v
  simp [and_assoc]
theorem same_no {p q : Q} : p.same q = false ↔ p.v ≠ q.v := by
  rw [← Bool.not_eq_true, same_iff]
def mkQ (t : Int) (v : V) : Q := ⟨t, v.A, v.B, v.C⟩
theorem mkQ_v (t : Int) (v : V) : (mkQ t v).v = v := rfl
theorem mkQ_t (t : Int) (v : V) : (mkQ t v).t = t := rfl
def push (out : List Q) (t : Int) (v : V) : List Q := match out.getLast? with
  | none => [mkQ t v]
  | some q => if q.same (mkQ t v) then out else out ++ [mkQ t v]
def chF (g : Int → V) (out : List Q) (t : Int) : List Q := push out t (g t)
def chL (g : Int → V) (tl : List Int) : List Q := tl.foldl (chF g) []
theorem chL_snoc (g : Int → V) (tl : List Int) (t : Int) : chL g (tl ++ [t]) = push (chL g tl) t (g t) := by simp [chL, chF]
theorem push_len (out : List Q) (t : Int) (v : V) : (push out t v).length ≤ out.length + 1 := by
  unfold push; split
  · simp
  · split <;> simp
theorem push_ne (out : List Q) (t : Int) (v : V) : push out t v ≠ [] := by
  unfold push; split
  · simp
  · rename_i q hq
    split
    · intro h; rw [h] at hq; simp at hq
    · simp
theorem snoc_ind {α : Type} {P : List α → Prop} (h0 : P []) (h1 : ∀ l x, P l → P (l ++ [x])) (l : List α) : P l := by
  have key : ∀ n (l : List α), l.length = n → P l := by
    intro n
    induction n with
    | zero => intro l hl; rw [List.length_eq_zero_iff.1 hl]; exact h0
    | succ n ih =>
      intro l hl
      have hne : l ≠ [] := by intro e; rw [e] at hl; cases hl
      rw [← List.dropLast_concat_getLast hne]
      exact h1 _ _ (ih _ (by simp; omega))
  exact key _ l rfl
theorem chL_len (g : Int → V) (tl : List Int) : (chL g tl).length ≤ tl.length := by
  induction tl using snoc_ind with
  | h0 => simp [chL]
  | h1 l x ih => rw [chL_snoc]; have := push_len (chL g l) x (g x); simp; omega
/-- A row of points in its normal form: rising, each another value than the one before. -/
structure Norm (ps : List Q) : Prop where
  lt : ∀ (k : Nat) p q, ps[k]? = some p → ps[k + 1]? = some q → p.t < q.t
  ne : ∀ (k : Nat) p q, ps[k]? = some p → ps[k + 1]? = some q → p.v ≠ q.v
theorem Norm.tail {p : Q} {r : List Q} (h : Norm (p :: r)) : Norm r := ⟨fun k a b ha hb => h.lt (k + 1) a b (by simpa using ha) (by simpa using hb), fun k a b ha hb => h.ne (k + 1) a b (by simpa using ha) (by simpa using hb)⟩
theorem Norm.all_gt : ∀ {r : List Q} {p : Q}, Norm (p :: r) → ∀ q ∈ r, p.t < q.t
  | [], _, _, q, hq => by cases hq
  | q' :: r, p, h, q, hq => by
    have h1 := h.lt 0 p q' rfl rfl
    rcases List.mem_cons.1 hq with e | e
    · subst e; exact h1
    · have := (Norm.all_gt h.tail) q e; omega
theorem norm_push {out : List Q} {t : Int} {v : V} (h : Norm out) (ht : ∀ q ∈ out, q.t < t) : Norm (push out t v) := by
  unfold push
  split
  · constructor <;> intro k p q hp hq <;> simp at hq
  · rename_i l hl
    split
    · exact h
    · rename_i hs
      have hs' : l.same (mkQ t v) = false := by simpa using hs
      have hln : l ∈ out := List.mem_of_getLast? hl
      have hlast : out[out.length - 1]? = some l := by rw [← List.getLast?_eq_getElem?]; exact hl
      have hpos : 0 < out.length := List.length_pos_of_mem hln
      have key : ∀ (k : Nat) p q, (out ++ [mkQ t v])[k]? = some p → (out ++ [mkQ t v])[k + 1]? = some q → (out[k]? = some p ∧ out[k + 1]? = some q) ∨ (p = l ∧ q = mkQ t v) := by
        intro k p q hp hq
        by_cases hk : k + 1 < out.length
        · rw [List.getElem?_append_left (by omega)] at hp
          rw [List.getElem?_append_left hk] at hq
          exact Or.inl ⟨hp, hq⟩
        · have hk2 : k + 1 = out.length := by
            rcases Nat.lt_or_ge out.length (k + 1) with h3 | h3
            · rw [List.getElem?_eq_none (by simp; omega)] at hq; cases hq
            · omega
          rw [List.getElem?_append_left (by omega), show k = out.length - 1 by omega, hlast] at hp
          rw [hk2, List.getElem?_append_right (by omega)] at hq
          simp at hq
          exact Or.inr ⟨(Option.some.inj hp).symm, hq.symm⟩
      constructor
      · intro k p q hp hq
        rcases key k p q hp hq with ⟨a, b⟩ | ⟨rfl, rfl⟩
        · exact h.lt k p q a b
        · exact ht p hln
      · intro k p q hp hq
        rcases key k p q hp hq with ⟨a, b⟩ | ⟨rfl, rfl⟩
        · exact h.ne k p q a b
        · exact same_no.1 hs'
theorem push_mem {out : List Q} {t : Int} {v : V} {q : Q} (h : q ∈ push out t v) : q ∈ out ∨ q = mkQ t v := by
  unfold push at h
  split at h
  · right; simpa using h
  · split at h
    · exact Or.inl h
    · rw [List.mem_append] at h
      rcases h with h | h
      · exact Or.inl h
      · right; simpa using h
theorem chL_mem (g : Int → V) (tl : List Int) : ∀ q ∈ chL g tl, q.t ∈ tl ∧ q.v = g q.t := by
  induction tl using snoc_ind with
  | h0 => intro q hq; simp [chL] at hq
  | h1 l x ih =>
    intro q hq
    rw [chL_snoc] at hq
    rcases push_mem hq with h | h
    · exact ⟨by simp [(ih q h).1], (ih q h).2⟩
    · subst h; exact ⟨by simp [mkQ], rfl⟩
theorem snoc_rise {l : List Int} {x : Int} (h : (l ++ [x]).Pairwise (· < ·)) : l.Pairwise (· < ·) ∧ ∀ y ∈ l, y < x := by
  rw [List.pairwise_append] at h
  exact ⟨h.1, fun y hy => h.2.2 y hy x (by simp)⟩
theorem chL_norm (g : Int → V) (tl : List Int) (h : tl.Pairwise (· < ·)) : Norm (chL g tl) := by
  induction tl using snoc_ind with
  | h0 => constructor <;> intro k p q hp <;> simp [chL] at hp
  | h1 l x ih =>
    obtain ⟨h1, h2⟩ := snoc_rise h
    rw [chL_snoc]
    exact norm_push (ih h1) fun q hq => h2 _ (chL_mem g l q hq).1
theorem chL_head (g : Int → V) (t : Int) (r : List Int) : (chL g (t :: r)).head? = some (mkQ t (g t)) := by
  induction r using snoc_ind with
  | h0 => simp [chL, chF, push]
  | h1 l x ih =>
    rw [← List.cons_append, chL_snoc]
    unfold push
    split
    · rename_i h; rw [List.getLast?_eq_none_iff] at h; rw [h] at ih; cases ih
    · split
      · exact ih
      · rw [List.head?_append, ih]; rfl
/-! what is free -/
theorem freeV_snoc (t : Int) (ps : List Q) (q : Q) : freeV t (ps ++ [q]) = if q.t ≤ t then q.v else freeV t ps := by simp [freeV, freeF]
theorem freeV_last {t : Int} {ps : List Q} {q : Q} (hl : ps.getLast? = some q) (hq : q.t ≤ t) : freeV t ps = q.v := by
  have hne : ps ≠ [] := by intro e; rw [e] at hl; cases hl
  rw [← List.dropLast_concat_getLast hne] at hl ⊢
  rw [List.getLast?_append] at hl
  simp at hl
  rw [freeV_snoc, hl, if_pos hq]
def lastLe (t : Int) (tl : List Int) : Option Int := (tl.filter (fun s => decide (s ≤ t))).getLast?
theorem chL_free (g : Int → V) (tl : List Int) (h : tl.Pairwise (· < ·)) (t : Int) : freeV t (chL g tl) = match lastLe t tl with
    | some s => g s
    | none => V.zero := by
  induction tl using snoc_ind with
  | h0 => simp [chL, freeV, lastLe]
  | h1 l x ih =>
    obtain ⟨h1, h2⟩ := snoc_rise h
    have ih := ih h1
    rw [chL_snoc]
    by_cases hx : x ≤ t
    · have e : lastLe t (l ++ [x]) = some x := by simp [lastLe, List.filter_append, hx]
      rw [e]
      simp only
      unfold push
      split
      · simp [freeV, freeF, mkQ_t, hx, mkQ_v]
      · rename_i q hq
        have hqm : q ∈ chL g l := List.mem_of_getLast? hq
        split
        · rename_i hs
          have := same_iff.1 hs
          rw [mkQ_v] at this
          rw [freeV_last hq (by have := h2 _ (chL_mem g l q hqm).1; omega), this]
        · rw [freeV_snoc, mkQ_t, if_pos hx, mkQ_v]
    · have e : lastLe t (l ++ [x]) = lastLe t l := by simp [lastLe, List.filter_append, hx]
      rw [e, ← ih]
      unfold push
      split
      · rename_i hn
        rw [List.getLast?_eq_none_iff] at hn
        simp [freeV, freeF, mkQ_t, hx, hn]
      · split
        · rfl
        · rw [freeV_snoc, mkQ_t, if_neg hx]
theorem freeV_congr {s t : Int} : ∀ (ps : List Q) (v : V), (∀ q ∈ ps, (q.t ≤ s ↔ q.t ≤ t)) → ps.foldl (freeF s) v = ps.foldl (freeF t) v
  | [], _, _ => rfl
  | q :: r, v, h => by
    have h1 := h q (by simp)
    rw [List.foldl_cons, List.foldl_cons]
    have : freeF s v q = freeF t v q := by unfold freeF; simp only [h1]
    rw [this]
    exact freeV_congr r _ fun x hx => h x (by simp [hx])
def valAt (ps : List Q) (lo hi : Int) (f : V → V) (t : Int) : V := if lo ≤ t ∧ t < hi then f (freeV t ps) else freeV t ps
theorem lastLe_some {t : Int} {tl : List Int} {s : Int} (h : tl.Pairwise (· < ·)) (hs : lastLe t tl = some s) : s ∈ tl ∧ s ≤ t ∧ ∀ y ∈ tl, (y ≤ s ↔ y ≤ t) := by
  induction tl using snoc_ind with
  | h0 => simp [lastLe] at hs
  | h1 l x ih =>
    obtain ⟨h1, h2⟩ := snoc_rise h
    by_cases hx : x ≤ t
    · have e : lastLe t (l ++ [x]) = some x := by simp [lastLe, List.filter_append, hx]
      rw [e] at hs
      obtain rfl := Option.some.inj hs
      refine ⟨by simp, hx, fun y hy => ?_⟩
      rw [List.mem_append] at hy
      rcases hy with hy | hy
      · have := h2 y hy; constructor <;> intro _ <;> omega
      · simp at hy; subst hy; constructor <;> intro _ <;> omega
    · have e : lastLe t (l ++ [x]) = lastLe t l := by simp [lastLe, List.filter_append, hx]
      rw [e] at hs
      obtain ⟨a, b, c⟩ := ih h1 hs
      refine ⟨by simp [a], b, fun y hy => ?_⟩
      rw [List.mem_append] at hy
      rcases hy with hy | hy
      · exact c y hy
      · simp at hy; subst hy; constructor <;> intro _ <;> omega
theorem lastLe_ex {t : Int} {tl : List Int} {s0 : Int} (h0 : s0 ∈ tl) (h : s0 ≤ t) : ∃ s, lastLe t tl = some s := by
  unfold lastLe
  have hm : s0 ∈ tl.filter (fun s => decide (s ≤ t)) := by simp [h0, h]
  cases hl : (tl.filter (fun s => decide (s ≤ t))).getLast? with
  | none => rw [List.getLast?_eq_none_iff] at hl; rw [hl] at hm; cases hm
  | some s => exact ⟨s, rfl⟩
theorem valAt_const {ps : List Q} {lo hi : Int} {f : V → V} {tl : List Int} {s t : Int} (hlo : lo ∈ tl) (hhi : hi ∈ tl) (hps : ∀ q ∈ ps, q.t ∈ tl) (h : ∀ y ∈ tl, (y ≤ s ↔ y ≤ t)) : valAt ps lo hi f s = valAt ps lo hi f t := by
  have e : freeV s ps = freeV t ps := freeV_congr ps _ fun q hq => h _ (hps q hq)
  have h1 := h lo hlo
  have h2 := h hi hhi
  unfold valAt
  rw [e]
  by_cases hc : lo ≤ t ∧ t < hi
  · rw [if_pos hc, if_pos (by omega)]
  · rw [if_neg hc, if_neg (by omega)]
/-- WHAT IS FREE BEHIND A CHANGE. -/
theorem change_free {ps : List Q} {lo hi : Int} {f : V → V} {tl : List Int} (hr : tl.Pairwise (· < ·)) (hlo : lo ∈ tl) (hhi : hi ∈ tl) (hps : ∀ q ∈ ps, q.t ∈ tl) (h0 : (0 : Int) ∈ tl) {t : Int} (ht : 0 ≤ t) :
    freeV t (chL (valAt ps lo hi f) tl) = valAt ps lo hi f t := by
  rw [chL_free _ _ hr]
  obtain ⟨s, hs⟩ := lastLe_ex h0 ht
  rw [hs]
  obtain ⟨_, _, h3⟩ := lastLe_some hr hs
  exact valAt_const hlo hhi hps h3
theorem freeV_cons {t : Int} {p : Q} {r : List Q} : freeV t (p :: r) = r.foldl (freeF t) (if p.t ≤ t then p.v else V.zero) := rfl
theorem fold_le {t : Int} : ∀ (r : List Q) (v v' : V) (q : Q), r.head? = some q → q.t ≤ t → r.foldl (freeF t) v = r.foldl (freeF t) v'
  | [], _, _, _, h, _ => by cases h
  | x :: r, v, v', q, h, hq => by
    have : x = q := by simpa using h
    subst this
    rw [List.foldl_cons, List.foldl_cons]
    simp [freeF, hq]
theorem fold_gt {t : Int} : ∀ (r : List Q) (v : V), (∀ q ∈ r, t < q.t) → r.foldl (freeF t) v = v
  | [], _, _ => rfl
  | x :: r, v, h => by
    rw [List.foldl_cons]
    have h1 := h x (by simp)
    have : freeF t v x = v := by unfold freeF; rw [if_neg (by omega)]
    rw [this]
    exact fold_gt r v fun q hq => h q (by simp [hq])
/-- Two rows in normal form that begin at one time and hold the same at all times are one. -/
theorem norm_ext : ∀ {a b : List Q} {p q : Q}, Norm (p :: a) → Norm (q :: b) → p.t = q.t → (∀ t, p.t ≤ t → freeV t (p :: a) = freeV t (q :: b)) → p :: a = q :: b := by
  intro a
  induction a with
  | nil =>
    intro b p q ha hb ht h
    have hv : p.v = q.v := by
      have := h p.t (Int.le_refl _)
      rw [freeV_cons, freeV_cons, if_pos (Int.le_refl _), if_pos (by omega), fold_gt b _ (fun x hx => by have := hb.all_gt x hx; omega)] at this
      exact this
    have hpq : p = q := by
      cases p; cases q; simp [Q.v] at hv ht; simp [hv, ht]
    subst hpq
    cases b with
    | nil => rfl
    | cons x b =>
      exfalso
      have h1 := hb.lt 0 p x rfl rfl
      have h2 := hb.ne 0 p x rfl rfl
      have := h x.t (by omega)
      rw [freeV_cons, freeV_cons, if_pos (by omega)] at this
      simp only [List.foldl_nil, List.foldl_cons] at this
      rw [fold_gt b _ (fun y hy => by have := hb.tail.all_gt y hy; omega)] at this
      simp [freeF] at this
      exact h2 this
  | cons x a ih =>
    intro b p q ha hb ht h
    have ha1 := ha.lt 0 p x rfl rfl
    have hv : p.v = q.v := by
      have := h p.t (Int.le_refl _)
      rw [freeV_cons, freeV_cons, if_pos (Int.le_refl _), if_pos (by omega), fold_gt b _ (fun x hx => by have := hb.all_gt x hx; omega), fold_gt _ _ (fun x hx => by have := ha.all_gt x hx; omega)] at this
      exact this
    have hpq : p = q := by
      cases p; cases q; simp [Q.v] at hv ht; simp [hv, ht]
    subst hpq
    have step : ∀ {r s : List Q} {y : Q}, Norm (p :: y :: r) → Norm (p :: s) → (∀ t, p.t ≤ t → freeV t (p :: y :: r) = freeV t (p :: s)) → (∀ z ∈ s, y.t < z.t) → False := by
      intro r s y hr hs hh hgt
      have h1 := hr.lt 0 p y rfl rfl
      have h2 := hr.ne 0 p y rfl rfl
      have := hh y.t (by omega)
      rw [freeV_cons, freeV_cons, if_pos (by omega), fold_gt s _ hgt, List.foldl_cons, fold_gt r _ (fun z hz => by have := hr.tail.all_gt z hz; omega)] at this
      simp [freeF] at this
      exact h2 this.symm
    cases b with
    | nil => exact (step ha hb h (fun z hz => by cases hz)).elim
    | cons y b =>
      have hb1 := hb.lt 0 p y rfl rfl
      rcases Int.lt_trichotomy x.t y.t with hlt | heq | hgt
      · exact (step ha hb h (fun z hz => by
          rcases List.mem_cons.1 hz with e | e
          · subst e; exact hlt
          · have := hb.tail.all_gt z e; omega)).elim
      · have := ih (b := b) (p := x) (q := y) ha.tail hb.tail heq (by
          intro t ht2
          have := h t (by omega)
          rw [freeV_cons, freeV_cons] at this
          unfold freeV
          rw [fold_le (x :: a) V.zero (if p.t ≤ t then p.v else V.zero) x rfl ht2, fold_le (y :: b) V.zero (if p.t ≤ t then p.v else V.zero) y rfl (by omega)]
          exact this)
        rw [this]
      · exact (step hb ha (fun t h1 => (h t h1).symm) (fun z hz => by
          rcases List.mem_cons.1 hz with e | e
          · subst e; exact hgt
          · have := ha.tail.all_gt z e; omega)).elim
/-! valid profiles -/
theorem profOk_norm {ps : List Q} (h : profOkB ps = true) : Norm ps := by
  unfold profOkB at h
  simp only [Bool.and_eq_true, decide_eq_true_eq, List.all_eq_true, List.mem_range] at h
  obtain ⟨⟨⟨h1, h2⟩, h3⟩, h4⟩ := h
  have key : ∀ (k : Nat) p q, ps[k]? = some p → ps[k + 1]? = some q → p.t < q.t ∧ p.same q = false := by
    intro k p q hp hq
    have hk : k + 1 < ps.length := (List.getElem?_eq_some_iff.1 hq).1
    have := h4 (k + 1) hk
    unfold ptOk at this
    rw [hq] at this
    simp only [Bool.and_eq_true, Bool.or_eq_true, decide_eq_true_eq] at this
    have h5 := this.2.resolve_left (by omega)
    rw [show k + 1 - 1 = k by omega, hp] at h5
    simpa using h5
  exact ⟨fun k p q hp hq => (key k p q hp hq).1, fun k p q hp hq => same_no.1 (key k p q hp hq).2⟩
theorem norm_profOk {ps : List Q} {q : Q} (h : Norm ps) (hq : ps.head? = some q) (h0 : q.t = 0) (hl : ps.length ≤ 200) (hok : ∀ q ∈ ps, q.ok = true) : profOkB ps = true := by
  unfold profOkB
  have h1 : 1 ≤ ps.length := by cases ps with
    | nil => cases hq
    | cons _ _ => simp
  simp only [Bool.and_eq_true, decide_eq_true_eq, List.all_eq_true, List.mem_range]
  refine ⟨⟨⟨h1, hl⟩, by rw [hq]; simp [h0]⟩, fun k hk => ?_⟩
  unfold ptOk
  rw [List.getElem?_eq_getElem hk]
  simp only [Bool.and_eq_true, Bool.or_eq_true, decide_eq_true_eq]
  refine ⟨hok _ (List.getElem_mem hk), ?_⟩
  cases k with
  | zero => exact Or.inl rfl
  | succ k =>
    right
    rw [show k + 1 - 1 = k by omega, List.getElem?_eq_getElem (by omega)]
    have e1 : ps[k]? = some (ps[k]'(by omega)) := List.getElem?_eq_getElem _
    have e2 : ps[k + 1]? = some ps[k + 1] := List.getElem?_eq_getElem _
    have := h.lt k _ _ e1 e2
    have h6 := h.ne k _ _ e1 e2
    simp [this, same_no.2 h6]
theorem freeV_ok {t : Int} : ∀ (ps : List Q) (v : V), v.ok = true → (∀ q ∈ ps, q.ok = true) → (ps.foldl (freeF t) v).ok = true
  | [], _, h, _ => h
  | q :: r, v, h, hq => by
    rw [List.foldl_cons]
    refine freeV_ok r _ ?_ fun x hx => hq x (by simp [hx])
    unfold freeF
    split
    · have := hq q (by simp); unfold Q.ok at this; simp at this; exact this.2
    · exact h
theorem zero_ok : V.zero.ok = true := by decide
end Go.Proofs.Ytjnfdcojccgfoaa
