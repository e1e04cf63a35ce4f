/-
  The plain law of profiles.
-/
import Derived.Test.YtjnfdcojccgfoaaPa
import Derived.Test.YtjnfdcojccgfoaaNa
namespace Go.Proofs.Ytjnfdcojccgfoaa
set_option linter.unusedSimpArgs false
set_option linter.unusedVariables false
set_option linter.unnecessarySimpa false
def Q.v (q : Q) : V := ⟨q.a, q.b, q.c⟩
def Q.ok (q : Q) : Bool := timeB q.t && vecOkB q.a q.b q.c
def Q.same (p q : Q) : Bool := p.a == q.a && p.b == q.b && p.c == q.c
/-- What ProfOk asks of point k. -/
def ptOk (ps : List Q) (k : Nat) : Bool := match ps[k]? with
  | none => true
  | some q => q.ok && (decide (k = 0) || match ps[k - 1]? with
    | none => true
    | some p => decide (p.t < q.t) && !p.same q)
def profOkB (ps : List Q) : Bool := decide (1 ≤ ps.length) && decide (ps.length ≤ 200) && decide ((ps.head?.map (·.t)) = some 0) && (List.range ps.length).all (ptOk ps)

theorem profOk_parts {ps : List Q} (h : profOkB ps = true) : 1 ≤ ps.length ∧ ps.length ≤ 200 ∧ ps.head?.map (·.t) = some 0 ∧ (∀ q ∈ ps, q.ok = true) ∧ ps.Pairwise (fun p q => p.t < q.t) := by
  unfold profOkB at h
  simp only [Bool.and_eq_true, decide_eq_true_eq, List.all_eq_true, List.mem_range] at h
  obtain ⟨⟨⟨h1, h2⟩, h3⟩, h4⟩ := h
  refine ⟨h1, h2, h3, ?_, ?_⟩
  · intro q hq
    obtain ⟨k, hk, rfl⟩ := List.getElem_of_mem hq
    have := h4 k hk
    unfold ptOk at this
    rw [List.getElem?_eq_getElem hk] at this
    simp only [Bool.and_eq_true] at this
    exact this.1
  · rw [List.pairwise_iff_getElem]
    intro i j hi hj hij
    have step : ∀ k, k + 1 < ps.length → (hk : k + 1 < ps.length) → ps[k].t < ps[k + 1].t := by
      intro k _ hk
      have := h4 (k + 1) hk
      unfold ptOk at this
      rw [List.getElem?_eq_getElem hk] at this
      simp only [Bool.and_eq_true, Bool.or_eq_true, decide_eq_true_eq] at this
      have h5 := this.2.resolve_left (by omega)
      rw [show k + 1 - 1 = k by omega, List.getElem?_eq_getElem (by omega)] at h5
      simp only [Bool.and_eq_true, decide_eq_true_eq] at h5
      exact h5.1
    obtain ⟨d, rfl⟩ : ∃ d, j = i + 1 + d := ⟨j - i - 1, by omega⟩
    clear hij
    induction d with
    | zero => exact step i (by omega) (by omega)
    | succ d ih =>
      have a1 := ih (by omega) step
      have a2 := step (i + 1 + d) (by omega) (by omega)
      exact Int.lt_trans a1 a2

def freeF (t : Int) (v : V) (q : Q) : V := if q.t ≤ t then q.v else v
def freeV (t : Int) (ps : List Q) : V := ps.foldl (freeF t) V.zero
def leastF (lo hi : Int) (v : V) (q : Q) : V := if lo < q.t ∧ q.t < hi then vminV v q.v else v
def leastV (lo hi : Int) (ps : List Q) : V := ps.foldl (leastF lo hi) (freeV lo ps)
def sleastF (lo hi : Int) (v : V) (q : Q) : V := if lo ≤ q.t ∧ q.t < hi then vminV v q.v else v
def sleastV (lo hi : Int) (ps : List Q) : V := ps.foldl (sleastF lo hi) (freeV lo ps)

theorem free_at {t : Int} : ∀ (ps : List Q) (v : V), ps.Pairwise (fun p q => p.t < q.t) → ∀ q ∈ ps, q.t = t → ps.foldl (freeF t) v = q.v
  | [], _, _, _, h, _ => by cases h
  | p :: r, v, hs, q, hq, ht => by
    rw [List.pairwise_cons] at hs
    have later : ∀ (r : List Q) (v : V), (∀ x ∈ r, t < x.t) → r.foldl (freeF t) v = v := by
      intro r
      induction r with
      | nil => intro v _; rfl
      | cons x r ih =>
        intro v h
        have hx := h x (by simp)
        rw [List.foldl_cons, freeF, if_neg (by omega)]
        exact ih v fun y hy => h y (by simp [hy])
    rw [List.foldl_cons]
    rcases List.mem_cons.1 hq with rfl | hq
    · rw [freeF, if_pos (by omega)]
      exact later r _ fun x hx => by have := hs.1 x hx; omega
    · exact free_at r _ hs.2 q hq ht

theorem vmin_self {v : V} (h : v.ok = true) : vminV v v = v := by
  unfold vminV validV minV
  simp [h]

theorem least_eq {lo hi : Int} : ∀ (ps : List Q) (v : V), ps.Pairwise (fun p q => p.t < q.t) → (∀ q ∈ ps, q.t = lo → v = q.v ∧ q.v.ok = true) → ps.foldl (leastF lo hi) v = ps.foldl (sleastF lo hi) v
  | [], _, _, _ => rfl
  | q :: r, v, hs, h => by
    rw [List.pairwise_cons] at hs
    rw [List.foldl_cons, List.foldl_cons]
    rcases Int.lt_trichotomy q.t lo with h1 | h1 | h1
    · rw [leastF, if_neg (by omega), sleastF, if_neg (by omega)]
      exact least_eq r v hs.2 fun x hx => h x (by simp [hx])
    · obtain ⟨e, ho⟩ := h q (by simp) h1
      have e1 : leastF lo hi v q = v := by rw [leastF, if_neg (by omega)]
      have e2 : sleastF lo hi v q = v := by
        unfold sleastF
        split
        · rw [e, vmin_self ho]
        · rfl
      rw [e1, e2]
      exact least_eq r v hs.2 fun x hx hx' => by have := hs.1 x hx; omega
    · have e1 : leastF lo hi v q = sleastF lo hi v q := by
        unfold leastF sleastF
        by_cases h2 : q.t < hi
        · rw [if_pos ⟨h1, h2⟩, if_pos ⟨by omega, h2⟩]
        · rw [if_neg (by omega), if_neg (by omega)]
      rw [e1]
      exact least_eq r _ hs.2 fun x hx hx' => by have := hs.1 x hx; omega
theorem leastV_eq {lo hi : Int} {ps : List Q} (h : profOkB ps = true) : leastV lo hi ps = sleastV lo hi ps := by
  obtain ⟨_, _, _, hok, hs⟩ := profOk_parts h
  refine least_eq ps _ hs fun q hq ht => ⟨free_at ps _ hs q hq ht, ?_⟩
  have := hok q hq
  unfold Q.ok at this
  simp only [Bool.and_eq_true] at this
  exact this.2
end Go.Proofs.Ytjnfdcojccgfoaa
