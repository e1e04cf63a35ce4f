/-
  A profile that is cut: plain.
-/
import Derived.Test.YtjnfdcojccgfoaaGv
namespace Go.Proofs.Ytjnfdcojccgfoaa
set_option linter.unusedSimpArgs false
set_option linter.unusedVariables false
set_option linter.unnecessarySimpa false
open Go.RowKit
/-! a profile that is cut -/
def cutV (t : Int) (ps : List Q) : List Q := mkQ 0 (freeV t ps) :: ps.filter fun q => decide (t < q.t)
theorem cut_norm {t : Int} (h0 : 0 ≤ t) : ∀ {r : List Q} {p : Q}, Norm (p :: r) → p.t ≤ t → Norm (mkQ 0 (freeV t (p :: r)) :: (p :: r).filter fun q => decide (t < q.t))
  | [], p, _, hp => by
    have e : [p].filter (fun q => decide (t < q.t)) = [] := by simp; omega
    rw [e]
    constructor <;> intro k a b ha hb <;> simp at hb
  | x :: r, p, h, hp => by
    have e : (p :: x :: r).filter (fun q => decide (t < q.t)) = (x :: r).filter (fun q => decide (t < q.t)) := by
      rw [List.filter_cons_of_neg (by simp; omega)]
    rw [e]
    by_cases hx : x.t ≤ t
    · have e2 : freeV t (p :: x :: r) = freeV t (x :: r) := by
        rw [freeV_cons]; unfold freeV
        exact fold_le (x :: r) _ _ x rfl hx
      rw [e2]
      exact cut_norm h0 h.tail hx
    · have hall : ∀ q ∈ x :: r, t < q.t := by
        intro q hq
        rcases List.mem_cons.1 hq with e | e
        · subst e; omega
        · have := h.tail.all_gt q e; omega
      have e2 : freeV t (p :: x :: r) = p.v := by rw [freeV_cons, if_pos hp, fold_gt _ _ hall]
      have e3 : (x :: r).filter (fun q => decide (t < q.t)) = x :: r := List.filter_eq_self.2 fun q hq => by simpa using hall q hq
      rw [e2, e3]
      have hne := h.ne 0 p x rfl rfl
      constructor
      · intro k a b ha hb
        cases k with
        | zero =>
          simp at ha hb; subst ha hb
          rw [mkQ_t]; omega
        | succ k => exact h.tail.lt k a b (by simpa using ha) (by simpa using hb)
      · intro k a b ha hb
        cases k with
        | zero =>
          simp at ha hb; subst ha hb
          rw [mkQ_v]; exact hne
        | succ k => exact h.tail.ne k a b (by simpa using ha) (by simpa using hb)
theorem cut_ok {ps : List Q} (h : profOkB ps = true) {t : Int} (ht : timeB t = true) : profOkB (cutV t ps) = true := by
  obtain ⟨q, r, he, hq⟩ := norm_head h
  have h0 : 0 ≤ t := by simp [timeB, inB] at ht; omega
  obtain ⟨_, hl, _, hok, _⟩ := profOk_parts h
  have hn : Norm (cutV t ps) := by
    unfold cutV
    rw [he]
    exact cut_norm h0 (he ▸ profOk_norm h) (by omega)
  refine norm_profOk hn rfl rfl ?_ ?_
  · unfold cutV
    rw [he, List.filter_cons_of_neg (by simp; omega)]
    have h1 := List.length_filter_le (fun q => decide (t < q.t)) r
    rw [he] at hl
    simp only [List.length_cons] at hl ⊢
    omega
  · intro x hx
    unfold cutV at hx
    rcases List.mem_cons.1 hx with e | e
    · subst e
      have h1 : vecOkB (freeV t ps).A (freeV t ps).B (freeV t ps).C = true := free_ok h t
      unfold Q.ok timeB inB mkQ
      simp [h1]
    · exact hok x (List.mem_filter.1 e).1
theorem cut_len {ps : List Q} (h : profOkB ps = true) {t : Int} (ht : timeB t = true) : (cutV t ps).length ≤ ps.length := by
  obtain ⟨q, r, he, hq⟩ := norm_head h
  have h0 : 0 ≤ t := by simp [timeB, inB] at ht; omega
  unfold cutV
  rw [he, List.filter_cons_of_neg (by simp; omega)]
  have h1 := List.length_filter_le (fun q => decide (t < q.t)) r
  simp only [List.length_cons]
  omega
theorem cut_fold {t u : Int} (htu : t ≤ u) : ∀ {r : List Q} {p : Q}, Norm (p :: r) → p.t ≤ t → ((p :: r).filter fun q => decide (t < q.t)).foldl (freeF u) (freeV t (p :: r)) = freeV u (p :: r)
  | [], p, _, hp => by
    have e : [p].filter (fun q => decide (t < q.t)) = [] := by simp; omega
    rw [e]
    simp [freeV, freeF, hp]; omega
  | x :: r, p, h, hp => by
    have e : (p :: x :: r).filter (fun q => decide (t < q.t)) = (x :: r).filter (fun q => decide (t < q.t)) := by
      rw [List.filter_cons_of_neg (by simp; omega)]
    rw [e]
    by_cases hx : x.t ≤ t
    · have e2 : ∀ w, t ≤ w → freeV w (p :: x :: r) = freeV w (x :: r) := by
        intro w hw
        rw [freeV_cons]; unfold freeV
        exact fold_le (x :: r) _ _ x rfl (by omega)
      rw [e2 t (Int.le_refl _), e2 u htu]
      exact cut_fold htu h.tail hx
    · have hall : ∀ q ∈ x :: r, t < q.t := by
        intro q hq
        rcases List.mem_cons.1 hq with e | e
        · subst e; omega
        · have := h.tail.all_gt q e; omega
      have e2 : freeV t (p :: x :: r) = p.v := by rw [freeV_cons, if_pos hp, fold_gt _ _ hall]
      have e3 : (x :: r).filter (fun q => decide (t < q.t)) = x :: r := List.filter_eq_self.2 fun q hq => by simpa using hall q hq
      rw [e2, e3, freeV_cons, if_pos (by omega)]
theorem cut_free {ps : List Q} (h : profOkB ps = true) {t u : Int} (h0 : 0 ≤ t) (hu : 0 ≤ u) : freeV u (cutV t ps) = if t ≤ u then freeV u ps else freeV t ps := by
  unfold cutV
  rw [freeV_cons, mkQ_t, if_pos hu, mkQ_v]
  by_cases hc : t ≤ u
  · rw [if_pos hc]
    obtain ⟨q, r, rfl, hq⟩ := norm_head h
    exact cut_fold hc (profOk_norm h) (by omega)
  · rw [if_neg hc]
    exact fold_gt _ _ fun q hq => by
      have := (List.mem_filter.1 hq).2
      simp at this; omega
theorem cut_cut {ps : List Q} (h : profOkB ps = true) {t : Int} (h0 : 0 ≤ t) : cutV t (cutV t ps) = cutV t ps := by
  have e : freeV t (cutV t ps) = freeV t ps := by rw [cut_free h h0 h0, if_pos (Int.le_refl _)]
  have e2 : (cutV t ps).filter (fun q => decide (t < q.t)) = ps.filter fun q => decide (t < q.t) := by
    unfold cutV
    rw [List.filter_cons_of_neg (by rw [mkQ_t]; simp; omega), List.filter_filter]
    simp
  show mkQ 0 (freeV t (cutV t ps)) :: (cutV t ps).filter (fun q => decide (t < q.t)) = cutV t ps
  rw [e, e2]
  rfl
/-- The minimum over a shorter span is not less. -/
theorem least_mono {ps : List Q} (h : profOkB ps = true) {lo hi hi' : Int} (h0 : 0 ≤ lo) (h1 : lo < hi') (h2 : hi' ≤ hi) : leV (leastV lo hi ps) (leastV lo hi' ps) := by
  obtain ⟨_, b, _⟩ := least_spec h h0 (show lo < hi by omega)
  obtain ⟨_, _, c'⟩ := least_spec h h0 h1
  exact c' _ fun t h3 h4 => b t h3 (by omega)
end Go.Proofs.Ytjnfdcojccgfoaa
