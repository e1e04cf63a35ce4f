/-
  Taking from a profile and giving back: plain.
-/
import Derived.Test.YtjnfdcojccgfoaaCh
import Derived.IntWalk
namespace Go.Proofs.Ytjnfdcojccgfoaa
set_option linter.unusedSimpArgs false
set_option linter.unusedVariables false
set_option linter.unnecessarySimpa false
open Go.RowKit
theorem w_small (x : Int) (h : -2000001 ≤ x ∧ x ≤ 2000001) : wrap64 x = x := IntWalk.wrap64_in x (by omega)
def spanB (lo hi : Int) : Bool := timeB lo && timeB hi && decide (lo < hi)
theorem span_parts {lo hi : Int} (h : spanB lo hi = true) : 0 ≤ lo ∧ lo < hi ∧ hi ≤ 1000000000 := by
  simp [spanB, timeB, inB] at h; omega
def timesL (ps : List Q) (lo hi : Int) : List Int := insT hi (insT lo (ps.map (·.t)))
theorem timesL_mem {ps : List Q} {lo hi x : Int} : x ∈ timesL ps lo hi ↔ x = hi ∨ x = lo ∨ ∃ q ∈ ps, q.t = x := by
  unfold timesL
  rw [insT_mem, insT_mem, List.mem_map]
theorem map_rise : ∀ {ps : List Q}, Norm ps → (ps.map (·.t)).Pairwise (· < ·)
  | [], _ => by simp
  | p :: r, h => by
    rw [List.map_cons, List.pairwise_cons]
    refine ⟨fun x hx => ?_, map_rise h.tail⟩
    obtain ⟨q, hq, rfl⟩ := List.mem_map.1 hx
    exact h.all_gt q hq
theorem timesL_rise {ps : List Q} (h : Norm ps) (lo hi : Int) : (timesL ps lo hi).Pairwise (· < ·) := insT_rise _ _ (insT_rise _ _ (map_rise h))
theorem timesL_len (ps : List Q) (lo hi : Int) : (timesL ps lo hi).length ≤ ps.length + 2 := by
  have key : ∀ (t : Int) (xs : List Int), (insT t xs).length ≤ xs.length + 1 := by
    intro t xs
    induction xs with
    | nil => simp [insT]
    | cons x r ih =>
      unfold insT; split
      · have := List.length_filter_le (fun y => decide (y ≠ t)) (x :: r); simp only [List.length_cons] at this ⊢; omega
      · simp only [List.length_cons]; omega
  have h1 := key hi (insT lo (ps.map (·.t)))
  have h2 := key lo (ps.map (·.t))
  unfold timesL
  simp at h2 ⊢; omega
/-- Any rising list with these members is that one. -/
theorem timesL_uniq {ps : List Q} (h : Norm ps) {lo hi : Int} {l : List Int} (hl : l.Pairwise (· < ·)) (hm : ∀ x, x ∈ l ↔ x = hi ∨ x = lo ∨ ∃ q ∈ ps, q.t = x) : l = timesL ps lo hi :=
  rise_ext hl (timesL_rise h lo hi) fun x => by rw [hm, timesL_mem]
def chgV (ps : List Q) (lo hi : Int) (f : V → V) : List Q := chL (valAt ps lo hi f) (timesL ps lo hi)
def chgB (ps : List Q) (lo hi : Int) (fb : V → Bool) : Bool := (timesL ps lo hi).all fun t => !(decide (lo ≤ t) && decide (t < hi)) || fb (freeV t ps)
theorem chgB_at {ps : List Q} {lo hi : Int} {fb : V → Bool} (h : chgB ps lo hi fb = true) {t : Int} (ht : t ∈ timesL ps lo hi) (h1 : lo ≤ t) (h2 : t < hi) : fb (freeV t ps) = true := by
  unfold chgB at h
  rw [List.all_eq_true] at h
  have := h t ht
  simpa [h1, h2] using this
theorem chgB_all {ps : List Q} (hn : Norm ps) {lo hi : Int} {fb : V → Bool} : chgB ps lo hi fb = true ↔ ∀ t, lo ≤ t → t < hi → fb (freeV t ps) = true := by
  constructor
  · intro h t h1 h2
    have hlo : lo ∈ timesL ps lo hi := timesL_mem.2 (Or.inr (Or.inl rfl))
    have hhi : hi ∈ timesL ps lo hi := timesL_mem.2 (Or.inl rfl)
    have hr := timesL_rise hn lo hi
    obtain ⟨s, hs⟩ := lastLe_ex hlo h1
    obtain ⟨hm, hle, hiff⟩ := lastLe_some hr hs
    have e : freeV s ps = freeV t ps := freeV_congr ps _ fun q hq => hiff _ (timesL_mem.2 (Or.inr (Or.inr ⟨q, hq, rfl⟩)))
    rw [← e]
    exact chgB_at h hm ((hiff lo hlo).2 h1) (by omega)
  · intro h
    unfold chgB
    rw [List.all_eq_true]
    intro t _
    by_cases hc : lo ≤ t ∧ t < hi
    · simp [hc.1, hc.2, h t hc.1 hc.2]
    · simp; omega
theorem norm_head {ps : List Q} (h : profOkB ps = true) : ∃ q r, ps = q :: r ∧ q.t = 0 := by
  obtain ⟨h1, _, h3, _, _⟩ := profOk_parts h
  cases ps with
  | nil => simp at h1
  | cons q r => exact ⟨q, r, rfl, by simpa using h3⟩
theorem timesL_zero {ps : List Q} (h : profOkB ps = true) (lo hi : Int) : (0 : Int) ∈ timesL ps lo hi := by
  obtain ⟨q, r, rfl, h0⟩ := norm_head h
  exact timesL_mem.2 (Or.inr (Or.inr ⟨q, by simp, h0⟩))
theorem rise_min {l : List Int} {m : Int} (hr : l.Pairwise (· < ·)) (hm : m ∈ l) (hle : ∀ x ∈ l, m ≤ x) : ∃ r, l = m :: r := by
  cases l with
  | nil => cases hm
  | cons x r =>
    rw [List.pairwise_cons] at hr
    rcases List.mem_cons.1 hm with e | e
    · subst e; exact ⟨r, rfl⟩
    · have := hr.1 m e; have := hle x (by simp); omega
theorem timesL_bd {ps : List Q} (h : profOkB ps = true) {lo hi : Int} (hs : spanB lo hi = true) : ∀ x ∈ timesL ps lo hi, 0 ≤ x ∧ x ≤ 1000000000 := by
  obtain ⟨_, _, _, hok, _⟩ := profOk_parts h
  have := span_parts hs
  intro x hx
  rcases timesL_mem.1 hx with e | e | ⟨q, hq, e⟩
  · omega
  · omega
  · have := hok q hq; unfold Q.ok timeB inB at this; simp at this; omega
theorem timesL_head {ps : List Q} (h : profOkB ps = true) {lo hi : Int} (hs : spanB lo hi = true) : ∃ r, timesL ps lo hi = 0 :: r :=
  rise_min (timesL_rise (profOk_norm h) lo hi) (timesL_zero h lo hi) fun x hx => (timesL_bd h hs x hx).1
theorem free_ok {ps : List Q} (h : profOkB ps = true) (t : Int) : (freeV t ps).ok = true := freeV_ok ps _ zero_ok (profOk_parts h).2.2.2.1
/-- A CHANGED PROFILE IS VALID just where it has not too many points. -/
theorem chg_ok {ps : List Q} (h : profOkB ps = true) {lo hi : Int} (hs : spanB lo hi = true) {f : V → V} {fb : V → Bool} (hc : chgB ps lo hi fb = true) (hf : ∀ x, fb x = true → (f x).ok = true) : profOkB (chgV ps lo hi f) = decide ((chgV ps lo hi f).length ≤ 200) := by
  by_cases hl : (chgV ps lo hi f).length ≤ 200
  · rw [decide_eq_true hl]
    obtain ⟨r, hr⟩ := timesL_head h hs
    have hhead : (chgV ps lo hi f).head? = some (mkQ 0 (valAt ps lo hi f 0)) := by
      unfold chgV; rw [hr]; exact chL_head _ _ _
    refine norm_profOk (chL_norm _ _ (timesL_rise (profOk_norm h) lo hi)) hhead rfl hl ?_
    intro q hq
    obtain ⟨h1, h2⟩ := chL_mem _ _ q hq
    have hb := timesL_bd h hs _ h1
    have hv : (valAt ps lo hi f q.t).ok = true := by
      unfold valAt
      split
      · rename_i hin
        exact hf _ (chgB_at hc h1 hin.1 hin.2)
      · exact free_ok h _
    rw [← h2] at hv
    unfold Q.ok timeB inB
    have h3 : vecOkB q.a q.b q.c = true := hv
    simp [h3, hb.1, hb.2]
  · rw [decide_eq_false hl]
    unfold profOkB
    simp [hl]
theorem chg_free {ps : List Q} (h : profOkB ps = true) {lo hi : Int} {f : V → V} {t : Int} (ht : 0 ≤ t) : freeV t (chgV ps lo hi f) = valAt ps lo hi f t :=
  change_free (timesL_rise (profOk_norm h) lo hi) (timesL_mem.2 (Or.inr (Or.inl rfl))) (timesL_mem.2 (Or.inl rfl)) (fun q hq => timesL_mem.2 (Or.inr (Or.inr ⟨q, hq, rfl⟩))) (timesL_zero h lo hi) ht
theorem chg_len (ps : List Q) (lo hi : Int) (f : V → V) : (chgV ps lo hi f).length ≤ ps.length + 2 := Nat.le_trans (chL_len _ _) (timesL_len _ _ _)
/-- Two valid profiles with the same free at all times are one. -/
theorem prof_ext {a b : List Q} (ha : profOkB a = true) (hb : profOkB b = true) (h : ∀ t, 0 ≤ t → freeV t a = freeV t b) : a = b := by
  obtain ⟨p, r, rfl, hp⟩ := norm_head ha
  obtain ⟨q, s, rfl, hq⟩ := norm_head hb
  exact norm_ext (profOk_norm ha) (profOk_norm hb) (by omega) fun t ht => h t (by omega)
/-! taking and giving -/
def takeV (ps : List Q) (lo hi : Int) (v : V) : List Q := chgV ps lo hi fun x => subV x v
def takeB (ps : List Q) (lo hi : Int) (v : V) : Bool := profOkB ps && spanB lo hi && chgB ps lo hi (fun x => subB x v) && decide ((takeV ps lo hi v).length ≤ 200)
def giveV (ps : List Q) (lo hi : Int) (v : V) : List Q := chgV ps lo hi fun x => addV x v
def giveB (ps : List Q) (lo hi : Int) (v : V) : Bool := profOkB ps && spanB lo hi && chgB ps lo hi (fun x => addB x v) && decide ((giveV ps lo hi v).length ≤ 200)
theorem sub_ok {x v : V} (h : subB x v = true) : (subV x v).ok = true ∧ x.ok = true ∧ v.ok = true := by
  simp only [subB, validB, Bool.and_eq_true] at h
  simp [subV, validV, h.1.1, h.1.2, h.2]
theorem add_ok {x v : V} (h : addB x v = true) : (addV x v).ok = true ∧ x.ok = true ∧ v.ok = true := by
  simp only [addB, validB, Bool.and_eq_true] at h
  simp [addV, validV, h.1.1, h.1.2, h.2]
theorem ok_bd {v : V} (h : v.ok = true) : (0 ≤ v.A ∧ v.A ≤ 1000000) ∧ (0 ≤ v.B ∧ v.B ≤ 1000000) ∧ (0 ≤ v.C ∧ v.C ≤ 1000000) := by
  simp [V.ok, vecOkB, resB, inB] at h; omega
theorem ok_mk {v : V} (h : (0 ≤ v.A ∧ v.A ≤ 1000000) ∧ (0 ≤ v.B ∧ v.B ≤ 1000000) ∧ (0 ≤ v.C ∧ v.C ≤ 1000000)) : v.ok = true := by
  simp [V.ok, vecOkB, resB, inB]; omega
theorem sub_vals {x v : V} (h : subB x v = true) : (subV x v).A = x.A - v.A ∧ (subV x v).B = x.B - v.B ∧ (subV x v).C = x.C - v.C := by
  simp only [subB, validB, Bool.and_eq_true] at h
  have h1 := ok_bd h.1.1
  have h2 := ok_bd h.1.2
  have e : subV x v = difV x v := by simp [subV, validV, h.1.1, h.1.2, h.2]
  rw [e]
  show wrap64 (x.A - v.A) = x.A - v.A ∧ wrap64 (x.B - v.B) = x.B - v.B ∧ wrap64 (x.C - v.C) = x.C - v.C
  exact ⟨w_small _ (by omega), w_small _ (by omega), w_small _ (by omega)⟩
theorem add_vals {x v : V} (h : addB x v = true) : (addV x v).A = x.A + v.A ∧ (addV x v).B = x.B + v.B ∧ (addV x v).C = x.C + v.C := by
  simp only [addB, validB, Bool.and_eq_true] at h
  have h1 := ok_bd h.1.1
  have h2 := ok_bd h.1.2
  have e : addV x v = sumV x v := by simp [addV, validV, h.1.1, h.1.2, h.2]
  rw [e]
  show wrap64 (x.A + v.A) = x.A + v.A ∧ wrap64 (x.B + v.B) = x.B + v.B ∧ wrap64 (x.C + v.C) = x.C + v.C
  exact ⟨w_small _ (by omega), w_small _ (by omega), w_small _ (by omega)⟩
theorem subB_iff {x v : V} : subB x v = true ↔ x.ok = true ∧ v.ok = true ∧ v.A ≤ x.A ∧ v.B ≤ x.B ∧ v.C ≤ x.C := by
  constructor
  · intro h
    obtain ⟨h1, h2, h3⟩ := sub_ok h
    obtain ⟨a, b, c⟩ := sub_vals h
    have := ok_bd h1
    exact ⟨h2, h3, by omega, by omega, by omega⟩
  · rintro ⟨h1, h2, a, b, c⟩
    have b1 := ok_bd h1
    have b2 := ok_bd h2
    have : (difV x v).ok = true := by
      apply ok_mk
      unfold difV
      simp only
      rw [w_small _ (by omega), w_small _ (by omega), w_small _ (by omega)]
      omega
    simp [subB, validB, h1, h2, this]
theorem addB_iff {x v : V} : addB x v = true ↔ x.ok = true ∧ v.ok = true ∧ x.A + v.A ≤ 1000000 ∧ x.B + v.B ≤ 1000000 ∧ x.C + v.C ≤ 1000000 := by
  constructor
  · intro h
    obtain ⟨h1, h2, h3⟩ := add_ok h
    obtain ⟨a, b, c⟩ := add_vals h
    have := ok_bd h1
    exact ⟨h2, h3, by omega, by omega, by omega⟩
  · rintro ⟨h1, h2, a, b, c⟩
    have b1 := ok_bd h1
    have b2 := ok_bd h2
    have : (sumV x v).ok = true := by
      apply ok_mk
      unfold sumV
      simp only
      rw [w_small _ (by omega), w_small _ (by omega), w_small _ (by omega)]
      omega
    simp [addB, validB, h1, h2, this]
theorem add_sub {x v : V} (h : subB x v = true) : addB (subV x v) v = true ∧ addV (subV x v) v = x := by
  obtain ⟨h1, h2, h3⟩ := sub_ok h
  obtain ⟨a, b, c⟩ := sub_vals h
  have bx := ok_bd h2
  have hb : addB (subV x v) v = true := addB_iff.2 ⟨h1, h3, by omega, by omega, by omega⟩
  obtain ⟨a', b', c'⟩ := add_vals hb
  exact ⟨hb, V.ext' (by omega) (by omega) (by omega)⟩
theorem take_parts {ps : List Q} {lo hi : Int} {v : V} (h : takeB ps lo hi v = true) : profOkB ps = true ∧ spanB lo hi = true ∧ chgB ps lo hi (fun x => subB x v) = true ∧ (takeV ps lo hi v).length ≤ 200 := by
  simp only [takeB, Bool.and_eq_true, decide_eq_true_eq] at h
  exact ⟨h.1.1.1, h.1.1.2, h.1.2, h.2⟩
theorem take_vok {ps : List Q} {lo hi : Int} {v : V} (hn : Norm ps) (hs : spanB lo hi = true) (h : chgB ps lo hi (fun x => subB x v) = true) : v.ok = true := by
  have := span_parts hs
  exact (sub_ok ((chgB_all hn).1 h lo (Int.le_refl _) this.2.1)).2.2
theorem give_vok {ps : List Q} {lo hi : Int} {v : V} (hn : Norm ps) (hs : spanB lo hi = true) (h : chgB ps lo hi (fun x => addB x v) = true) : v.ok = true := by
  have := span_parts hs
  exact (add_ok ((chgB_all hn).1 h lo (Int.le_refl _) this.2.1)).2.2
theorem take_ok {ps : List Q} {lo hi : Int} {v : V} (h : takeB ps lo hi v = true) : profOkB (takeV ps lo hi v) = true := by
  obtain ⟨h1, h2, h3, h4⟩ := take_parts h
  unfold takeV at h4 ⊢
  rw [chg_ok h1 h2 h3 fun x hx => (sub_ok hx).1]
  exact decide_eq_true h4
theorem give_parts {ps : List Q} {lo hi : Int} {v : V} (h : giveB ps lo hi v = true) : profOkB ps = true ∧ spanB lo hi = true ∧ chgB ps lo hi (fun x => addB x v) = true ∧ (giveV ps lo hi v).length ≤ 200 := by
  simp only [giveB, Bool.and_eq_true, decide_eq_true_eq] at h
  exact ⟨h.1.1.1, h.1.1.2, h.1.2, h.2⟩
theorem give_ok {ps : List Q} {lo hi : Int} {v : V} (h : giveB ps lo hi v = true) : profOkB (giveV ps lo hi v) = true := by
  obtain ⟨h1, h2, h3, h4⟩ := give_parts h
  unfold giveV at h4 ⊢
  rw [chg_ok h1 h2 h3 fun x hx => (add_ok hx).1]
  exact decide_eq_true h4
theorem take_free {ps : List Q} {lo hi : Int} {v : V} (h : takeB ps lo hi v = true) {t : Int} (ht : 0 ≤ t) : freeV t (takeV ps lo hi v) = if lo ≤ t ∧ t < hi then subV (freeV t ps) v else freeV t ps := chg_free (take_parts h).1 ht
theorem take_sub {ps : List Q} {lo hi : Int} {v : V} (h : takeB ps lo hi v = true) {t : Int} (h1 : lo ≤ t) (h2 : t < hi) : subB (freeV t ps) v = true := by
  obtain ⟨a, b, c, d⟩ := take_parts h
  exact (chgB_all (profOk_norm a)).1 c t h1 h2
/-- What was taken, given back, leaves the profile as it was. -/
theorem give_take {ps : List Q} {lo hi : Int} {v : V} (h : takeB ps lo hi v = true) : giveB (takeV ps lo hi v) lo hi v = true ∧ giveV (takeV ps lo hi v) lo hi v = ps := by
  obtain ⟨h1, h2, h3, h4⟩ := take_parts h
  have hok := take_ok h
  have hsp := span_parts h2
  have hb : chgB (takeV ps lo hi v) lo hi (fun x => addB x v) = true := by
    rw [chgB_all (profOk_norm hok)]
    intro t a b
    rw [take_free h (by omega), if_pos ⟨a, b⟩]
    exact (add_sub (take_sub h a b)).1
  have hfree : ∀ t, 0 ≤ t → freeV t (giveV (takeV ps lo hi v) lo hi v) = freeV t ps := by
    intro t ht
    rw [giveV, chg_free hok ht]
    unfold valAt
    split
    · rename_i hin
      rw [take_free h ht, if_pos hin]
      exact (add_sub (take_sub h hin.1 hin.2)).2
    · rename_i hin
      rw [take_free h ht, if_neg hin]
  obtain ⟨q, r, he, hq0⟩ := norm_head h1
  obtain ⟨s, hs⟩ := timesL_head hok h2
  have hhead : (giveV (takeV ps lo hi v) lo hi v).head? = some (mkQ 0 (valAt (takeV ps lo hi v) lo hi (fun x => addV x v) 0)) := by
    unfold giveV chgV; rw [hs]; exact chL_head _ _ _
  have hn : Norm (giveV (takeV ps lo hi v) lo hi v) := chL_norm _ _ (timesL_rise (profOk_norm hok) lo hi)
  have e : giveV (takeV ps lo hi v) lo hi v = ps := by
    cases hg : giveV (takeV ps lo hi v) lo hi v with
    | nil => rw [hg] at hhead; cases hhead
    | cons p t =>
      rw [hg] at hhead hn hfree
      have hp : p.t = 0 := by
        have : p = mkQ 0 (valAt (takeV ps lo hi v) lo hi (fun x => addV x v) 0) := by simpa using hhead
        rw [this]; rfl
      rw [he]
      refine norm_ext hn (he ▸ profOk_norm h1) (by omega) fun u hu => ?_
      rw [hfree u (by omega), he]
  refine ⟨?_, e⟩
  simp only [giveB, Bool.and_eq_true, decide_eq_true_eq]
  exact ⟨⟨⟨hok, h2⟩, hb⟩, by rw [e]; exact (profOk_parts h1).2.1⟩
end Go.Proofs.Ytjnfdcojccgfoaa
