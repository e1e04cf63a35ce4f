/-
  Reserving and giving back: plain.
-/
import Derived.Test.YtjnfdcojccgfoaaGv
namespace Go.Proofs.Ytjnfdcojccgfoaa
set_option linter.unusedSimpArgs false
set_option linter.unusedVariables false
set_option linter.unnecessarySimpa false
open Go.RowKit
theorem getD_mem {ps : List (List Q)} {i : Nat} (h : i < ps.length) : ps.getD i [] ∈ ps := by
  simp [List.getD, List.getElem?_eq_getElem h]
theorem takeO_some {lo hi : Int} {v : V} {a b : List Q} (h : takeO lo hi v a = some b) : takeB a lo hi v = true ∧ b = takeV a lo hi v := by
  unfold takeO at h
  split at h
  · rename_i hc; exact ⟨hc, (Option.some.inj h).symm⟩
  · cases h
theorem giveO_some {lo hi : Int} {v : V} {a b : List Q} (h : giveO lo hi v a = some b) : giveB a lo hi v = true ∧ b = giveV a lo hi v := by
  unfold giveO at h
  split at h
  · rename_i hc; exact ⟨hc, (Option.some.inj h).symm⟩
  · cases h
theorem okB_mk {r : Rm} (h1 : topoOkB r.par r.nodes = true) (h2 : r.up.length = r.nodes.length) (h3 : r.profs.length = r.nodes.length) (h4 : ∀ i, i < r.profs.length → profOkB (r.profs.getD i []) = true) (h5 : profOkB r.lics = true) : r.okB = true := by
  simp only [Rm.okB, Bool.and_eq_true, decide_eq_true_eq, List.all_eq_true]
  refine ⟨⟨⟨⟨h1, h2⟩, h3⟩, fun p hp => ?_⟩, h5⟩
  obtain ⟨i, hi, rfl⟩ := List.getElem_of_mem hp
  have := h4 i hi
  simpa [List.getD, List.getElem?_eq_getElem hi] using this
/-- A room in which something was taken or given is right. -/
theorem moved_ok {mv : V → List Q → Option (List Q)} (hmv : ∀ v a b, mv v a = some b → profOkB b = true) {r s : Rm} {j : J} {nodes : List Int} (h : movedV mv r j nodes = some s) : s.okB = true := by
  obtain ⟨h1, h2, h3, e1, e2, e3, e4, hl, hn, ho⟩ := moved_some h
  obtain ⟨a, b, c, d, e⟩ := room_parts h1
  refine okB_mk (by rw [e1, e2]; exact a) (by rw [e3, e2]; exact b) (by rw [e4, e2]; exact c) (fun i hi => ?_) (hmv _ _ _ hl)
  by_cases hi2 : (i : Int) ∈ nodes
  · have := hn i hi2
    simp only [Int.toNat_natCast] at this
    exact hmv _ _ _ this
  · rw [ho i hi2]
    exact d _ (getD_mem (by omega))
theorem res_ok {r s : Rm} {j : J} {t : Int} {nodes : List Int} (h : resV r j t nodes = some s) : s.okB = true := by
  unfold resV at h
  split at h
  · exact moved_ok (fun v a b hab => by obtain ⟨h1, rfl⟩ := takeO_some hab; exact take_ok h1) h
  · cases h
/-- What was reserved, given back, leaves the room as it was. -/
theorem rel_res {r s : Rm} {j : J} {t : Int} {nodes : List Int} (h : resV r j t nodes = some s) : relV s j t (t + j.wl) nodes = some r := by
  have hs := res_ok h
  unfold resV at h
  split at h
  · obtain ⟨h1, h2, h3, e1, e2, e3, e4, hl, hn, ho⟩ := moved_some h
    have h3' : jobNodesB s j nodes = true := by
      unfold jobNodesB areB at h3 ⊢; rw [e1, e2]; exact h3
    have key : ∀ v a b, takeO t (t + j.wl) v a = some b → giveO t (t + j.wl) v b = some a := by
      intro v a b hab
      obtain ⟨ha, rfl⟩ := takeO_some hab
      obtain ⟨g1, g2⟩ := give_take ha
      unfold giveO
      rw [if_pos g1, g2]
    obtain ⟨u, hu⟩ := moved_mk (mv := giveO t (t + j.wl)) hs h2 h3' (fun x hx => by rw [key _ _ _ (hn x hx)]; rfl) (by rw [key _ _ _ hl]; rfl)
    unfold relV
    rw [hu]
    obtain ⟨_, _, _, f1, f2, f3, f4, fl, fn, fo⟩ := moved_some hu
    have el : u.lics = r.lics := by rw [key _ _ _ hl] at fl; exact (Option.some.inj fl).symm
    have ep : u.profs = r.profs := by
      apply List.ext_getElem?
      intro i
      have hlen : u.profs.length = r.profs.length := by omega
      by_cases hi : i < r.profs.length
      · have hd : u.profs.getD i [] = r.profs.getD i [] := by
          by_cases hin : (i : Int) ∈ nodes
          · have a1 := fn i hin
            have a2 := hn i hin
            simp only [Int.toNat_natCast] at a1 a2
            rw [key _ _ _ a2] at a1
            exact (Option.some.inj a1).symm
          · rw [fo i hin, ho i hin]
        simp only [List.getD] at hd
        rw [List.getElem?_eq_getElem hi] at hd ⊢
        rw [List.getElem?_eq_getElem (by omega)] at hd ⊢
        simpa using hd
      · rw [List.getElem?_eq_none (by omega), List.getElem?_eq_none (by omega)]
    have e : u = r := by
      cases u; cases r
      simp only at e1 e2 e3 f1 f2 f3 el ep
      simp only [Rm.mk.injEq]
      exact ⟨f1.trans e1, f2.trans e2, f3.trans e3, ep, el⟩
    rw [e]
  · cases h
/-- At most m points a profile. -/
def Rm.few (r : Rm) (m : Nat) : Prop := (∀ p ∈ r.profs, p.length ≤ m) ∧ r.lics.length ≤ m
theorem job_wl {j : J} (h : j.okB = true) : 1 ≤ j.wl ∧ j.wl ≤ 1000000 ∧ 1 ≤ j.nn ∧ j.nn ≤ 24 ∧ j.need.ok = true ∧ j.lic.ok = true := by
  unfold J.okB at h
  simp only [Bool.and_eq_true] at h
  obtain ⟨⟨⟨⟨⟨⟨h1, h2⟩, h3⟩, h4⟩, h5⟩, h6⟩, h7⟩ := h
  simp [inB] at h3 h6
  exact ⟨h6.1, h6.2, h3.1, h3.2, h4, h5⟩
theorem earl_some {r : Rm} {j : J} {f t : Int} {nodes : List Int} (h : earlV r j f = some (t, nodes)) : r.okB = true ∧ j.okB = true ∧ timeB f = true ∧ f ≤ t ∧ tryV r j t = some nodes ∧ ∀ u ∈ timesE r f, u < t → tryV r j u = none := by
  unfold earlV at h
  split at h
  · rename_i hc
    simp only [Bool.and_eq_true] at hc
    obtain ⟨a, b, c⟩ := first_some (timesE_spec r f).1 h
    have := ((timesE_spec r f).2 t).1 a
    exact ⟨hc.1.1, hc.1.2, hc.2, by omega, b, c⟩
  · cases h
theorem try_some {r : Rm} {j : J} {t : Int} {nodes : List Int} (hr : r.okB = true) (h0 : 0 ≤ t) (hj : j.okB = true) (h : tryV r j t = some nodes) : t + j.wl ≤ 1000000000 ∧ fitV j.lic (leastV t (t + j.wl) r.lics) = true ∧ jobNodesB r j nodes = true ∧ nodes.Pairwise (· < ·) ∧
    (∀ x ∈ nodes, 0 ≤ x ∧ x < r.profs.length ∧ eligB r j.need t (t + j.wl) x.toNat = true) ∧ chooseV r.par r.nodes (eligV r j.need t (t + j.wl)) j.nn.toNat j.lv = some nodes := by
  unfold tryV at h
  split at h
  · rename_i hc
    obtain ⟨e1, e2⟩ := eligN_rise r j.need t (t + j.wl) r.profs.length
    have hjb := job_wl hj
    obtain ⟨a, b, c, d, e⟩ := room_parts hr
    obtain ⟨b1, hb1, hb2, hb3, hb4, hb5, hb6⟩ := choose_some (rise_nodup e1) h
    have hm : ∀ x ∈ nodes, 0 ≤ x ∧ x < r.profs.length ∧ eligB r j.need t (t + j.wl) x.toNat = true := fun x hx => e2 x (List.mem_filter.1 (hb6 x hx)).1
    refine ⟨hc.1, hc.2, ?_, hb5, hm, h⟩
    simp only [jobNodesB, areB, Bool.and_eq_true, decide_eq_true_eq]
    exact ⟨⟨rise_nodup hb5, inNodes_iff.2 fun x hx => by have := hm x hx; omega, a⟩, by omega⟩
  · cases h
/-- What can start can be reserved. -/
theorem res_try {r : Rm} {j : J} {t : Int} {nodes : List Int} (hr : r.okB = true) (h0 : 0 ≤ t) (hj : j.okB = true) (hf : r.few 198) (h : tryV r j t = some nodes) : ∃ s, resV r j t nodes = some s := by
  obtain ⟨h1, h2, h3, h4, h5, h6⟩ := try_some hr h0 hj h
  have hjb := job_wl hj
  obtain ⟨a, b, c, d, e⟩ := room_parts hr
  have hs : spanB t (t + j.wl) = true := by simp [spanB, timeB, inB]; omega
  have ht : timeB t = true := by simp [timeB, inB]; omega
  unfold resV
  rw [if_pos ht]
  refine moved_mk hr hj h3 (fun x hx => ?_) ?_
  · obtain ⟨x1, x2, x3⟩ := h5 x hx
    have hp : r.profs.getD x.toNat [] ∈ r.profs := getD_mem (by omega)
    unfold eligB at x3
    simp only [Bool.and_eq_true] at x3
    unfold takeO
    rw [if_pos (take_fit (d _ hp) hs (hf.1 _ hp) x3.2)]; rfl
  · unfold takeO
    rw [if_pos (take_fit e hs hf.2 h2)]; rfl
theorem filter_sub {α : Type} {p q : α → Bool} : ∀ {l : List α}, (∀ x ∈ l, p x = true → q x = true) → (l.filter p).Sublist (l.filter q)
  | [], _ => List.Sublist.refl _
  | x :: r, h => by
    have ih := filter_sub (l := r) fun y hy => h y (by simp [hy])
    by_cases hp : p x = true
    · rw [List.filter_cons_of_pos hp, List.filter_cons_of_pos (h x (by simp) hp)]
      exact ih.cons_cons x
    · rw [List.filter_cons_of_neg hp]
      by_cases hq : q x = true
      · rw [List.filter_cons_of_pos hq]; exact ih.cons x
      · rw [List.filter_cons_of_neg hq]; exact ih
/-- A time at which a job can start: the last change no later will do too. -/
theorem try_back {r : Rm} {j : J} {s t : Int} (hr : r.okB = true) (hj : j.okB = true) (h0 : 0 ≤ s) (hst : s ≤ t) (hno : ∀ x, changeAt r x → (x ≤ s ↔ x ≤ t)) (h : (tryV r j t).isSome = true) : (tryV r j s).isSome = true := by
  have hjb := job_wl hj
  obtain ⟨a, b, c, d, e⟩ := room_parts hr
  have hfr : ∀ p ∈ r.lics :: r.profs, ∀ u, s ≤ u → u ≤ t → freeV u p = freeV t p := by
    intro p hp u h1 h2
    refine freeV_congr p _ fun q hq => ?_
    have := hno q.t ⟨p, hp, q, hq, rfl⟩
    exact ⟨fun _ => by omega, fun h3 => by have := this.2 h3; omega⟩
  have hfit : ∀ p ∈ r.lics :: r.profs, profOkB p = true → ∀ v, fitV v (leastV t (t + j.wl) p) = true → fitV v (leastV s (s + j.wl) p) = true := by
    intro p hp hok v hv
    rw [fit_least hok (by omega) (by omega)] at hv ⊢
    refine ⟨hv.1, fun u h1 h2 => ?_⟩
    by_cases hu : u ≤ t
    · rw [hfr p hp u h1 hu]
      exact hv.2 t (Int.le_refl _) (by omega)
    · exact hv.2 u (by omega) (by omega)
  unfold tryV at h ⊢
  split at h
  · rename_i hc
    rw [if_pos ⟨by omega, hfit _ (by simp) e _ hc.2⟩]
    refine choose_more ?_ h
    unfold eligV eligN
    refine (filter_sub fun i hi hb => ?_).map _
    unfold eligB at hb ⊢
    simp only [Bool.and_eq_true] at hb ⊢
    have hm : r.profs.getD i [] ∈ r.profs := getD_mem (List.mem_range.1 hi)
    exact ⟨hb.1, hfit _ (List.mem_cons_of_mem _ hm) (d _ hm) _ hb.2⟩
  · cases h
/-- No earlier time will do. -/
theorem earl_least {r : Rm} {j : J} {f t : Int} {nodes : List Int} (h : earlV r j f = some (t, nodes)) {u : Int} (h1 : f ≤ u) (h2 : u < t) : tryV r j u = none := by
  obtain ⟨hr, hj, hf, hft, htr, hall⟩ := earl_some h
  have hf0 : 0 ≤ f := by simp [timeB, inB] at hf; omega
  obtain ⟨hrise, hmem⟩ := timesE_spec r f
  have hfm : f ∈ timesE r f := (hmem f).2 (Or.inl rfl)
  obtain ⟨s, hs⟩ := lastLe_ex hfm h1
  obtain ⟨s1, s2, s3⟩ := lastLe_some hrise hs
  have hfs : f ≤ s := (s3 f hfm).2 h1
  have hnone := hall s s1 (by omega)
  cases hu : tryV r j u with
  | none => rfl
  | some x =>
    exfalso
    have := try_back hr hj (s := s) (t := u) (by omega) s2 (fun x hx => ?_) (by rw [hu]; rfl)
    · rw [hnone] at this; cases this
    · by_cases hxf : f < x
      · exact s3 x ((hmem x).2 (Or.inr ⟨hxf, hx⟩))
      · exact ⟨fun _ => by omega, fun _ => by omega⟩
end Go.Proofs.Ytjnfdcojccgfoaa
