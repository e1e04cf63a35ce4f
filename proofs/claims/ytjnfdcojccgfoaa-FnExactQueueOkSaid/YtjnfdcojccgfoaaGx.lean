/-
  Plans: plain.
-/
import Derived.Test.YtjnfdcojccgfoaaGw
namespace Go.Proofs.Ytjnfdcojccgfoaa
set_option linter.unusedSimpArgs false
set_option linter.unusedVariables false
set_option linter.unnecessarySimpa false
open Go.RowKit
/-! reservations in any order -/
structure Rs where
  j : J
  t : Int
  nd : List Int
def resR (r : Rm) (x : Rs) : Option Rm := resV r x.j x.t x.nd
def applyL : Rm → List Rs → Option Rm
  | r, [] => some r
  | r, x :: l => match resR r x with
    | none => none
    | some s => applyL s l
def locP (r : Rm) : Option Nat → List Q
  | none => r.lics
  | some i => r.profs.getD i []
def locOk (r : Rm) : Option Nat → Prop
  | none => True
  | some i => i < r.profs.length
def touch (x : Rs) : Option Nat → Prop
  | none => True
  | some i => (i : Int) ∈ x.nd
instance (x : Rs) (l : Option Nat) : Decidable (touch x l) := by cases l <;> unfold touch <;> infer_instance
def wantV (x : Rs) : Option Nat → V
  | none => x.j.lic
  | some _ => x.j.need
def useV (x : Rs) (l : Option Nat) (u : Int) : V := if touch x l ∧ x.t ≤ u ∧ u < x.t + x.j.wl then wantV x l else V.zero
def Rs.okIn (r : Rm) (x : Rs) : Prop := x.j.okB = true ∧ jobNodesB r x.j x.nd = true ∧ timeB x.t = true ∧ spanB x.t (x.t + x.j.wl) = true
theorem res_step {r s : Rm} {x : Rs} (h : resR r x = some s) : r.okB = true ∧ s.okB = true ∧ x.okIn r ∧ s.par = r.par ∧ s.nodes = r.nodes ∧ s.profs.length = r.profs.length ∧
    (∀ l, locOk r l → ∀ u, 0 ≤ u → (freeV u (locP s l)).A = (freeV u (locP r l)).A - (useV x l u).A ∧ (freeV u (locP s l)).B = (freeV u (locP r l)).B - (useV x l u).B ∧ (freeV u (locP s l)).C = (freeV u (locP r l)).C - (useV x l u).C) ∧
    ∀ m, r.few m → s.few (m + 2) := by
  have hs := res_ok h
  unfold resR resV at h
  split at h
  · rename_i ht
    obtain ⟨h1, h2, h3, e1, e2, e3, e4, hl, hn, ho⟩ := moved_some h
    obtain ⟨hlb, hle⟩ := takeO_some hl
    have key : ∀ {v : V} {a b : List Q}, takeO x.t (x.t + x.j.wl) v a = some b → ∀ u, 0 ≤ u → (freeV u b).A = (freeV u a).A - (if x.t ≤ u ∧ u < x.t + x.j.wl then v else V.zero).A ∧ (freeV u b).B = (freeV u a).B - (if x.t ≤ u ∧ u < x.t + x.j.wl then v else V.zero).B ∧ (freeV u b).C = (freeV u a).C - (if x.t ≤ u ∧ u < x.t + x.j.wl then v else V.zero).C := by
      intro v a b hab u hu
      obtain ⟨hb, rfl⟩ := takeO_some hab
      rw [take_free hb hu]
      by_cases hc : x.t ≤ u ∧ u < x.t + x.j.wl
      · rw [if_pos hc, if_pos hc]
        exact sub_vals (take_sub hb hc.1 hc.2)
      · rw [if_neg hc, if_neg hc]
        simp [V.zero]
    refine ⟨h1, hs, ⟨h2, h3, ht, (take_parts hlb).2.1⟩, e1, e2, e4, fun l hlo u hu => ?_, fun m hm => ?_⟩
    · cases l with
      | none =>
        have := key hl u hu
        simpa [useV, touch, wantV, locP] using this
      | some i =>
        by_cases hi : (i : Int) ∈ x.nd
        · have h5 := hn i hi
          simp only [Int.toNat_natCast] at h5
          have := key h5 u hu
          simpa [useV, touch, wantV, locP, hi] using this
        · have e : locP s (some i) = locP r (some i) := ho i hi
          rw [e]
          simp [useV, touch, hi, V.zero]
    · have key2 : ∀ {v : V} {a b : List Q}, takeO x.t (x.t + x.j.wl) v a = some b → b.length ≤ a.length + 2 := by
        intro v a b hab
        obtain ⟨_, rfl⟩ := takeO_some hab
        exact chg_len _ _ _ _
      refine ⟨fun p hp => ?_, by have := key2 hl; have := hm.2; omega⟩
      obtain ⟨i, hi, rfl⟩ := List.getElem_of_mem hp
      have hg : s.profs.getD i [] = s.profs[i] := by simp [List.getD, List.getElem?_eq_getElem hi]
      have hr : (r.profs.getD i []).length ≤ m := hm.1 _ (getD_mem (by omega))
      by_cases hin : (i : Int) ∈ x.nd
      · have h5 := hn i hin
        simp only [Int.toNat_natCast] at h5
        have := key2 h5
        rw [hg] at this; omega
      · have := ho i hin
        rw [hg] at this; rw [this]; omega
  · cases h
theorem res_mk {r : Rm} {x : Rs} (hr : r.okB = true) (hx : x.okIn r) (hf : r.few 198) (h : ∀ l, locOk r l → touch x l → ∀ u, x.t ≤ u → u < x.t + x.j.wl → leV (wantV x l) (freeV u (locP r l))) : ∃ s, resR r x = some s := by
  obtain ⟨h1, h2, h3, h4⟩ := hx
  have hjb := job_wl h1
  obtain ⟨a, b, c, d, e⟩ := room_parts hr
  obtain ⟨n1, n2, n3, n4⟩ := job_parts h2
  unfold resR resV
  rw [if_pos h3]
  refine moved_mk hr h1 h2 (fun y hy => ?_) ?_
  · have hy2 := n2 y hy
    have hp : r.profs.getD y.toNat [] ∈ r.profs := getD_mem (by omega)
    unfold takeO
    rw [if_pos ((take_iff (d _ hp) h4 (hf.1 _ hp)).2 ⟨hjb.2.2.2.2.1, fun u hu1 hu2 => ?_⟩)]; rfl
    have := h (some y.toNat) (by show y.toNat < _; omega) (by show ((y.toNat : Nat) : Int) ∈ _; rw [Int.toNat_of_nonneg hy2.1]; exact hy) u hu1 hu2
    exact this
  · unfold takeO
    rw [if_pos ((take_iff e h4 hf.2).2 ⟨hjb.2.2.2.2.2, fun u hu1 hu2 => h none trivial trivial u hu1 hu2⟩)]; rfl
def sumC (c : V → Int) (R : List Rs) (l : Option Nat) (u : Int) : Int := (R.map fun x => c (useV x l u)).sum
theorem okIn_of {r s : Rm} (h1 : s.par = r.par) (h2 : s.nodes = r.nodes) {x : Rs} (h : x.okIn s) : x.okIn r := by
  unfold Rs.okIn jobNodesB areB at h ⊢
  rw [h1, h2] at h; exact h
theorem apply_step : ∀ {R : List Rs} {r s : Rm}, r.okB = true → applyL r R = some s → s.okB = true ∧ s.par = r.par ∧ s.nodes = r.nodes ∧ s.profs.length = r.profs.length ∧ (∀ x ∈ R, x.okIn r) ∧
    (∀ l, locOk r l → ∀ u, 0 ≤ u → (freeV u (locP s l)).A = (freeV u (locP r l)).A - sumC V.A R l u ∧ (freeV u (locP s l)).B = (freeV u (locP r l)).B - sumC V.B R l u ∧ (freeV u (locP s l)).C = (freeV u (locP r l)).C - sumC V.C R l u) ∧
    ∀ m, r.few m → s.few (m + 2 * R.length)
  | [], r, s, hr, h => by
    obtain rfl := Option.some.inj h
    exact ⟨hr, rfl, rfl, rfl, by simp, fun l _ u _ => by simp [sumC], fun m hm => by simpa using hm⟩
  | x :: R, r, s, hr, h => by
    unfold applyL at h
    cases hx : resR r x with
    | none => rw [hx] at h; cases h
    | some q =>
      rw [hx] at h
      obtain ⟨_, a2, a3, a4, a5, a6, a7, a8⟩ := res_step hx
      obtain ⟨b1, b2, b3, b4, b5, b6, b7⟩ := apply_step a2 h
      refine ⟨b1, b2.trans a4, b3.trans a5, b4.trans a6, fun y hy => ?_, fun l hl u hu => ?_, fun m hm => ?_⟩
      · rcases List.mem_cons.1 hy with e | e
        · subst e; exact a3
        · exact okIn_of a4 a5 (b5 y e)
      · have hl2 : locOk q l := by cases l with
          | none => trivial
          | some i => show i < _; rw [a6]; exact hl
        have h1 := a7 l hl u hu
        have h2 := b6 l hl2 u hu
        unfold sumC at h2 ⊢
        simp only [List.map_cons, List.sum_cons]
        omega
      · have := b7 (m + 2) (a8 m hm)
        simp only [List.length_cons]
        rw [show m + 2 * (R.length + 1) = m + 2 + 2 * R.length by omega]; exact this
theorem apply_app : ∀ {P S : List Rs} {r s : Rm}, applyL r P = some s → applyL r (P ++ S) = applyL s S
  | [], S, r, s, h => by obtain rfl := Option.some.inj h; rfl
  | x :: P, S, r, s, h => by
    cases hx : resR r x with
    | none => simp [applyL, hx] at h
    | some q =>
      have h' : applyL q P = some s := by simpa [applyL, hx] using h
      have := apply_app (S := S) h'
      simpa [applyL, hx] using this
theorem perm_sum {a b : List Int} (h : a.Perm b) : a.sum = b.sum := by
  induction h with
  | nil => rfl
  | cons x _ ih => simp [ih]
  | swap x y l => simp only [List.sum_cons]; omega
  | trans _ _ ih1 ih2 => exact ih1.trans ih2
theorem want_nonneg {r : Rm} {x : Rs} (h : x.okIn r) (l : Option Nat) (u : Int) : 0 ≤ (useV x l u).A ∧ 0 ≤ (useV x l u).B ∧ 0 ≤ (useV x l u).C := by
  have hjb := job_wl h.1
  have h1 := ok_bd hjb.2.2.2.2.1
  have h2 := ok_bd hjb.2.2.2.2.2
  unfold useV
  split
  · cases l
    · show 0 ≤ x.j.lic.A ∧ 0 ≤ x.j.lic.B ∧ 0 ≤ x.j.lic.C; omega
    · show 0 ≤ x.j.need.A ∧ 0 ≤ x.j.need.B ∧ 0 ≤ x.j.need.C; omega
  · simp [V.zero]
theorem sum_le {f : Rs → Int} : ∀ {R : List Rs}, (∀ x ∈ R, 0 ≤ f x) → 0 ≤ (R.map f).sum
  | [], _ => by simp
  | x :: R, h => by
    have := h x (by simp)
    have := sum_le (R := R) fun y hy => h y (by simp [hy])
    simp only [List.map_cons, List.sum_cons]; omega
/-- RESERVATIONS THAT GO IN ONE ORDER GO IN ANY. -/
theorem apply_perm {R R' : List Rs} {r s : Rm} (hr : r.okB = true) (h : applyL r R = some s) (hp : R'.Perm R) {m : Nat} (hf : r.few m) (hm : m + 2 * R.length ≤ 200) : ∃ s', applyL r R' = some s' := by
  obtain ⟨b1, b2, b3, b4, b5, b6, b7⟩ := apply_step hr h
  have hlen := hp.length_eq
  have key : ∀ (S P : List Rs), P ++ S = R' → ∀ q, applyL r P = some q → ∃ s', applyL q S = some s' := by
    intro S
    induction S with
    | nil => intro P _ q _; exact ⟨q, rfl⟩
    | cons x S ih =>
      intro P hPS q hq
      obtain ⟨c1, c2, c3, c4, c5, c6, c7⟩ := apply_step hr hq
      have hxR : x ∈ R := hp.mem_iff.1 (by rw [← hPS]; simp)
      have hx := b5 x hxR
      have hxq : x.okIn q := okIn_of (s := r) c2.symm c3.symm hx
      have hPl : P.length + 1 ≤ R.length := by rw [← hlen, ← hPS]; simp
      have hfq : q.few 198 := by
        have h1 := c7 m hf
        exact ⟨fun p hp => by have := h1.1 p hp; omega, by have := h1.2; omega⟩
      obtain ⟨s1, hs1⟩ := res_mk c1 hxq hfq fun l hl ht u hu1 hu2 => by
        have h0 : 0 ≤ u := by have h3 := hx.2.2.1; simp [timeB, inB] at h3; omega
        have hlr : locOk r l := by cases l with
          | none => trivial
          | some i => show i < _; rw [← c4]; exact hl
        have h1 := c6 l hlr u h0
        have h2 := b6 l hlr u h0
        have hsok : (freeV u (locP s l)).ok = true := by
          obtain ⟨_, _, _, d, e⟩ := room_parts b1
          cases l with
          | none => exact free_ok e u
          | some i => exact free_ok (d _ (getD_mem (by rw [b4]; exact hlr))) u
        have hb := ok_bd hsok
        have huse : useV x l u = wantV x l := if_pos ⟨ht, hu1, hu2⟩
        have hsum : ∀ c : V → Int, (∀ y ∈ R, 0 ≤ c (useV y l u)) → sumC c P l u + c (useV x l u) ≤ sumC c R l u := by
          intro c hc
          have e1 : sumC c R l u = sumC c R' l u := by
            unfold sumC
            exact (perm_sum (hp.map _)).symm
          rw [e1, ← hPS]
          unfold sumC
          rw [List.map_append, List.sum_append, List.map_cons, List.sum_cons]
          have : 0 ≤ (S.map fun x => c (useV x l u)).sum := sum_le fun y hy => hc y (hp.mem_iff.1 (by rw [← hPS]; simp [hy]))
          omega
        have sA := hsum V.A fun y hy => (want_nonneg (b5 y hy) l u).1
        have sB := hsum V.B fun y hy => (want_nonneg (b5 y hy) l u).2.1
        have sC := hsum V.C fun y hy => (want_nonneg (b5 y hy) l u).2.2
        rw [huse] at sA sB sC
        unfold leV
        omega
      obtain ⟨s', hs'⟩ := ih (P ++ [x]) (by rw [← hPS]; simp) s1 (by rw [apply_app hq]; unfold applyL; rw [hs1]; rfl)
      exact ⟨s', by unfold applyL; rw [hs1]; exact hs'⟩
  exact key R' [] rfl r rfl
/-! plans -/
structure Hd where
  id : Int
  at_ : Int
  nd : List Int
def Rs.hd (x : Rs) : Hd := ⟨x.j.id, x.t, x.nd⟩
structure PS where
  r : Rm
  a : List Hd
  b : List Hd
def planF (now : Int) (depth : Int) (s : PS) (j : J) : PS := match earlV s.r j now with
  | none => s
  | some (t, nd) => if now < t ∧ depth ≤ s.b.length then s else match resV s.r j t nd with
    | none => s
    | some q => if t = now then ⟨q, s.a ++ [⟨j.id, t, nd⟩], s.b⟩ else ⟨q, s.a, s.b ++ [⟨j.id, t, nd⟩]⟩
def planL (now depth : Int) (s : PS) (l : List J) : PS := l.foldl (planF now depth) s
def queueB (l : List J) : Bool := decide (l.length ≤ 60) && l.all J.okB && decide (l.Pairwise fun a b => a.id ≠ b.id)
def planB (r : Rm) (now : Int) (l : List J) (depth : Int) : Bool := r.okB && queueB l && timeB now && inB depth 0 60
def planV (r : Rm) (now : Int) (l : List J) (depth : Int) : PS := planL now depth ⟨r, [], []⟩ (orderV l)
theorem queue_parts {l : List J} (h : queueB l = true) : l.length ≤ 60 ∧ (∀ j ∈ l, j.okB = true) ∧ distJ l := by
  simp only [queueB, Bool.and_eq_true, decide_eq_true_eq, List.all_eq_true] at h
  exact ⟨h.1.1, h.1.2, h.2⟩
/-- What a plan is. -/
structure PInv (r : Rm) (now depth : Int) (l : List J) (s : PS) (R : List Rs) : Prop where
  ap : applyL r R = some s.r
  pm : (s.a ++ s.b).Perm (R.map Rs.hd)
  sub : (R.map Rs.j).Sublist l
  an : ∀ h ∈ s.a, h.at_ = now
  bn : ∀ h ∈ s.b, now < h.at_
  bl : 0 ≤ depth → (s.b.length : Int) ≤ depth
theorem plan_inv (r : Rm) (now depth : Int) (l : List J) : ∃ R, PInv r now depth l (planL now depth ⟨r, [], []⟩ l) R := by
  induction l using snoc_ind with
  | h0 => exact ⟨[], ⟨rfl, by simp [planL], by simp, by simp [planL], by simp [planL], by simp [planL]⟩⟩
  | h1 l j ih =>
    obtain ⟨R, h⟩ := ih
    have e : planL now depth ⟨r, [], []⟩ (l ++ [j]) = planF now depth (planL now depth ⟨r, [], []⟩ l) j := by simp [planL]
    rw [e]
    generalize planL now depth ⟨r, [], []⟩ l = s at h ⊢
    have same : PInv r now depth (l ++ [j]) s R := ⟨h.ap, h.pm, h.sub.trans (List.sublist_append_left _ _), h.an, h.bn, h.bl⟩
    unfold planF
    cases he : earlV s.r j now with
    | none => exact ⟨R, same⟩
    | some p =>
      obtain ⟨t, nd⟩ := p
      simp only
      by_cases hc : now < t ∧ depth ≤ s.b.length
      · rw [if_pos hc]; exact ⟨R, same⟩
      · rw [if_neg hc]
        have hft := (earl_some he).2.2.2.1
        cases hq : resV s.r j t nd with
        | none => exact ⟨R, same⟩
        | some q =>
          simp only
          have hap : applyL r (R ++ [⟨j, t, nd⟩]) = some q := by
            rw [apply_app h.ap]
            unfold applyL resR
            simp only
            rw [hq]; rfl
          have hsub : ((R ++ [(⟨j, t, nd⟩ : Rs)]).map Rs.j).Sublist (l ++ [j]) := by
            rw [List.map_append]
            exact h.sub.append (List.Sublist.refl _)
          have hmap : (R ++ [(⟨j, t, nd⟩ : Rs)]).map Rs.hd = R.map Rs.hd ++ [⟨j.id, t, nd⟩] := by simp [Rs.hd]
          by_cases ht : t = now
          · rw [if_pos ht]
            refine ⟨R ++ [⟨j, t, nd⟩], ⟨hap, ?_, hsub, ?_, h.bn, h.bl⟩⟩
            · rw [hmap]
              show ((s.a ++ [_]) ++ s.b).Perm _
              have : ((s.a ++ [(⟨j.id, t, nd⟩ : Hd)]) ++ s.b).Perm ((s.a ++ s.b) ++ [⟨j.id, t, nd⟩]) := by
                rw [List.append_assoc, List.append_assoc]
                exact List.Perm.append_left _ List.perm_append_comm
              exact this.trans (h.pm.append_right _)
            · intro x hx
              rcases List.mem_append.1 hx with e | e
              · exact h.an x e
              · simp at e; subst e; exact ht
          · rw [if_neg ht]
            refine ⟨R ++ [⟨j, t, nd⟩], ⟨hap, ?_, hsub, h.an, ?_, ?_⟩⟩
            · rw [hmap]
              show (s.a ++ (s.b ++ [_])).Perm _
              rw [← List.append_assoc]
              exact h.pm.append_right _
            · intro x hx
              rcases List.mem_append.1 hx with e | e
              · exact h.bn x e
              · simp at e; subst e; show now < t; omega
            · intro hd
              show ((s.b ++ [_]).length : Int) ≤ depth
              simp only [List.length_append, List.length_singleton]
              have : ¬ depth ≤ s.b.length := fun h5 => hc ⟨by omega, h5⟩
              omega
def findJ (l : List J) (id : Int) : Option J := l.find? fun j => decide (j.id = id)
def keptL (l : List J) : Rm → List Int → List Hd → Bool
  | _, _, [] => true
  | r, seen, h :: hs => match findJ l h.id with
    | none => false
    | some j => !seen.contains h.id && match resV r j h.at_ h.nd with
      | none => false
      | some s => keptL l s (seen ++ [h.id]) hs
def keptB (r : Rm) (l : List J) (held : List Hd) : Bool := r.okB && queueB l && keptL l r [] held
theorem find_of {l : List J} (hd : distJ l) {j : J} (hj : j ∈ l) : findJ l j.id = some j := by
  unfold findJ
  induction l with
  | nil => cases hj
  | cons x r ih =>
    unfold distJ at hd
    rw [List.pairwise_cons] at hd
    rw [List.find?_cons]
    rcases List.mem_cons.1 hj with e | e
    · subst e; simp
    · have := hd.1 j e
      have : (decide (x.id = j.id)) = false := by simpa using this
      rw [this]
      exact ih hd.2 e
theorem kept_apply {l : List J} (hd : distJ l) : ∀ {R : List Rs} {r s : Rm} {seen : List Int}, applyL r R = some s → (∀ x ∈ R, x.j ∈ l) → (R.map fun x => x.j.id).Nodup → (∀ x ∈ R, x.j.id ∉ seen) → keptL l r seen (R.map Rs.hd) = true
  | [], _, _, _, _, _, _, _ => rfl
  | x :: R, r, s, seen, h, hm, hn, hs => by
    unfold applyL at h
    cases hx : resR r x with
    | none => rw [hx] at h; cases h
    | some q =>
      rw [hx] at h
      rw [List.map_cons, List.nodup_cons] at hn
      rw [List.map_cons]
      unfold keptL
      show (match findJ l x.j.id with | none => false | some j => _) = true
      rw [find_of hd (hm x (by simp))]
      have hns := hs x (by simp)
      have hx' : resV r x.j x.t x.nd = some q := hx
      show (!seen.contains x.j.id && match resV r x.j x.t x.nd with | none => false | some s => keptL l s (seen ++ [x.j.id]) (R.map Rs.hd)) = true
      rw [hx']
      simp only [Bool.and_eq_true]
      refine ⟨by simpa using hns, kept_apply hd h (fun y hy => hm y (by simp [hy])) hn.2 fun y hy hy2 => ?_⟩
      rcases List.mem_append.1 hy2 with e | e
      · exact hs y (by simp [hy]) e
      · simp at e
        exact hn.1 (by rw [← e]; exact List.mem_map_of_mem hy)
/-- A plan fits the room, what starts first. -/
theorem plan_kept {r : Rm} {now depth : Int} {l : List J} (h : planB r now l depth = true) {m : Nat} (hf : r.few m) (hm : m + 2 * l.length ≤ 200) :
    keptB r l ((planV r now l depth).a ++ (planV r now l depth).b) = true ∧ (∀ h ∈ (planV r now l depth).a, h.at_ = now) ∧ (∀ h ∈ (planV r now l depth).b, now < h.at_) ∧ ((planV r now l depth).b.length : Int) ≤ depth := by
  simp only [planB, Bool.and_eq_true] at h
  obtain ⟨⟨⟨hr, hq⟩, hnow⟩, hdep⟩ := h
  obtain ⟨q1, q2, q3⟩ := queue_parts hq
  obtain ⟨R, hR⟩ := plan_inv r now depth (orderV l)
  have hd0 : 0 ≤ depth := by simp [inB] at hdep; omega
  refine ⟨?_, hR.an, hR.bn, hR.bl hd0⟩
  have hlenR : R.length ≤ l.length := by
    have := hR.sub.length_le
    rw [orderV_len] at this; simpa using this
  have hmem : ∀ x ∈ R, x.j ∈ l := fun x hx => (orderV_mem l x.j).1 (hR.sub.subset (List.mem_map_of_mem hx))
  have hdist : (R.map fun x => x.j.id).Nodup := by
    have h1 : (R.map Rs.j).Pairwise fun a b => a.id ≠ b.id := by
      have : (orderV l).Pairwise fun a b => a.id ≠ b.id := by
        have hp : (orderV l).Pairwise befJ := orderV_ord q3
        -- the order keeps what is distinct
        have key : ∀ (xs : List J), xs.Nodup → (∀ a ∈ xs, ∀ b ∈ xs, a.id = b.id → a = b) → xs.Pairwise fun a b => a.id ≠ b.id := by
          intro xs
          induction xs with
          | nil => intro _ _; simp
          | cons x t ih =>
            intro hn he
            rw [List.nodup_cons] at hn
            rw [List.pairwise_cons]
            refine ⟨fun y hy e => hn.1 ?_, ih hn.2 fun a ha b hb => he a (by simp [ha]) b (by simp [hb])⟩
            rw [he x (by simp) y (by simp [hy]) e]; exact hy
        refine key _ (hp.imp fun {a b} hab e => by subst e; exact befJ_irrefl a hab) fun a ha b hb e => ?_
        have ha' := (orderV_mem l a).1 ha
        have hb' := (orderV_mem l b).1 hb
        have h1 := find_of q3 ha'
        have h2 := find_of q3 hb'
        rw [e, h2] at h1
        exact (Option.some.inj h1).symm
      exact this.sublist hR.sub
    unfold List.Nodup
    rw [List.pairwise_map] at h1 ⊢
    exact h1
  obtain ⟨R', hp1, hp2⟩ : ∃ R' : List Rs, R'.Perm R ∧ R'.map Rs.hd = (planV r now l depth).a ++ (planV r now l depth).b := by
    have hpm := hR.pm
    have gen : ∀ {L : List Hd} {R : List Rs}, L.Perm (R.map Rs.hd) → ∃ R' : List Rs, R'.Perm R ∧ R'.map Rs.hd = L := by
      intro L R hL
      generalize hM : R.map Rs.hd = M at hL
      induction hL generalizing R with
      | nil => exact ⟨R, List.Perm.refl _, hM⟩
      | cons x hp ih =>
        cases R with
        | nil => cases hM
        | cons y R =>
          simp only [List.map_cons, List.cons.injEq] at hM
          obtain ⟨R', h1, h2⟩ := ih hM.2
          exact ⟨y :: R', h1.cons y, by simp [h2, hM.1]⟩
      | swap x y l =>
        cases R with
        | nil => cases hM
        | cons u R =>
          cases R with
          | nil => simp at hM
          | cons v R =>
            simp only [List.map_cons, List.cons.injEq] at hM
            exact ⟨v :: u :: R, List.Perm.swap _ _ _, by simp [hM.1, hM.2.1, hM.2.2]⟩
      | trans hp1 hp2 ih1 ih2 =>
        obtain ⟨R2, h1, h2⟩ := ih2 hM
        obtain ⟨R1, h3, h4⟩ := ih1 h2
        exact ⟨R1, h3.trans h1, h4⟩
    exact gen hpm
  obtain ⟨s', hs'⟩ := apply_perm hr hR.ap hp1 hf (by omega)
  unfold keptB
  rw [hr, hq, ← hp2]
  simp only [Bool.true_and]
  refine kept_apply q3 hs' (fun x hx => hmem x (hp1.mem_iff.1 hx)) ?_ (by simp)
  exact ((hp1.map _).nodup_iff).2 hdist
/-! a job of a lower rank than all others -/
def lowJ : J := ⟨999, 0, 1, 0, 0, 0, 0, 0, 0, 1, 24⟩
theorem insJ_end (j : J) : ∀ (xs : List J), (∀ x ∈ xs, ¬ befJ j x) → insJ j xs = xs ++ [j]
  | [], _ => rfl
  | x :: r, h => by
    unfold insJ
    rw [if_neg (h x (by simp)), insJ_end j r fun y hy => h y (by simp [hy])]; rfl
theorem order_low {l : List J} (h : queueB l = true) (hid : ∀ j ∈ l, j.id ≠ 999) : orderV (l ++ [lowJ]) = orderV l ++ [lowJ] := by
  rw [orderV_snoc]
  refine insJ_end _ _ fun x hx => ?_
  have hx' := (orderV_mem l x).1 hx
  obtain ⟨_, q2, _⟩ := queue_parts h
  have h1 := q2 x hx'
  have h2 := hid x hx'
  unfold J.okB at h1
  simp only [Bool.and_eq_true] at h1
  obtain ⟨⟨⟨⟨⟨⟨a, b⟩, _⟩, _⟩, _⟩, _⟩, _⟩ := h1
  simp [inB] at a b
  unfold befJ lowJ
  simp only
  omega
theorem queue_low {l : List J} (h : queueB l = true) (hl : l.length ≠ 60) (hid : ∀ j ∈ l, j.id ≠ 999) : queueB (l ++ [lowJ]) = true := by
  obtain ⟨q1, q2, q3⟩ := queue_parts h
  simp only [queueB, Bool.and_eq_true, decide_eq_true_eq, List.all_eq_true]
  refine ⟨⟨by simp; omega, fun j hj => ?_⟩, ?_⟩
  · rcases List.mem_append.1 hj with e | e
    · exact q2 j e
    · simp at e; subst e; decide
  · refine List.pairwise_append.2 ⟨q3, by simp, fun a ha b hb => ?_⟩
    simp at hb; subst hb
    exact hid a ha
theorem plan_low {r : Rm} {now depth : Int} {l : List J} (h : planB r now l depth = true) (hl : l.length ≠ 60) (hid : ∀ j ∈ l, j.id ≠ 999) : planB r now (l ++ [lowJ]) depth = true ∧
    ∃ x y : List Hd, (planV r now (l ++ [lowJ]) depth).a = (planV r now l depth).a ++ x ∧ (planV r now (l ++ [lowJ]) depth).b = (planV r now l depth).b ++ y ∧ x.length + y.length ≤ 1 := by
  simp only [planB, Bool.and_eq_true] at h ⊢
  obtain ⟨⟨⟨hr, hq⟩, hnow⟩, hdep⟩ := h
  refine ⟨⟨⟨⟨hr, queue_low hq hl hid⟩, hnow⟩, hdep⟩, ?_⟩
  unfold planV
  rw [order_low hq hid]
  have e : planL now depth ⟨r, [], []⟩ (orderV l ++ [lowJ]) = planF now depth (planL now depth ⟨r, [], []⟩ (orderV l)) lowJ := by simp [planL]
  rw [e]
  generalize planL now depth ⟨r, [], []⟩ (orderV l) = s
  unfold planF
  have same : ∃ x y : List Hd, s.a = s.a ++ x ∧ s.b = s.b ++ y ∧ x.length + y.length ≤ 1 := ⟨[], [], by simp, by simp, by simp⟩
  split
  · exact same
  · split
    · exact same
    · split
      · exact same
      · split
        · exact ⟨[_], [], rfl, by simp, by simp⟩
        · exact ⟨[], [_], by simp, rfl, by simp⟩
end Go.Proofs.Ytjnfdcojccgfoaa
