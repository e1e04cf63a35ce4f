/-
  What is least, and changing a room: plain.
-/
import Derived.Test.YtjnfdcojccgfoaaGr
namespace Go.Proofs.Ytjnfdcojccgfoaa
set_option linter.unusedSimpArgs false
set_option linter.unusedVariables false
set_option linter.unnecessarySimpa false
open Go.RowKit
/-! what is least -/
theorem vmin_ok {a b : V} (ha : a.ok = true) (hb : b.ok = true) : vminV a b = minV a b ∧ (minV a b).ok = true := by
  have h : (minV a b).ok = true := by
    have h1 := ok_bd ha
    have h2 := ok_bd hb
    apply ok_mk
    unfold minV
    simp only
    omega
  exact ⟨by simp [vminV, validV, ha, hb, h], h⟩
def leV (a b : V) : Prop := a.A ≤ b.A ∧ a.B ≤ b.B ∧ a.C ≤ b.C
theorem leV.refl (a : V) : leV a a := ⟨Int.le_refl _, Int.le_refl _, Int.le_refl _⟩
theorem leV.trans {a b c : V} (h : leV a b) (h' : leV b c) : leV a c := ⟨Int.le_trans h.1 h'.1, Int.le_trans h.2.1 h'.2.1, Int.le_trans h.2.2 h'.2.2⟩
theorem min_le {a b : V} : leV (minV a b) a ∧ leV (minV a b) b := by
  unfold leV minV; simp only; omega
theorem le_min {a b c : V} (h : leV c a) (h' : leV c b) : leV c (minV a b) := by
  unfold leV minV at *; simp only; omega
theorem fit_iff {a b : V} : fitV a b = true ↔ a.ok = true ∧ b.ok = true ∧ leV a b := by
  unfold fitV fitsB leV V.ok
  simp only [Bool.and_eq_true, decide_eq_true_eq]
  constructor
  · rintro ⟨⟨⟨⟨h1, h2⟩, h3⟩, h4⟩, h5⟩; exact ⟨h1, h2, h3, h4, h5⟩
  · rintro ⟨h1, h2, h3, h4, h5⟩; exact ⟨⟨⟨⟨h1, h2⟩, h3⟩, h4⟩, h5⟩
theorem least_fold {lo hi : Int} : ∀ (ps : List Q) (v : V), v.ok = true → (∀ q ∈ ps, q.ok = true) →
    (ps.foldl (leastF lo hi) v).ok = true ∧ leV (ps.foldl (leastF lo hi) v) v ∧ (∀ q ∈ ps, lo < q.t → q.t < hi → leV (ps.foldl (leastF lo hi) v) q.v) ∧
    ∀ c, leV c v → (∀ q ∈ ps, lo < q.t → q.t < hi → leV c q.v) → leV c (ps.foldl (leastF lo hi) v)
  | [], v, h, _ => ⟨h, leV.refl _, (fun q hq => by cases hq), fun c hc _ => hc⟩
  | q :: r, v, h, hq => by
    have hqo := hq q (by simp)
    have hqv : q.v.ok = true := by unfold Q.ok at hqo; simp at hqo; exact hqo.2
    rw [List.foldl_cons]
    by_cases hc : lo < q.t ∧ q.t < hi
    · have e : leastF lo hi v q = minV v q.v := by unfold leastF; rw [if_pos hc, (vmin_ok h hqv).1]
      rw [e]
      obtain ⟨a, b, c, d⟩ := least_fold r (minV v q.v) (vmin_ok h hqv).2 fun x hx => hq x (by simp [hx])
      refine ⟨a, b.trans min_le.1, fun x hx h1 h2 => ?_, fun z hz hz2 => d z (le_min hz (hz2 q (by simp) hc.1 hc.2)) fun x hx => hz2 x (by simp [hx])⟩
      rcases List.mem_cons.1 hx with e | e
      · subst e; exact b.trans min_le.2
      · exact c x e h1 h2
    · have e : leastF lo hi v q = v := if_neg hc
      rw [e]
      obtain ⟨a, b, c, d⟩ := least_fold r v h fun x hx => hq x (by simp [hx])
      refine ⟨a, b, fun x hx h1 h2 => ?_, fun z hz hz2 => d z hz fun x hx => hz2 x (by simp [hx])⟩
      rcases List.mem_cons.1 hx with e | e
      · subst e; exact absurd ⟨h1, h2⟩ hc
      · exact c x e h1 h2
theorem free_mem {t : Int} : ∀ (ps : List Q) (v : V), ps.foldl (freeF t) v = v ∨ ∃ q ∈ ps, q.t ≤ t ∧ ps.foldl (freeF t) v = q.v
  | [], v => Or.inl rfl
  | q :: r, v => by
    rw [List.foldl_cons]
    rcases free_mem r (freeF t v q) with h | ⟨x, hx, h1, h2⟩
    · by_cases hq : q.t ≤ t
      · right; exact ⟨q, by simp, hq, by rw [h]; simp [freeF, hq]⟩
      · left; rw [h]; simp [freeF, hq]
    · right; exact ⟨x, by simp [hx], h1, h2⟩
theorem last_at {t : Int} : ∀ {ps : List Q}, Norm ps → (∃ q ∈ ps, q.t ≤ t) → ∃ q ∈ ps, q.t ≤ t ∧ freeV t ps = q.v ∧ ∀ x ∈ ps, x.t ≤ t → x.t ≤ q.t := by
  intro ps
  induction ps using snoc_ind with
  | h0 => rintro _ ⟨q, hq, _⟩; cases hq
  | h1 l x ih =>
    intro hn hex
    have hlt : ∀ y ∈ l, y.t < x.t := by
      intro y hy
      have := map_rise hn
      rw [List.map_append] at this
      have h2 := (List.pairwise_append.1 this).2.2 y.t (List.mem_map_of_mem hy) x.t (by simp)
      exact h2
    by_cases hx : x.t ≤ t
    · refine ⟨x, by simp, hx, by rw [freeV_snoc, if_pos hx], fun y hy _ => ?_⟩
      rcases List.mem_append.1 hy with e | e
      · have := hlt y e; omega
      · simp at e; subst e; exact Int.le_refl _
    · have hnl : Norm l := ⟨fun k p q hp hq => hn.lt k p q (by rw [List.getElem?_append_left (List.getElem?_eq_some_iff.1 hp).1]; exact hp) (by rw [List.getElem?_append_left (List.getElem?_eq_some_iff.1 hq).1]; exact hq),
        fun k p q hp hq => hn.ne k p q (by rw [List.getElem?_append_left (List.getElem?_eq_some_iff.1 hp).1]; exact hp) (by rw [List.getElem?_append_left (List.getElem?_eq_some_iff.1 hq).1]; exact hq)⟩
      obtain ⟨q, hq, hqt⟩ := hex
      have hql : q ∈ l := by
        rcases List.mem_append.1 hq with e | e
        · exact e
        · simp at e; subst e; exact absurd hqt hx
      obtain ⟨y, h1, h2, h3, h4⟩ := ih hnl ⟨q, hql, hqt⟩
      refine ⟨y, by simp [h1], h2, by rw [freeV_snoc, if_neg hx, h3], fun z hz hzt => ?_⟩
      rcases List.mem_append.1 hz with e | e
      · exact h4 z e hzt
      · simp at e; subst e; exact absurd hzt hx
/-- What is least over a span is at most what is free at each of its times, and the greatest such. -/
theorem least_spec {ps : List Q} (h : profOkB ps = true) {lo hi : Int} (h0 : 0 ≤ lo) (hlt : lo < hi) : (leastV lo hi ps).ok = true ∧ (∀ t, lo ≤ t → t < hi → leV (leastV lo hi ps) (freeV t ps)) ∧
    ∀ c, (∀ t, lo ≤ t → t < hi → leV c (freeV t ps)) → leV c (leastV lo hi ps) := by
  have hn := profOk_norm h
  obtain ⟨_, _, _, hok, _⟩ := profOk_parts h
  obtain ⟨a, b, c, d⟩ := least_fold (lo := lo) (hi := hi) ps (freeV lo ps) (free_ok h lo) hok
  obtain ⟨p, r, hp, hp0⟩ := norm_head h
  have hz : ∃ q ∈ ps, q.t ≤ lo := ⟨p, by rw [hp]; simp, by omega⟩
  have at_ : ∀ q ∈ ps, freeV q.t ps = q.v := fun q hq => free_at ps _ (profOk_parts h).2.2.2.2 q hq rfl
  refine ⟨a, fun t h1 h2 => ?_, fun z hz2 => ?_⟩
  · obtain ⟨q, hq, hqt, hqv, hmax⟩ := last_at hn (t := t) ⟨p, by rw [hp]; simp, by omega⟩
    rw [hqv]
    by_cases hql : lo < q.t
    · exact c q hq hql (by omega)
    · have e : freeV lo ps = q.v := by
        rw [← hqv]
        refine freeV_congr ps _ fun x hx => ⟨fun hx1 => by omega, fun hx1 => ?_⟩
        have := hmax x hx hx1; omega
      rw [← e]; exact b
  · refine d z (hz2 lo (Int.le_refl _) hlt) fun q hq h1 h2 => ?_
    rw [← at_ q hq]
    exact hz2 q.t (by omega) h2
theorem fit_least {ps : List Q} (h : profOkB ps = true) {lo hi : Int} (h0 : 0 ≤ lo) (hlt : lo < hi) {v : V} : fitV v (leastV lo hi ps) = true ↔ v.ok = true ∧ ∀ t, lo ≤ t → t < hi → leV v (freeV t ps) := by
  obtain ⟨a, b, c⟩ := least_spec h h0 hlt
  rw [fit_iff]
  exact ⟨fun ⟨h1, _, h3⟩ => ⟨h1, fun t h4 h5 => h3.trans (b t h4 h5)⟩, fun ⟨h1, h2⟩ => ⟨h1, a, c v h2⟩⟩
theorem take_iff {ps : List Q} (h : profOkB ps = true) {lo hi : Int} (hs : spanB lo hi = true) {v : V} (hl : ps.length ≤ 198) : takeB ps lo hi v = true ↔ v.ok = true ∧ ∀ t, lo ≤ t → t < hi → leV v (freeV t ps) := by
  have hn := profOk_norm h
  have hlen : (takeV ps lo hi v).length ≤ 200 := by have := chg_len ps lo hi (fun x => subV x v); unfold takeV; omega
  have hsp := span_parts hs
  unfold takeB
  simp only [h, hs, hlen, decide_true, Bool.and_true, Bool.true_and]
  rw [chgB_all hn]
  constructor
  · intro hh
    exact ⟨(sub_ok (hh lo (Int.le_refl _) hsp.2.1)).2.2, fun t h1 h2 => (subB_iff.1 (hh t h1 h2)).2.2⟩
  · rintro ⟨h1, h2⟩ t h3 h4
    exact subB_iff.2 ⟨free_ok h t, h1, h2 t h3 h4⟩
/-- What fits the least can be taken. -/
theorem take_fit {ps : List Q} (h : profOkB ps = true) {lo hi : Int} (hs : spanB lo hi = true) {v : V} (hl : ps.length ≤ 198) (hf : fitV v (leastV lo hi ps) = true) : takeB ps lo hi v = true := by
  have hsp := span_parts hs
  exact (take_iff h hs hl).2 ((fit_least h hsp.1 hsp.2.1).1 hf)
/-! changing a room -/
def setP (r : Rm) (i : Nat) (p : List Q) : Rm := { r with profs := r.profs.set i p }
def takeO (lo hi : Int) (v : V) (ps : List Q) : Option (List Q) := if takeB ps lo hi v then some (takeV ps lo hi v) else none
def giveO (lo hi : Int) (v : V) (ps : List Q) : Option (List Q) := if giveB ps lo hi v then some (giveV ps lo hi v) else none
/-- Node after node. -/
def nodesV (mv : List Q → Option (List Q)) : List Int → List (List Q) → Option (List (List Q))
  | [], ps => some ps
  | n :: l, ps => match mv (ps.getD n.toNat []) with
    | none => none
    | some p => nodesV mv l (ps.set n.toNat p)
def jobNodesB (r : Rm) (j : J) (nodes : List Int) : Bool := decide nodes.Nodup && areB r.par r.nodes nodes && decide ((nodes.length : Int) = j.nn)
def movedV (mv : V → List Q → Option (List Q)) (r : Rm) (j : J) (nodes : List Int) : Option Rm :=
  if r.okB && j.okB && jobNodesB r j nodes then
    match nodesV (mv j.need) nodes r.profs with
    | none => none
    | some ps => match mv j.lic r.lics with
      | none => none
      | some l => some { r with profs := ps, lics := l }
  else none
def resV (r : Rm) (j : J) (at_ : Int) (nodes : List Int) : Option Rm := if timeB at_ then movedV (takeO at_ (at_ + j.wl)) r j nodes else none
def relV (r : Rm) (j : J) (lo hi : Int) (nodes : List Int) : Option Rm := movedV (giveO lo hi) r j nodes
theorem nodesV_spec {mv : List Q → Option (List Q)} : ∀ {nodes : List Int} {ps qs : List (List Q)}, nodes.Nodup → (∀ x ∈ nodes, 0 ≤ x ∧ x < ps.length) → nodesV mv nodes ps = some qs →
    qs.length = ps.length ∧ (∀ x ∈ nodes, mv (ps.getD x.toNat []) = some (qs.getD x.toNat [])) ∧ ∀ i : Nat, (i : Int) ∉ nodes → qs.getD i [] = ps.getD i []
  | [], ps, qs, _, _, h => by
    obtain rfl := Option.some.inj h
    exact ⟨rfl, by simp, fun i _ => rfl⟩
  | n :: l, ps, qs, hn, hr, h => by
    rw [List.nodup_cons] at hn
    unfold nodesV at h
    have hnr := hr n (by simp)
    cases hm : mv (ps.getD n.toNat []) with
    | none => rw [hm] at h; cases h
    | some p =>
      rw [hm] at h
      obtain ⟨a, b, c⟩ := nodesV_spec (ps := ps.set n.toNat p) hn.2 (fun x hx => by have := hr x (by simp [hx]); simpa using this) h
      have hget : ∀ i : Nat, i ≠ n.toNat → (ps.set n.toNat p).getD i [] = ps.getD i [] := by
        intro i hi
        simp only [List.getD, List.getElem?_set]
        rw [if_neg (fun e => hi e.symm)]
      have hself : (ps.set n.toNat p).getD n.toNat [] = p := by
        simp only [List.getD, List.getElem?_set]
        rw [if_pos trivial, if_pos (by omega)]; rfl
      refine ⟨by rw [a]; simp, fun x hx => ?_, fun i hi => ?_⟩
      · rcases List.mem_cons.1 hx with e | e
        · subst e
          have hni : ((x.toNat : Nat) : Int) ∉ l := by rw [Int.toNat_of_nonneg hnr.1]; exact hn.1
          rw [c _ hni, hself, hm]
        · have hx0 := hr x (by simp [e])
          have hne : x.toNat ≠ n.toNat := fun e2 => hn.1 (by rw [show n = x by omega]; exact e)
          rw [← hget _ hne]
          exact b x e
      · simp only [List.mem_cons, not_or] at hi
        rw [c i hi.2, hget i (by omega)]
theorem nodesV_some {mv : List Q → Option (List Q)} : ∀ {nodes : List Int} {ps : List (List Q)}, nodes.Nodup → (∀ x ∈ nodes, 0 ≤ x ∧ x < ps.length) → (∀ x ∈ nodes, (mv (ps.getD x.toNat [])).isSome = true) → ∃ qs, nodesV mv nodes ps = some qs
  | [], ps, _, _, _ => ⟨ps, rfl⟩
  | n :: l, ps, hn, hr, h => by
    rw [List.nodup_cons] at hn
    obtain ⟨p, hp⟩ := Option.isSome_iff_exists.1 (h n (by simp))
    unfold nodesV
    rw [hp]
    refine nodesV_some (ps := ps.set n.toNat p) hn.2 (fun x hx => by have := hr x (by simp [hx]); simpa using this) fun x hx => ?_
    have hx0 := hr x (by simp [hx])
    have hn0 := hr n (by simp)
    have hne : n.toNat ≠ x.toNat := fun e2 => hn.1 (by rw [show n = x by omega]; exact hx)
    simp only [List.getD, List.getElem?_set]
    rw [if_neg hne]
    exact h x (by simp [hx])
theorem job_parts {r : Rm} {j : J} {nodes : List Int} (h : jobNodesB r j nodes = true) : nodes.Nodup ∧ (∀ x ∈ nodes, 0 ≤ x ∧ x < r.nodes.length) ∧ topoOkB r.par r.nodes = true ∧ (nodes.length : Int) = j.nn := by
  simp only [jobNodesB, areB, Bool.and_eq_true, decide_eq_true_eq] at h
  exact ⟨h.1.1, inNodes_iff.1 h.1.2.1, h.1.2.2, h.2⟩
theorem moved_some {mv : V → List Q → Option (List Q)} {r s : Rm} {j : J} {nodes : List Int} (h : movedV mv r j nodes = some s) :
    r.okB = true ∧ j.okB = true ∧ jobNodesB r j nodes = true ∧ s.par = r.par ∧ s.nodes = r.nodes ∧ s.up = r.up ∧ s.profs.length = r.profs.length ∧ mv j.lic r.lics = some s.lics ∧
    (∀ x ∈ nodes, mv j.need (r.profs.getD x.toNat []) = some (s.profs.getD x.toNat [])) ∧ ∀ i : Nat, (i : Int) ∉ nodes → s.profs.getD i [] = r.profs.getD i [] := by
  unfold movedV at h
  split at h
  · rename_i hc
    simp only [Bool.and_eq_true] at hc
    obtain ⟨⟨h1, h2⟩, h3⟩ := hc
    obtain ⟨n1, n2, n3, n4⟩ := job_parts h3
    have hpl := (room_parts h1).2.2.1
    cases hm : nodesV (mv j.need) nodes r.profs with
    | none => rw [hm] at h; cases h
    | some ps =>
      rw [hm] at h
      simp only at h
      cases hl : mv j.lic r.lics with
      | none => rw [hl] at h; cases h
      | some l =>
        rw [hl] at h
        obtain rfl := Option.some.inj h
        obtain ⟨a, b, c⟩ := nodesV_spec n1 (fun x hx => by have := n2 x hx; omega) hm
        exact ⟨h1, h2, h3, rfl, rfl, rfl, a, rfl, b, c⟩
  · cases h
theorem moved_mk {mv : V → List Q → Option (List Q)} {r : Rm} {j : J} {nodes : List Int} (h1 : r.okB = true) (h2 : j.okB = true) (h3 : jobNodesB r j nodes = true) (hn : ∀ x ∈ nodes, (mv j.need (r.profs.getD x.toNat [])).isSome = true) (hl : (mv j.lic r.lics).isSome = true) :
    ∃ s, movedV mv r j nodes = some s := by
  obtain ⟨n1, n2, n3, n4⟩ := job_parts h3
  have hpl := (room_parts h1).2.2.1
  obtain ⟨qs, hq⟩ := nodesV_some n1 (fun x hx => by have := n2 x hx; omega) hn
  obtain ⟨l, hl'⟩ := Option.isSome_iff_exists.1 hl
  refine ⟨{ r with profs := qs, lics := l }, ?_⟩
  unfold movedV
  rw [if_pos (by simp [h1, h2, h3]), hq, hl']
end Go.Proofs.Ytjnfdcojccgfoaa
