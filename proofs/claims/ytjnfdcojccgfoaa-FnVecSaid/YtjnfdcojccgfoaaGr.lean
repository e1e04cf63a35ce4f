/-
  Rooms and the first start: plain.
-/
import Derived.Test.YtjnfdcojccgfoaaCg
import Derived.Test.YtjnfdcojccgfoaaJo
import Derived.Test.YtjnfdcojccgfoaaTd
namespace Go.Proofs.Ytjnfdcojccgfoaa
set_option linter.unusedSimpArgs false
set_option linter.unusedVariables false
set_option linter.unnecessarySimpa false
open Go.RowKit
/-! the lowest switch -/
def lowB (ps : List Int) (ls : List Nat) (s : Nat) : Bool := ls.all fun l => (up ps l).contains s
def lowF (ps : List Int) (ls : List Nat) (best : Int) (s : Nat) : Int := if lowB ps ls s = true ∧ (best < 0 ∨ lev ps s ≤ lev ps best.toNat) then (s : Int) else best
def lowN (ps : List Int) (ls : List Nat) (k : Nat) : Int := (List.range k).foldl (lowF ps ls) (-1)
theorem lowN_succ (ps : List Int) (ls : List Nat) (k : Nat) : lowN ps ls (k + 1) = lowF ps ls (lowN ps ls k) k := by simp [lowN, List.range_succ]
theorem lowN_spec (ps : List Int) (ls : List Nat) : ∀ k, (lowN ps ls k = -1 ∧ ∀ s, s < k → lowB ps ls s = false) ∨ ∃ b : Nat, lowN ps ls k = b ∧ b < k ∧ lowB ps ls b = true ∧ ∀ s, s < k → lowB ps ls s = true → lev ps b ≤ lev ps s
  | 0 => Or.inl ⟨rfl, fun s hs => absurd hs (by omega)⟩
  | k + 1 => by
    rw [lowN_succ]
    by_cases hc : lowB ps ls k = true
    · rcases lowN_spec ps ls k with ⟨h1, h2⟩ | ⟨b, h1, h2, h3, h4⟩
      · right
        refine ⟨k, by unfold lowF; rw [h1, if_pos ⟨hc, Or.inl (by omega)⟩], by omega, hc, fun s hs hcs => ?_⟩
        by_cases e : s = k
        · subst e; exact Int.le_refl _
        · have := h2 s (by omega); rw [hcs] at this; cases this
      · right
        by_cases hle : lev ps k ≤ lev ps b
        · refine ⟨k, by unfold lowF; rw [h1, if_pos ⟨hc, Or.inr (by simpa using hle)⟩], by omega, hc, fun s hs hcs => ?_⟩
          by_cases e : s = k
          · subst e; exact Int.le_refl _
          · have := h4 s (by omega) hcs; omega
        · refine ⟨b, by unfold lowF; rw [h1, if_neg (by simp; omega)], by omega, h3, fun s hs hcs => ?_⟩
          by_cases e : s = k
          · subst e; omega
          · exact h4 s (by omega) hcs
    · have e : ∀ b, lowF ps ls b k = b := fun b => if_neg (by simp [hc])
      rw [e]
      have hc' : lowB ps ls k = false := by simpa using hc
      rcases lowN_spec ps ls k with ⟨h1, h2⟩ | ⟨b, h1, h2, h3, h4⟩
      · left
        refine ⟨h1, fun s hs => ?_⟩
        by_cases e : s = k
        · subst e; exact hc'
        · exact h2 s (by omega)
      · right
        refine ⟨b, h1, by omega, h3, fun s hs hcs => ?_⟩
        by_cases e : s = k
        · subst e; rw [hc'] at hcs; cases hcs
        · exact h4 s (by omega) hcs
def lfN (ns : List Q) (x : Int) : Nat := ((ns.getD x.toNat ⟨0, 0, 0, 0⟩).t).toNat
def inNodes (ns : List Q) (nodes : List Int) : Bool := nodes.all fun x => decide (0 ≤ x) && decide (x < ns.length)
def areB (ps : List Int) (ns : List Q) (nodes : List Int) : Bool := inNodes ns nodes && topoOkB ps ns
theorem inNodes_iff {ns : List Q} {nodes : List Int} : inNodes ns nodes = true ↔ ∀ x ∈ nodes, 0 ≤ x ∧ x < ns.length := by
  unfold inNodes; rw [List.all_eq_true]; simp
theorem lfN_ok {ps : List Int} {ns : List Q} (h : topoOkB ps ns = true) {x : Int} (h0 : 0 ≤ x) (h1 : x < ns.length) : lfN ns x < ps.length ∧ leafB ps (lfN ns x) = true ∧ ∃ q, ns[x.toNat]? = some q ∧ q.t = (lfN ns x : Int) ∧ q ∈ ns := by
  obtain ⟨_, _, _, _, _, _, hn⟩ := topo_parts h
  have hl : x.toNat < ns.length := by omega
  have hq : ns[x.toNat]? = some ns[x.toNat] := List.getElem?_eq_getElem hl
  have hm : ns[x.toNat] ∈ ns := List.getElem_mem hl
  have hok := hn _ hm
  unfold nodeOk at hok
  simp only [Bool.and_eq_true, decide_eq_true_eq] at hok
  have e : lfN ns x = (ns[x.toNat]).t.toNat := by unfold lfN; simp [List.getD, hq]
  have e2 : (lfN ns x : Int) = (ns[x.toNat]).t := by rw [e]; omega
  refine ⟨by omega, ?_, _, hq, e2.symm, hm⟩
  rw [← leafI_eq, e2]; exact hok.1.2
def lowestV (ps : List Int) (ns : List Q) (nodes : List Int) : Int := if areB ps ns nodes && decide (1 ≤ nodes.length) then lowN ps (nodes.map (lfN ns)) ps.length else -1
theorem lowest_spec {ps : List Int} {ns : List Q} {nodes : List Int} (h : areB ps ns nodes = true) (hl : 1 ≤ nodes.length) : ∃ b : Nat, lowestV ps ns nodes = b ∧ b < ps.length ∧ (∀ x ∈ nodes, b ∈ up ps (lfN ns x)) ∧ ∀ s, s < ps.length → (∀ x ∈ nodes, s ∈ up ps (lfN ns x)) → lev ps b ≤ lev ps s := by
  have hh := h
  simp only [areB, Bool.and_eq_true] at h
  obtain ⟨hn, ht⟩ := h
  have hp := (topo_parts ht).2.2.2.2.1
  have h1 := (topo_parts ht).1
  have hb : ∀ s, lowB ps (nodes.map (lfN ns)) s = true ↔ ∀ x ∈ nodes, s ∈ up ps (lfN ns x) := by
    intro s; unfold lowB; rw [List.all_eq_true]; simp
  have e : lowestV ps ns nodes = lowN ps (nodes.map (lfN ns)) ps.length := if_pos (by simp [hh, hl])
  rcases lowN_spec ps (nodes.map (lfN ns)) ps.length with ⟨_, h2⟩ | ⟨b, h1, h2, h3, h4⟩
  · exfalso
    have := h2 0 (by omega)
    rw [(hb 0).2 fun x hx => zero_up hp _ (lfN_ok ht (inNodes_iff.1 hn x hx).1 (inNodes_iff.1 hn x hx).2).1] at this
    cases this
  · exact ⟨b, e.trans h1, h2, (hb b).1 h3, fun s hs hc => h4 s hs ((hb s).2 hc)⟩
/-! choosing -/
def undr (ps : List Int) (ns : List Q) (nodes : List Int) (s : Nat) : List Int := nodes.filter fun x => decide (s ∈ up ps (lfN ns x))
def goodB (ps : List Int) (ns : List Q) (nodes : List Int) (n : Nat) (most : Int) (s : Nat) : Prop := lev ps s ≤ most ∧ n ≤ (undr ps ns nodes s).length
instance (ps : List Int) (ns : List Q) (nodes : List Int) (n : Nat) (most : Int) (s : Nat) : Decidable (goodB ps ns nodes n most s) := by unfold goodB; infer_instance
def bestF (ps : List Int) (ns : List Q) (nodes : List Int) (n : Nat) (most : Int) (best : Int) (s : Nat) : Int :=
  if goodB ps ns nodes n most s ∧ (best < 0 ∨ lev ps s < lev ps best.toNat ∨ (lev ps s = lev ps best.toNat ∧ (undr ps ns nodes s).length < (undr ps ns nodes best.toNat).length)) then (s : Int) else best
def bestN (ps : List Int) (ns : List Q) (nodes : List Int) (n : Nat) (most : Int) (k : Nat) : Int := (List.range k).foldl (bestF ps ns nodes n most) (-1)
theorem bestN_succ (ps : List Int) (ns : List Q) (nodes : List Int) (n : Nat) (most : Int) (k : Nat) : bestN ps ns nodes n most (k + 1) = bestF ps ns nodes n most (bestN ps ns nodes n most k) k := by simp [bestN, List.range_succ]
theorem bestN_spec (ps : List Int) (ns : List Q) (nodes : List Int) (n : Nat) (most : Int) : ∀ k, (bestN ps ns nodes n most k = -1 ∧ ∀ s, s < k → ¬ goodB ps ns nodes n most s) ∨
    ∃ b : Nat, bestN ps ns nodes n most k = b ∧ b < k ∧ goodB ps ns nodes n most b ∧ ∀ s, s < k → goodB ps ns nodes n most s → lev ps b ≤ lev ps s
  | 0 => Or.inl ⟨rfl, fun s hs => absurd hs (by omega)⟩
  | k + 1 => by
    rw [bestN_succ]
    by_cases hc : goodB ps ns nodes n most k
    · rcases bestN_spec ps ns nodes n most k with ⟨h1, h2⟩ | ⟨b, h1, h2, h3, h4⟩
      · right
        refine ⟨k, by unfold bestF; rw [h1, if_pos ⟨hc, Or.inl (by omega)⟩], by omega, hc, fun s hs hcs => ?_⟩
        by_cases e : s = k
        · subst e; exact Int.le_refl _
        · exact absurd hcs (h2 s (by omega))
      · right
        by_cases hle : lev ps k < lev ps b ∨ (lev ps k = lev ps b ∧ (undr ps ns nodes k).length < (undr ps ns nodes b).length)
        · refine ⟨k, by unfold bestF; rw [h1, if_pos ⟨hc, Or.inr (by simpa using hle)⟩], by omega, hc, fun s hs hcs => ?_⟩
          by_cases e : s = k
          · subst e; exact Int.le_refl _
          · have := h4 s (by omega) hcs; omega
        · refine ⟨b, by unfold bestF; rw [h1, if_neg (fun hx => by
            rcases hx.2 with h | h
            · omega
            · exact hle (by simpa using h))], by omega, h3, fun s hs hcs => ?_⟩
          by_cases e : s = k
          · subst e; omega
          · exact h4 s (by omega) hcs
    · have e : ∀ b, bestF ps ns nodes n most b k = b := fun b => if_neg (fun hx => hc hx.1)
      rw [e]
      rcases bestN_spec ps ns nodes n most k with ⟨h1, h2⟩ | ⟨b, h1, h2, h3, h4⟩
      · left
        refine ⟨h1, fun s hs => ?_⟩
        by_cases e : s = k
        · subst e; exact hc
        · exact h2 s (by omega)
      · right
        refine ⟨b, h1, by omega, h3, fun s hs hcs => ?_⟩
        by_cases e : s = k
        · subst e; exact absurd hcs hc
        · exact h4 s (by omega) hcs
def chooseV (ps : List Int) (ns : List Q) (nodes : List Int) (n : Nat) (most : Int) : Option (List Int) :=
  if bestN ps ns nodes n most ps.length < 0 then none else some (outV (lfN ns) (undr ps ns nodes (bestN ps ns nodes n most ps.length).toNat) n)
def ascB (l : List Int) : Bool := decide (l.Pairwise (· < ·))
def ChooseV (ps : List Int) (ns : List Q) (nodes : List Int) (n most : Int) : Option (List Int) := if areB ps ns nodes && ascB nodes && decide (1 ≤ n) then chooseV ps ns nodes n.toNat most else none
theorem choose_some {ps : List Int} {ns : List Q} {nodes : List Int} {n : Nat} {most : Int} (hn : nodes.Nodup) {out : List Int} (h : chooseV ps ns nodes n most = some out) :
    ∃ b, b < ps.length ∧ goodB ps ns nodes n most b ∧ (∀ s, s < ps.length → goodB ps ns nodes n most s → lev ps b ≤ lev ps s) ∧ out.length = n ∧ out.Pairwise (· < ·) ∧ ∀ x ∈ out, x ∈ undr ps ns nodes b := by
  unfold chooseV at h
  split at h
  · cases h
  · rename_i hb
    have ho := Option.some.inj h
    rcases bestN_spec ps ns nodes n most ps.length with ⟨h1, h2⟩ | ⟨b, h1, h2, h3, h4⟩
    · omega
    · rw [h1] at ho
      simp only [Int.toNat_natCast] at ho
      have hnd : (undr ps ns nodes b).Nodup := hn.filter _
      obtain ⟨f1, f2, f3⟩ := outV_facts (lf := lfN ns) hnd (n := n) h3.2
      rw [ho] at f1 f2 f3
      exact ⟨b, h2, h3, h4, f1, f2, f3⟩
theorem choose_ex {ps : List Int} {ns : List Q} {nodes : List Int} {n : Nat} {most : Int} : (chooseV ps ns nodes n most).isSome = true ↔ ∃ s, s < ps.length ∧ goodB ps ns nodes n most s := by
  unfold chooseV
  rcases bestN_spec ps ns nodes n most ps.length with ⟨h1, h2⟩ | ⟨b, h1, h2, h3, h4⟩
  · rw [h1, if_pos (by omega)]
    constructor
    · intro h; cases h
    · rintro ⟨s, hs, hg⟩; exact absurd hg (h2 s hs)
  · rw [h1, if_neg (by omega)]
    exact ⟨fun _ => ⟨b, h2, h3⟩, fun _ => rfl⟩
theorem choose_more {ps : List Int} {ns : List Q} {a b : List Int} {n : Nat} {most : Int} (hab : a.Sublist b) (h : (chooseV ps ns a n most).isSome = true) : (chooseV ps ns b n most).isSome = true := by
  rw [choose_ex] at h ⊢
  obtain ⟨s, hs, h1, h2⟩ := h
  exact ⟨s, hs, h1, Nat.le_trans h2 (hab.filter _).length_le⟩
/-- The lowest switch of the chosen nodes is no higher than any switch that would do. -/
theorem choose_low {ps : List Int} {ns : List Q} {nodes : List Int} {n : Nat} {most : Int} (ht : areB ps ns nodes = true) (hn : nodes.Nodup) (h1 : 1 ≤ n) {out : List Int} (h : chooseV ps ns nodes n most = some out) :
    areB ps ns out = true ∧ ∃ b : Nat, lowestV ps ns out = b ∧ b < ps.length ∧ lev ps b ≤ most ∧ ∀ s, s < ps.length → n ≤ (undr ps ns nodes s).length → lev ps b ≤ lev ps s := by
  obtain ⟨b, hb, hg, hbest, hlen, hasc, hmem⟩ := choose_some hn h
  have ht' := ht
  simp only [areB, Bool.and_eq_true] at ht'
  have hout : areB ps ns out = true := by
    simp only [areB, Bool.and_eq_true]
    refine ⟨inNodes_iff.2 fun x hx => inNodes_iff.1 ht'.1 x (List.mem_filter.1 (hmem x hx)).1, ht'.2⟩
  refine ⟨hout, ?_⟩
  obtain ⟨l, hl1, hl2, hl3, hl4⟩ := lowest_spec hout (by omega)
  have hle : lev ps l ≤ lev ps b := hl4 b hb fun x hx => by
    have := (List.mem_filter.1 (hmem x hx)).2
    simpa using this
  refine ⟨l, hl1, hl2, by have := hg.1; omega, fun s hs hk => ?_⟩
  by_cases hm : lev ps s ≤ most
  · have := hbest s hs ⟨hm, hk⟩; omega
  · have := hg.1; omega
/-! rooms -/
structure Rm where
  par : List Int
  nodes : List Q
  up : List Bool
  profs : List (List Q)
  lics : List Q
def Rm.okB (r : Rm) : Bool := topoOkB r.par r.nodes && decide (r.up.length = r.nodes.length) && decide (r.profs.length = r.nodes.length) && r.profs.all profOkB && profOkB r.lics
def J.need (j : J) : V := ⟨j.na, j.nb, j.nc⟩
def J.lic (j : J) : V := ⟨j.la, j.lb, j.lc⟩
def fitV (a b : V) : Bool := fitsB a.A a.B a.C b.A b.B b.C
def eligB (r : Rm) (need : V) (lo hi : Int) (i : Nat) : Bool := r.up.getD i false && fitV need (leastV lo hi (r.profs.getD i []))
def eligN (r : Rm) (need : V) (lo hi : Int) (k : Nat) : List Int := ((List.range k).filter (eligB r need lo hi)).map fun (i : Nat) => (i : Int)
def eligV (r : Rm) (need : V) (lo hi : Int) : List Int := eligN r need lo hi r.profs.length
def EligV (r : Rm) (need : V) (lo hi : Int) : List Int := if r.okB && need.ok && spanB lo hi then eligV r need lo hi else []
theorem eligN_succ (r : Rm) (need : V) (lo hi : Int) (k : Nat) : eligN r need lo hi (k + 1) = if eligB r need lo hi k then eligN r need lo hi k ++ [(k : Int)] else eligN r need lo hi k := by
  unfold eligN
  rw [List.range_succ, List.filter_append, List.map_append]
  by_cases h : eligB r need lo hi k <;> simp [h]
theorem eligN_rise (r : Rm) (need : V) (lo hi : Int) : ∀ k, (eligN r need lo hi k).Pairwise (· < ·) ∧ ∀ x ∈ eligN r need lo hi k, 0 ≤ x ∧ x < k ∧ eligB r need lo hi x.toNat = true
  | 0 => by simp [eligN]
  | k + 1 => by
    rw [eligN_succ]
    obtain ⟨h1, h2⟩ := eligN_rise r need lo hi k
    split
    · rename_i hb
      refine ⟨List.pairwise_append.2 ⟨h1, by simp, fun a ha b hb => ?_⟩, fun x hx => ?_⟩
      · simp at hb; subst hb; exact (h2 a ha).2.1
      · rcases List.mem_append.1 hx with e | e
        · have := h2 x e; exact ⟨this.1, by omega, this.2.2⟩
        · simp at e; subst e; exact ⟨by omega, by omega, by simpa using hb⟩
    · exact ⟨h1, fun x hx => by have := h2 x hx; exact ⟨this.1, by omega, this.2.2⟩⟩
theorem rise_nodup {l : List Int} (h : l.Pairwise (· < ·)) : l.Nodup := h.imp fun {a b} hab e => by omega
theorem room_parts {r : Rm} (h : r.okB = true) : topoOkB r.par r.nodes = true ∧ r.up.length = r.nodes.length ∧ r.profs.length = r.nodes.length ∧ (∀ p ∈ r.profs, profOkB p = true) ∧ profOkB r.lics = true := by
  simp only [Rm.okB, Bool.and_eq_true, decide_eq_true_eq, List.all_eq_true] at h
  exact ⟨h.1.1.1.1, h.1.1.1.2, h.1.1.2, h.1.2, h.2⟩
/-- One try to start a job. -/
def tryV (r : Rm) (j : J) (t : Int) : Option (List Int) := if t + j.wl ≤ 1000000000 ∧ fitV j.lic (leastV t (t + j.wl) r.lics) = true then chooseV r.par r.nodes (eligV r j.need t (t + j.wl)) j.nn.toNat j.lv else none
def timesE (r : Rm) (from_ : Int) : List Int := (r.lics :: r.profs).foldl (fun o p => p.foldl (fun o q => if from_ < q.t then insT q.t o else o) o) [from_]
def firstV (r : Rm) (j : J) : List Int → Option (Int × List Int)
  | [] => none
  | t :: l => match tryV r j t with
    | some nd => some (t, nd)
    | none => firstV r j l
def earlV (r : Rm) (j : J) (from_ : Int) : Option (Int × List Int) := if r.okB && j.okB && timeB from_ then firstV r j (timesE r from_) else none
def changeAt (r : Rm) (x : Int) : Prop := ∃ p ∈ r.lics :: r.profs, ∃ q ∈ p, q.t = x
theorem timesE_spec (r : Rm) (from_ : Int) : (timesE r from_).Pairwise (· < ·) ∧ ∀ x, x ∈ timesE r from_ ↔ x = from_ ∨ (from_ < x ∧ changeAt r x) := by
  have h1 : ∀ (p : List Q) (o : List Int), o.Pairwise (· < ·) → (p.foldl (fun o q => if from_ < q.t then insT q.t o else o) o).Pairwise (· < ·) ∧ ∀ x, x ∈ p.foldl (fun o q => if from_ < q.t then insT q.t o else o) o ↔ x ∈ o ∨ (from_ < x ∧ ∃ q ∈ p, q.t = x) := by
    intro p
    induction p with
    | nil => intro o ho; exact ⟨ho, by simp⟩
    | cons q r ih =>
      intro o ho
      rw [List.foldl_cons]
      by_cases hq : from_ < q.t
      · rw [if_pos hq]
        obtain ⟨a, b⟩ := ih (insT q.t o) (insT_rise _ _ ho)
        refine ⟨a, fun x => ?_⟩
        rw [b, insT_mem]
        simp only [List.mem_cons, exists_eq_or_imp]
        constructor
        · rintro ((h | h) | ⟨h, h'⟩)
          · subst h; exact Or.inr ⟨hq, Or.inl rfl⟩
          · exact Or.inl h
          · exact Or.inr ⟨h, Or.inr h'⟩
        · rintro (h | ⟨h, h' | h'⟩)
          · exact Or.inl (Or.inr h)
          · exact Or.inl (Or.inl h'.symm)
          · exact Or.inr ⟨h, h'⟩
      · rw [if_neg hq]
        obtain ⟨a, b⟩ := ih o ho
        refine ⟨a, fun x => ?_⟩
        rw [b]
        simp only [List.mem_cons, exists_eq_or_imp]
        constructor
        · rintro (h | ⟨h, h'⟩)
          · exact Or.inl h
          · exact Or.inr ⟨h, Or.inr h'⟩
        · rintro (h | ⟨h, h' | h'⟩)
          · exact Or.inl h
          · subst h'; exact absurd h hq
          · exact Or.inr ⟨h, h'⟩
  have h2 : ∀ (l : List (List Q)) (o : List Int), o.Pairwise (· < ·) → (l.foldl (fun o p => p.foldl (fun o q => if from_ < q.t then insT q.t o else o) o) o).Pairwise (· < ·) ∧ ∀ x, x ∈ l.foldl (fun o p => p.foldl (fun o q => if from_ < q.t then insT q.t o else o) o) o ↔ x ∈ o ∨ (from_ < x ∧ ∃ p ∈ l, ∃ q ∈ p, q.t = x) := by
    intro l
    induction l with
    | nil => intro o ho; exact ⟨ho, by simp⟩
    | cons p r ih =>
      intro o ho
      rw [List.foldl_cons]
      obtain ⟨a, b⟩ := h1 p o ho
      obtain ⟨a', b'⟩ := ih _ a
      refine ⟨a', fun x => ?_⟩
      rw [b', b]
      simp only [List.mem_cons, exists_eq_or_imp]
      constructor
      · rintro ((h | ⟨h, h'⟩) | ⟨h, h'⟩)
        · exact Or.inl h
        · exact Or.inr ⟨h, Or.inl h'⟩
        · exact Or.inr ⟨h, Or.inr h'⟩
      · rintro (h | ⟨h, h' | h'⟩)
        · exact Or.inl (Or.inl h)
        · exact Or.inl (Or.inr ⟨h, h'⟩)
        · exact Or.inr ⟨h, h'⟩
  obtain ⟨a, b⟩ := h2 (r.lics :: r.profs) [from_] (by simp)
  exact ⟨a, fun x => by unfold timesE; rw [b]; simp [changeAt]⟩
theorem timesE_uniq {r : Rm} {from_ : Int} {l : List Int} (h : l.Pairwise (· < ·)) (hm : ∀ x, x ∈ l ↔ x = from_ ∨ (from_ < x ∧ changeAt r x)) : l = timesE r from_ :=
  rise_ext h (timesE_spec r from_).1 fun x => by rw [hm, (timesE_spec r from_).2]
theorem first_none {r : Rm} {j : J} : ∀ {l : List Int}, (∀ t ∈ l, tryV r j t = none) → firstV r j l = none
  | [], _ => rfl
  | t :: l, h => by unfold firstV; rw [h t (by simp)]; exact first_none fun u hu => h u (by simp [hu])
theorem first_at {r : Rm} {j : J} : ∀ {l : List Int} {k : Nat} {t : Int} {nd : List Int}, l[k]? = some t → (∀ i u, i < k → l[i]? = some u → tryV r j u = none) → tryV r j t = some nd → firstV r j l = some (t, nd)
  | [], _, _, _, h, _, _ => by simp at h
  | x :: l, 0, t, nd, h, _, ht => by
    simp at h; subst h
    unfold firstV; rw [ht]
  | x :: l, k + 1, t, nd, h, hb, ht => by
    have h0 := hb 0 x (by omega) rfl
    have ih := first_at (l := l) (k := k) (by simpa using h) (fun i u hi hu => hb (i + 1) u (by omega) (by simpa using hu)) ht
    unfold firstV; rw [h0]; exact ih
theorem first_some {r : Rm} {j : J} : ∀ {l : List Int} {t : Int} {nd : List Int}, l.Pairwise (· < ·) → firstV r j l = some (t, nd) → t ∈ l ∧ tryV r j t = some nd ∧ ∀ u ∈ l, u < t → tryV r j u = none
  | [], _, _, _, h => by cases h
  | x :: l, t, nd, hp, h => by
    rw [List.pairwise_cons] at hp
    unfold firstV at h
    cases hx : tryV r j x with
    | some y =>
      rw [hx] at h
      simp only [Option.some.injEq, Prod.mk.injEq] at h
      obtain ⟨rfl, rfl⟩ := h
      exact ⟨by simp, hx, fun u hu hlt => by
        rcases List.mem_cons.1 hu with e | e
        · omega
        · have := hp.1 u e; omega⟩
    | none =>
      rw [hx] at h
      obtain ⟨a, b, c⟩ := first_some hp.2 h
      refine ⟨by simp [a], b, fun u hu hlt => ?_⟩
      rcases List.mem_cons.1 hu with e | e
      · subst e; exact hx
      · exact c u e hlt
end Go.Proofs.Ytjnfdcojccgfoaa
