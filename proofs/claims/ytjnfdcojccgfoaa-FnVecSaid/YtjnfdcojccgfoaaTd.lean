import Derived.Test.YtjnfdcojccgfoaaTc
import Derived.Test.YtjnfdcojccgfoaaPl
namespace Go.Proofs.Ytjnfdcojccgfoaa
set_option linter.unusedSimpArgs false
set_option linter.unusedVariables false
set_option linter.unnecessarySimpa false
open Go.RowKit
def parB (ps : List Int) : Bool := (List.range ps.length).all fun s => decide (s = 0) || (decide (0 ≤ ps.getD s 0) && decide (ps.getD s 0 < s))
theorem parB_ok {ps : List Int} : parB ps = true ↔ parOk ps := by
  unfold parB parOk
  rw [List.all_eq_true]
  constructor
  · intro h s h1 hs
    have := h s (List.mem_range.2 hs)
    simp only [Bool.or_eq_true, decide_eq_true_eq, Bool.and_eq_true] at this
    exact this.resolve_left (by omega)
  · intro h s hs
    have hs := List.mem_range.1 hs
    simp only [Bool.or_eq_true, decide_eq_true_eq, Bool.and_eq_true]
    by_cases h0 : s = 0
    · exact Or.inl h0
    · exact Or.inr (h s (by omega) hs)
def nodeOk (ps : List Int) (q : Q) : Bool := decide (0 ≤ q.t) && decide (q.t < ps.length) && leafI ps q.t && vecOkB q.a q.b q.c
def topoOkB (ps : List Int) (ns : List Q) : Bool := decide (1 ≤ ps.length) && decide (ps.length ≤ 24) && decide (ps.getD 0 0 = 0) && decide (ns.length ≤ 24) && parB ps && evenB ps && ns.all (nodeOk ps)
theorem topo_len {ps : List Int} {ns : List Q} {n : Nat} (hn : ps.length = n) (h : ¬ (1 ≤ n ∧ n ≤ 24)) : topoOkB ps ns = false := by
  unfold topoOkB
  by_cases h1 : 1 ≤ n
  · have h2 : ¬ n ≤ 24 := fun h2 => h ⟨h1, h2⟩
    simp [hn, h2]
  · simp [hn, h1]
theorem topo_root {ps : List Int} {ns : List Q} (h : ps.getD 0 0 ≠ 0) : topoOkB ps ns = false := by
  unfold topoOkB
  simp only [h, decide_false, Bool.and_false, Bool.false_and]
theorem topo_nodes {ps : List Int} {ns : List Q} {m : Nat} (hm : ns.length = m) (h : ¬ m ≤ 24) : topoOkB ps ns = false := by
  unfold topoOkB
  simp only [hm, h, decide_false, Bool.and_false, Bool.false_and]
theorem topo_par {ps : List Int} {ns : List Q} {k : Nat} (hk : k < ps.length) (h1 : 1 ≤ k) (h : ¬ (0 ≤ ps.getD k 0 ∧ ps.getD k 0 < k)) : topoOkB ps ns = false := by
  have : parB ps = false := by
    cases hp : parB ps with
    | false => rfl
    | true => exact absurd (parB_ok.1 hp k h1 hk) h
  unfold topoOkB
  simp only [this, Bool.and_false, Bool.false_and]
theorem even_at {ps : List Int} (he : evenB ps = true) {l : Nat} (hl : l < ps.length) (hlf : leafB ps l = true) : dep ps l = dep ps (ps.length - 1) := by
  unfold evenB at he
  rw [List.all_eq_true] at he
  have := he l (List.mem_range.2 hl)
  simpa [hlf] using this
theorem topo_uneven {ps : List Int} {ns : List Q} {a b : Nat} (ha : a < ps.length) (hb : b < ps.length) (la : leafB ps a = true) (lb : leafB ps b = true) (h : dep ps a ≠ dep ps b) : topoOkB ps ns = false := by
  have : evenB ps = false := by
    cases he : evenB ps with
    | false => rfl
    | true => exact absurd ((even_at he ha la).trans (even_at he hb lb).symm) h
  unfold topoOkB
  simp only [this, Bool.and_false, Bool.false_and]
theorem topo_node {ps : List Int} {ns : List Q} {q : Q} (hq : q ∈ ns) (h : nodeOk ps q = false) : topoOkB ps ns = false := by
  have : ns.all (nodeOk ps) = false := by
    rw [List.all_eq_false]; exact ⟨q, hq, by simp [h]⟩
  unfold topoOkB
  simp only [this, Bool.and_false]
theorem topo_all {ps : List Int} {ns : List Q} {n m : Nat} (hn : ps.length = n) (hm : ns.length = m) (h1 : 1 ≤ n) (h2 : n ≤ 24) (h3 : ps.getD 0 0 = 0) (h4 : m ≤ 24) (hp : parOk ps) (hk : ∀ k q, k < m → ns[k]? = some q → nodeOk ps q = true) : topoOkB ps ns = evenB ps := by
  have e1 : ns.all (nodeOk ps) = true := by
    rw [List.all_eq_true]
    intro q hq
    obtain ⟨k, hk', rfl⟩ := List.getElem_of_mem hq
    exact hk k _ (by omega) (List.getElem?_eq_getElem hk')
  unfold topoOkB
  have e2 := parB_ok.2 hp
  have d1 : decide (1 ≤ ps.length) = true := by simp; omega
  have d2 : decide (ps.length ≤ 24) = true := by simp; omega
  have d3 : decide (ps.getD 0 0 = 0) = true := by rw [h3]; rfl
  have d4 : decide (ns.length ≤ 24) = true := by simp; omega
  rw [e1, e2, d1, d2, d3, d4]
  simp
theorem topo_parts {ps : List Int} {ns : List Q} (h : topoOkB ps ns = true) : 1 ≤ ps.length ∧ ps.length ≤ 24 ∧ ps.getD 0 0 = 0 ∧ ns.length ≤ 24 ∧ parOk ps ∧ evenB ps = true ∧ ∀ q ∈ ns, nodeOk ps q = true := by
  unfold topoOkB at h
  simp only [Bool.and_eq_true, decide_eq_true_eq, List.all_eq_true] at h
  obtain ⟨⟨⟨⟨⟨⟨h1, h2⟩, h3⟩, h4⟩, h5⟩, h6⟩, h7⟩ := h
  exact ⟨h1, h2, h3, h4, parB_ok.1 h5, h6, h7⟩
/-- The depth of the leaves among the first k switches: -1 where there is none. -/
def deepOk (ps : List Int) (k : Nat) (D : Int) : Prop := (D = -1 ∧ ∀ j, j < k → leafB ps j = false) ∨ ∃ l, l < k ∧ leafB ps l = true ∧ D = dep ps l ∧ ∀ j, j < k → leafB ps j = true → dep ps j = dep ps l
theorem deepOk_no {ps : List Int} {k : Nat} {D : Int} (h : deepOk ps k D) (hl : leafB ps k = false) : deepOk ps (k + 1) D := by
  rcases h with ⟨rfl, h⟩ | ⟨l, hlk, hll, rfl, h⟩
  · exact Or.inl ⟨rfl, fun j hj => by
      rcases Nat.lt_or_ge j k with h1 | h1
      · exact h j h1
      · have : j = k := by omega
        rw [this]; exact hl⟩
  · exact Or.inr ⟨l, by omega, hll, rfl, fun j hj hjl => by
      rcases Nat.lt_or_ge j k with h1 | h1
      · exact h j h1 hjl
      · have : j = k := by omega
        rw [this, hl] at hjl; cases hjl⟩
theorem deepOk_yes {ps : List Int} {k : Nat} {D : Int} (h : deepOk ps k D) (hl : leafB ps k = true) (hd : D < 0 ∨ (dep ps k : Int) = D) : deepOk ps (k + 1) (dep ps k) := by
  refine Or.inr ⟨k, by omega, hl, rfl, fun j hj hjl => ?_⟩
  rcases Nat.lt_or_ge j k with h1 | h1
  · rcases h with ⟨rfl, h⟩ | ⟨l, hlk, hll, rfl, h⟩
    · rw [h j h1] at hjl; cases hjl
    · have := h j h1 hjl
      have := hd.resolve_left (by omega)
      omega
  · have : j = k := by omega
    rw [this]
theorem deepOk_even {ps : List Int} {n : Nat} {D : Int} (hn : ps.length = n) (h : deepOk ps n D) (h1 : 1 ≤ n) (hp : parOk ps) : evenB ps = true := by
  have hll := last_leaf hp (by omega)
  rcases h with ⟨_, h⟩ | ⟨l, hlk, hl, _, h⟩
  · rw [h (ps.length - 1) (by omega)] at hll; cases hll
  · unfold evenB
    rw [List.all_eq_true]
    intro j hj
    have hj := List.mem_range.1 hj
    by_cases hlf : leafB ps j = true
    · have a1 := h j (by omega) hlf
      have a2 := h (ps.length - 1) (by omega) hll
      simp [hlf, a1, a2]
    · simp [hlf]
end Go.Proofs.Ytjnfdcojccgfoaa
