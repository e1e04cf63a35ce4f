/-
  Rising rows of numbers: plain.
-/
import Derived.Test.YtjnfdcojccgfoaaRows
import Derived.WalkKit
namespace Go.Proofs.Ytjnfdcojccgfoaa
set_option linter.unusedSimpArgs false
set_option linter.unusedVariables false
set_option linter.unnecessarySimpa false
open Go.RowKit
/-- Two rising lists with the same members are one. -/
theorem rise_ext : ∀ {a b : List Int}, a.Pairwise (· < ·) → b.Pairwise (· < ·) → (∀ x, x ∈ a ↔ x ∈ b) → a = b
  | [], [], _, _, _ => rfl
  | [], y :: s, _, _, h => by have := (h y).2 (by simp); cases this
  | x :: r, [], _, _, h => by have := (h x).1 (by simp); cases this
  | x :: r, y :: s, ha, hb, h => by
    rw [List.pairwise_cons] at ha hb
    have hxy : x = y := by
      have h1 := (h x).1 (by simp)
      have h2 := (h y).2 (by simp)
      rw [List.mem_cons] at h1 h2
      rcases h1 with h1 | h1
      · exact h1
      · rcases h2 with h2 | h2
        · exact h2.symm
        · have := hb.1 x h1; have := ha.1 y h2; omega
    subst hxy
    congr 1
    refine rise_ext ha.2 hb.2 fun z => ?_
    have hz := h z
    simp only [List.mem_cons] at hz
    constructor
    · intro hr
      rcases hz.1 (Or.inr hr) with e | e
      · subst e; have := ha.1 z hr; omega
      · exact e
    · intro hr
      rcases hz.2 (Or.inr hr) with e | e
      · subst e; have := hb.1 z hr; omega
      · exact e
/-- t at its place in a rising list, once. -/
def insT (t : Int) : List Int → List Int
  | [] => [t]
  | x :: r => if t ≤ x then t :: (x :: r).filter (fun y => decide (y ≠ t)) else x :: insT t r
def insF (t : Int) (s : List Int × Bool) (x : Int) : List Int × Bool :=
  let s1 := if s.2 = false ∧ t ≤ x then (s.1 ++ [t], true) else s
  if x ≠ t then (s1.1 ++ [x], s1.2) else s1
def insE (t : Int) (s : List Int × Bool) : List Int := if s.2 then s.1 else s.1 ++ [t]
theorem insF_done (t : Int) : ∀ (xs acc : List Int), xs.foldl (insF t) (acc, true) = (acc ++ xs.filter (fun y => decide (y ≠ t)), true)
  | [], acc => by simp
  | x :: r, acc => by
    rw [List.foldl_cons]
    by_cases h : x = t
    · have : insF t (acc, true) x = (acc, true) := by simp [insF, h]
      rw [this, insF_done t r]; simp [h]
    · have : insF t (acc, true) x = (acc ++ [x], true) := by simp [insF, h]
      rw [this, insF_done t r]; simp [h]
theorem insF_all (t : Int) : ∀ (xs acc : List Int), insE t (xs.foldl (insF t) (acc, false)) = acc ++ insT t xs
  | [], acc => by simp [insE, insT]
  | x :: r, acc => by
    rw [List.foldl_cons]
    by_cases h : t ≤ x
    · by_cases h2 : x = t
      · have : insF t (acc, false) x = (acc ++ [t], true) := by simp [insF, h2]
        rw [this, insF_done]; simp [insE, insT, h, h2]
      · have : insF t (acc, false) x = (acc ++ [t] ++ [x], true) := by simp [insF, h, h2]
        rw [this, insF_done]; simp [insE, insT, h, h2]
    · have h2 : x ≠ t := by omega
      have : insF t (acc, false) x = (acc ++ [x], false) := by simp [insF, h, h2]
      rw [this, insF_all t r]; simp [insT, h]
theorem insT_mem (t : Int) : ∀ (xs : List Int) (y : Int), y ∈ insT t xs ↔ y = t ∨ y ∈ xs
  | [], y => by simp [insT]
  | x :: r, y => by
    unfold insT
    split
    · simp only [List.mem_cons, List.mem_filter, decide_eq_true_eq]
      constructor
      · rintro (h | ⟨h, _⟩)
        · exact Or.inl h
        · exact Or.inr h
      · intro h
        by_cases e : y = t
        · exact Or.inl e
        · exact Or.inr ⟨h.resolve_left e, e⟩
    · simp only [List.mem_cons, insT_mem t r y]
      constructor
      · rintro (h | h | h)
        · exact Or.inr (Or.inl h)
        · exact Or.inl h
        · exact Or.inr (Or.inr h)
      · rintro (h | h | h)
        · exact Or.inr (Or.inl h)
        · exact Or.inl h
        · exact Or.inr (Or.inr h)
theorem insT_rise (t : Int) : ∀ (xs : List Int), xs.Pairwise (· < ·) → (insT t xs).Pairwise (· < ·)
  | [], _ => by simp [insT]
  | x :: r, h => by
    rw [List.pairwise_cons] at h
    unfold insT
    split
    · rename_i hle
      rw [List.pairwise_cons]
      refine ⟨?_, ?_⟩
      · intro y hy
        simp only [List.mem_filter, List.mem_cons, decide_eq_true_eq] at hy
        rcases hy.1 with e | e
        · have := hy.2; omega
        · have := h.1 y e; omega
      · exact List.Pairwise.filter _ (List.pairwise_cons.2 h)
    · rename_i hle
      rw [List.pairwise_cons]
      refine ⟨?_, insT_rise t r h.2⟩
      intro y hy
      rcases (insT_mem t r y).1 hy with e | e
      · omega
      · exact h.1 y e
/-- A number at its place in a rising list. -/
def rise (n : Int) : List Int → List Int
  | [] => [n]
  | x :: r => if n < x then n :: x :: r else x :: rise n r
def riseF (n : Int) (s : List Int × Bool) (x : Int) : List Int × Bool :=
  let s1 := if s.2 = false ∧ n < x then (s.1 ++ [n], true) else s
  (s1.1 ++ [x], s1.2)
theorem riseF_done (n : Int) : ∀ (xs acc : List Int), xs.foldl (riseF n) (acc, true) = (acc ++ xs, true)
  | [], acc => by simp
  | x :: r, acc => by rw [List.foldl_cons]; have : riseF n (acc, true) x = (acc ++ [x], true) := by simp [riseF]
                      rw [this, riseF_done n r]; simp
theorem riseF_all (n : Int) : ∀ (xs acc : List Int), insE n (xs.foldl (riseF n) (acc, false)) = acc ++ rise n xs
  | [], acc => by simp [insE, rise]
  | x :: r, acc => by
    rw [List.foldl_cons]
    by_cases h : n < x
    · have : riseF n (acc, false) x = (acc ++ [n] ++ [x], true) := by simp [riseF, h]
      rw [this, riseF_done]; simp [insE, rise, h]
    · have : riseF n (acc, false) x = (acc ++ [x], false) := by simp [riseF, h]
      rw [this, riseF_all n r]; simp [rise, h]
theorem rise_mem (n : Int) : ∀ (xs : List Int) (y : Int), y ∈ rise n xs ↔ y = n ∨ y ∈ xs
  | [], y => by simp [rise]
  | x :: r, y => by
    unfold rise
    split
    · simp
    · simp only [List.mem_cons, rise_mem n r y]
      constructor
      · rintro (h | h | h)
        · exact Or.inr (Or.inl h)
        · exact Or.inl h
        · exact Or.inr (Or.inr h)
      · rintro (h | h | h)
        · exact Or.inr (Or.inl h)
        · exact Or.inl h
        · exact Or.inr (Or.inr h)
theorem rise_rise (n : Int) : ∀ (xs : List Int), xs.Pairwise (· < ·) → n ∉ xs → (rise n xs).Pairwise (· < ·)
  | [], _, _ => by simp [rise]
  | x :: r, h, hn => by
    rw [List.pairwise_cons] at h
    simp only [List.mem_cons, not_or] at hn
    unfold rise
    split
    · rename_i hlt
      rw [List.pairwise_cons, List.pairwise_cons]
      refine ⟨?_, h⟩
      intro y hy
      simp only [List.mem_cons] at hy
      rcases hy with e | e
      · omega
      · have := h.1 y e; omega
    · rename_i hlt
      rw [List.pairwise_cons]
      refine ⟨?_, rise_rise n r h.2 hn.2⟩
      intro y hy
      rcases (rise_mem n r y).1 hy with e | e
      · have := hn.1; omega
      · exact h.1 y e
theorem rise_len (n : Int) : ∀ (xs : List Int), (rise n xs).length = xs.length + 1
  | [] => rfl
  | x :: r => by unfold rise; split <;> simp [rise_len n r]
end Go.Proofs.Ytjnfdcojccgfoaa
