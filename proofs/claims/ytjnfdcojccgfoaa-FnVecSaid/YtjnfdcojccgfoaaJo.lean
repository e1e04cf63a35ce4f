/-
  The order of the jobs: plain.
-/
import Derived.Test.YtjnfdcojccgfoaaCo
import Derived.Test.YtjnfdcojccgfoaaVj
namespace Go.Proofs.Ytjnfdcojccgfoaa
set_option linter.unusedSimpArgs false
set_option linter.unusedVariables false
set_option linter.unnecessarySimpa false
open Go.RowKit
/-! the order of the jobs: plain -/
def befJ (a b : J) : Prop := b.pr < a.pr ∨ (a.pr = b.pr ∧ a.id < b.id)
instance (a b : J) : Decidable (befJ a b) := by unfold befJ; infer_instance
theorem befJ_asymm (a b : J) (h : befJ a b) (h' : befJ b a) : False := by unfold befJ at h h'; omega
theorem befJ_irrefl (a : J) : ¬ befJ a a := by unfold befJ; omega
theorem befJ_trans {a b c : J} (h : befJ a b) (h' : befJ b c) : befJ a c := by unfold befJ at *; omega
theorem befJ_total {a b : J} (h : a.id ≠ b.id) : befJ a b ∨ befJ b a := by unfold befJ; omega
def insJ (j : J) : List J → List J
  | [] => [j]
  | x :: r => if befJ j x then j :: x :: r else x :: insJ j r
def insJF (j : J) (s : List J × Bool) (x : J) : List J × Bool :=
  let s1 := if s.2 = false ∧ befJ j x then (s.1 ++ [j], true) else s
  (s1.1 ++ [x], s1.2)
def insJE (j : J) (s : List J × Bool) : List J := if s.2 then s.1 else s.1 ++ [j]
theorem insJF_done (j : J) : ∀ (xs acc : List J), xs.foldl (insJF j) (acc, true) = (acc ++ xs, true)
  | [], acc => by simp
  | x :: r, acc => by
    rw [List.foldl_cons]
    have : insJF j (acc, true) x = (acc ++ [x], true) := by simp [insJF]
    rw [this, insJF_done j r]; simp
theorem insJF_all (j : J) : ∀ (xs acc : List J), insJE j (xs.foldl (insJF j) (acc, false)) = acc ++ insJ j xs
  | [], acc => by simp [insJE, insJ]
  | x :: r, acc => by
    rw [List.foldl_cons]
    by_cases h : befJ j x
    · have : insJF j (acc, false) x = (acc ++ [j] ++ [x], true) := by simp [insJF, h]
      rw [this, insJF_done]; simp [insJE, insJ, h]
    · have : insJF j (acc, false) x = (acc ++ [x], false) := by simp [insJF, h]
      rw [this, insJF_all j r]; simp [insJ, h]
theorem insJ_mem (j : J) : ∀ (xs : List J) (y : J), y ∈ insJ j xs ↔ y = j ∨ y ∈ xs
  | [], y => by simp [insJ]
  | x :: r, y => by
    unfold insJ
    split
    · simp
    · simp only [List.mem_cons, insJ_mem j r y]
      constructor
      · rintro (h | h | h)
        · exact Or.inr (Or.inl h)
        · exact Or.inl h
        · exact Or.inr (Or.inr h)
      · rintro (h | h | h)
        · exact Or.inr (Or.inl h)
        · exact Or.inl h
        · exact Or.inr (Or.inr h)
theorem insJ_len (j : J) : ∀ (xs : List J), (insJ j xs).length = xs.length + 1
  | [] => rfl
  | x :: r => by unfold insJ; split <;> simp [insJ_len j r]
theorem insJ_ord (j : J) : ∀ (xs : List J), xs.Pairwise befJ → (∀ x ∈ xs, x.id ≠ j.id) → (insJ j xs).Pairwise befJ
  | [], _, _ => by simp [insJ]
  | x :: r, h, hd => by
    rw [List.pairwise_cons] at h
    unfold insJ
    split
    · rename_i hb
      rw [List.pairwise_cons, List.pairwise_cons]
      refine ⟨fun y hy => ?_, h⟩
      rcases List.mem_cons.1 hy with e | e
      · subst e; exact hb
      · exact befJ_trans hb (h.1 y e)
    · rename_i hb
      rw [List.pairwise_cons]
      refine ⟨fun y hy => ?_, insJ_ord j r h.2 fun z hz => hd z (by simp [hz])⟩
      rcases (insJ_mem j r y).1 hy with e | e
      · subst e; exact (befJ_total (hd x (by simp))).resolve_right hb
      · exact h.1 y e
def orderV (l : List J) : List J := l.foldl (fun o j => insJ j o) []
theorem orderV_snoc (l : List J) (j : J) : orderV (l ++ [j]) = insJ j (orderV l) := by simp [orderV]
theorem orderV_len (l : List J) : (orderV l).length = l.length := by
  have key : ∀ (l acc : List J), (l.foldl (fun o j => insJ j o) acc).length = l.length + acc.length := by
    intro l
    induction l with
    | nil => intro acc; simp
    | cons x r ih => intro acc; rw [List.foldl_cons, ih, insJ_len]; simp; omega
  simpa [orderV] using key l []
theorem orderV_mem (l : List J) (y : J) : y ∈ orderV l ↔ y ∈ l := by
  have key : ∀ (l acc : List J), y ∈ l.foldl (fun o j => insJ j o) acc ↔ y ∈ l ∨ y ∈ acc := by
    intro l
    induction l with
    | nil => intro acc; simp
    | cons x r ih =>
      intro acc
      rw [List.foldl_cons, ih, insJ_mem]
      simp only [List.mem_cons]
      constructor
      · rintro (h | h | h)
        · exact Or.inl (Or.inr h)
        · exact Or.inl (Or.inl h)
        · exact Or.inr h
      · rintro ((h | h) | h)
        · exact Or.inr (Or.inl h)
        · exact Or.inl h
        · exact Or.inr (Or.inr h)
  simpa [orderV] using key l []
def distJ (l : List J) : Prop := l.Pairwise fun a b => a.id ≠ b.id
theorem orderV_ord {l : List J} (h : distJ l) : (orderV l).Pairwise befJ := by
  have key : ∀ (l acc : List J), acc.Pairwise befJ → distJ l → (∀ x ∈ l, ∀ y ∈ acc, y.id ≠ x.id) → (l.foldl (fun o j => insJ j o) acc).Pairwise befJ := by
    intro l
    induction l with
    | nil => intro acc h _ _; exact h
    | cons x r ih =>
      intro acc hacc hd hx
      unfold distJ at hd
      rw [List.pairwise_cons] at hd
      rw [List.foldl_cons]
      refine ih _ (insJ_ord x acc hacc (hx x (by simp))) hd.2 fun z hz y hy => ?_
      rcases (insJ_mem x acc y).1 hy with e | e
      · subst e; exact hd.1 z hz
      · exact hx z (by simp [hz]) y e
  exact key l [] (by simp) h (by simp)
/-- A sorted row of the same jobs is that one. -/
theorem orderV_uniq {l d : List J} (h : distJ l) (hp : d.Perm l) (hs : d.Pairwise fun a b => ¬ befJ b a) : d = orderV l := by
  have hdd : distJ d := by
    unfold distJ at h ⊢
    exact (hp.pairwise_iff (fun {a b} hab => fun e => hab e.symm)).2 h
  have hb : d.Pairwise befJ := (hs.and hdd).imp fun {a b} ⟨h1, h2⟩ => (befJ_total h2).resolve_right h1
  exact pair_ext befJ_asymm befJ_irrefl hb (orderV_ord h) fun x => by rw [orderV_mem, hp.mem_iff]
end Go.Proofs.Ytjnfdcojccgfoaa
