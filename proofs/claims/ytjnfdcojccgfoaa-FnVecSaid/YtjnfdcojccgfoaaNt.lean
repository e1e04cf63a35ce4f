import Derived.Test.YtjnfdcojccgfoaaNp
import Derived.Lib.Strings
namespace Go.Proofs.Ytjnfdcojccgfoaa
set_option linter.unusedSimpArgs false
set_option linter.unusedVariables false
set_option linter.unnecessarySimpa false
open Go.RowKit
/-- The pieces of a list between the bytes b. -/
def splitL (b : UInt8) : List UInt8 → List (List UInt8)
  | [] => [[]]
  | c :: l => if c = b then [] :: splitL b l else match splitL b l with
    | [] => [[c]]
    | p :: ps => (c :: p) :: ps
theorem splitL_snoc_eq (b : UInt8) (l : List UInt8) : splitL b (l ++ [b]) = splitL b l ++ [[]] := by
  induction l with
  | nil => simp [splitL]
  | cons c l ih =>
    simp only [List.cons_append, splitL, ih]
    split
    · simp
    · cases h : splitL b l with
      | nil => simp [h] at ih ⊢; cases l <;> simp [splitL] at h; split at h <;> (try simp at h); split at h <;> simp at h
      | cons p ps => simp
theorem splitL_ne_nil (b : UInt8) (l : List UInt8) : splitL b l ≠ [] := by
  cases l with
  | nil => simp [splitL]
  | cons c l => simp only [splitL]; split <;> (try split) <;> simp
theorem splitL_snoc_ne (b c : UInt8) (hc : c ≠ b) (l : List UInt8) : ∀ i x, splitL b l = i ++ [x] → splitL b (l ++ [c]) = i ++ [x ++ [c]] := by
  induction l with
  | nil =>
    intro i x h
    cases i with
    | nil => simp [splitL] at h; subst h; simp [splitL, hc]
    | cons y i => simp [splitL] at h
  | cons d l ih =>
    intro i x h
    simp only [splitL] at h
    simp only [List.cons_append, splitL]
    split
    · rename_i hd
      rw [if_pos hd] at h
      cases i with
      | nil => simp at h; exact absurd h.2 (splitL_ne_nil b l)
      | cons y i =>
        simp at h
        rw [ih i x h.2]
        simp [h.1]
    · rename_i hd
      rw [if_neg hd] at h
      cases hs : splitL b l with
      | nil => exact absurd hs (splitL_ne_nil b l)
      | cons p ps =>
        rw [hs] at h
        dsimp only at h
        cases i with
        | nil =>
          simp at h
          obtain ⟨h1, h2⟩ := h
          subst h2
          rw [ih [] p (by simp [hs])]
          simp [← h1]
        | cons y i =>
          simp at h
          rw [ih (p :: i) x (by simp [hs, h.2])]
          simp [h.1]
def joinL (b : UInt8) : List (List UInt8) → List UInt8
  | [] => []
  | [x] => x
  | x :: y :: r => x ++ b :: joinL b (y :: r)
theorem join_splitL (b : UInt8) (l : List UInt8) : joinL b (splitL b l) = l := by
  induction l with
  | nil => simp [splitL, joinL]
  | cons c l ih =>
    simp only [splitL]
    cases hs : splitL b l with
    | nil => exact absurd hs (splitL_ne_nil b l)
    | cons p ps =>
      rw [hs] at ih
      split
      · rename_i hc
        simp [joinL, ih, hc]
      · cases ps with
        | nil => simp [joinL] at ih ⊢; exact ih
        | cons q r => simp [joinL] at ih ⊢; exact ih
theorem splitL_none (b : UInt8) (l : List UInt8) (h : b ∉ l) : splitL b l = [l] := by
  induction l with
  | nil => rfl
  | cons c l ih =>
    simp at h
    simp only [splitL, ih h.2]
    rw [if_neg (fun e => h.1 e.symm)]
theorem splitL_cat (b : UInt8) (l r : List UInt8) (h : b ∉ l) : splitL b (l ++ b :: r) = l :: splitL b r := by
  induction l with
  | nil => simp [splitL]
  | cons c l ih =>
    simp at h
    simp only [List.cons_append, splitL, ih h.2]
    rw [if_neg (fun e => h.1 e.symm)]
/-- The pieces behind k bytes are the split of the first k bytes. -/
theorem pieces_split (s : ByteArray) (b : UInt8) (k : Nat) (hk : k ≤ s.size) :
    splitL b (s.data.toList.take k) = (pieces s b k).1.map (fun p => p.data.toList) ++ [(s.data.toList.take k).drop (pieces s b k).2] ∧ (pieces s b k).2 ≤ k := by
  induction k with
  | zero => simp [pieces, splitL]
  | succ k ih =>
    obtain ⟨h1, h2⟩ := ih (by omega)
    have hlt : k < s.size := by omega
    have ht := take_snoc s k hlt
    have hlen : (s.data.toList.take k).length = k := by simp; omega
    unfold pieces
    rw [getD_byte s k hlt]
    split
    · rename_i hc
      refine ⟨?_, Nat.le_refl _⟩
      rw [ht, hc, splitL_snoc_eq, h1]
      simp only [List.map_append, List.map_cons, List.map_nil]
      congr 1
      · congr 2
        rw [Lib.extract_data, List.drop_take]
      · simp [hlen]
    · rename_i hc
      refine ⟨?_, by omega⟩
      rw [ht, splitL_snoc_ne b s[k] hc _ _ _ h1]
      congr 2
      rw [List.drop_append_of_le_length (by omega)]
theorem parts_split (s : ByteArray) (b : UInt8) : (parts s b).map (fun p => p.data.toList) = splitL b s.data.toList := by
  have h := (pieces_split s b s.size (Nat.le_refl _)).1
  have ht : s.data.toList.take s.size = s.data.toList := List.take_of_length_le (by simp)
  rw [ht] at h
  rw [h, parts]
  simp only [List.map_append, List.map_cons, List.map_nil]
  congr 2
  rw [Lib.extract_data, ← List.drop_take, ht]
end Go.Proofs.Ytjnfdcojccgfoaa
