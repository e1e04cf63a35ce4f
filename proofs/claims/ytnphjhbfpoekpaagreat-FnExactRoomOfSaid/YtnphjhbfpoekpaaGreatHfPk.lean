import Derived.Test.YtnphjhbfpoekpaaGreatHePk
import Derived.Test.YtnphjhbfpoekpaaGreatA8Pk
namespace Go.Proofs.YtnphjhbfpoekpaaGreat
set_option linter.unusedSimpArgs false
set_option linter.unusedVariables false
set_option linter.unnecessarySimpa false
open Go.RowKit
theorem OwnH.row {w : World} {lo : Nat} {A : Option Addr} {n c : Nat} {ss : List Value} {hs : List Hd} (h : OwnH w lo (.slice A n c) n ss hs) {k : Nat} (hk : k < n) :
  ∃ g p X d, A = some ⟨g, 0, none⟩ ∧ hs[k]? = some p ∧ ss[k]? = some (.slice X p.nd.length d) ∧ p.nd.length ≤ 1048576 ∧ w.ownsRow lo 3 1 (.slice X p.nd.length d) p.nd.length (ints p.nd) ∧ g < w.heap.size ∧
   w.cell? ⟨g, k * 3, none⟩ = some (.int .i64 p.id) ∧ w.cell? ⟨g, k * 3 + 1, none⟩ = some (.int .i64 p.at_) ∧ w.cell? ⟨g, k * 3 + 2, none⟩ = some (.slice X p.nd.length d) := by
 have e1 := h.len
 have e2 := h.slen
 obtain ⟨p, hp⟩ : ∃ p, hs[k]? = some p := ⟨_, zgh (by omega)⟩
 obtain ⟨x, hx⟩ : ∃ x, ss[k]? = some x := ⟨_, zgh (by omega)⟩
 obtain ⟨hl, ho⟩ := h.each k x p hx hp
 obtain ⟨X, d, rfl, _⟩ := zAt ho
 obtain ⟨g, rfl, hc⟩ := (own_rdd' h.own).2 (by omega)
 obtain ⟨c0, c1, c2⟩ := hcells_get hp hx
 exact ⟨g, p, X, d, rfl, hp, hx, hl, ho, own_lt h.own g rfl, hc _ _ c0, hc _ _ c1, hc _ _ c2⟩
def setL : List Value → Nat → List Value → List Value
 | l, _, [] => l
 | l, i, x :: xs => setL (l.set i x) (i + 1) xs
theorem take_setL : ∀ (xs l : List Value) (i : Nat), i + xs.length ≤ l.length → (setL l i xs).take (i + xs.length) = l.take i ++ xs
 | [], l, i, _ => by simp [setL]
 | x :: xs, l, i, h => by
  simp only [List.length_cons] at h
  have e : (l.set i x).take (i + 1) = l.take i ++ [x] := by
   apply List.ext_getElem?
   intro k
   rw [List.getElem?_take, List.getElem?_append, List.length_take, Nat.min_eq_left (by omega : i ≤ l.length), List.getElem?_set]
   by_cases h1 : k < i
   ·rw [if_pos (by omega), if_pos h1, if_neg (by omega), List.getElem?_take, if_pos h1]
   ·rw [if_neg h1]
    by_cases h2 : k = i
    ·subst h2; rw [if_pos (by omega), if_pos rfl, if_pos (by omega)]; simp
    ·rw [if_neg (by omega)]
     rw [List.getElem?_eq_none (by simp; omega)]
  rw [setL, List.length_cons, show i + (xs.length + 1) = i + 1 + xs.length by omega, take_setL xs _ _ (by rw [List.length_set]; omega), e, List.append_assoc]
  rfl
def RdHI (w : World) (A : Option Addr) (n : Nat) (hs : List Hd) : Prop :=
 hs.length = n ∧ (∀ p ∈ hs, p.nd.length ≤ maxLen) ∧ (0 < n → ∃ b off, A = some ⟨b, off, none⟩ ∧ b < w.heap.size ∧ ∀ (k : Nat) p, hs[k]? = some p → ∃ B c, (w.cell? ⟨b, off + k * 3, none⟩ = some (.int .i64 p.id) ∧ w.cell? ⟨b, off + k * 3 + 1, none⟩ = some (.int .i64 p.at_) ∧ w.cell? ⟨b, off + k * 3 + 2, none⟩ = some (.slice B p.nd.length c)) ∧ RdI w B p.nd.length p.nd)
theorem RdHI.below {w w' : World} {A : Option Addr} {n : Nat} {hs : List Hd} (h : RdHI w A n hs) (hb : Below w.heap.size w w') : RdHI w' A n hs :=
 ⟨h.1, h.2.1, fun hn => by
  obtain ⟨b, off, rfl, hl, hc⟩ := h.2.2 hn
  exact ⟨b, off, rfl, Nat.lt_of_lt_of_le hl hb.size, fun k p hp => by
   obtain ⟨B, c, ⟨h0, h1, h2⟩, hI⟩ := hc k p hp
   exact ⟨B, c, ⟨(hb.cell (p := ⟨b, _, none⟩) hl).trans h0, (hb.cell (p := ⟨b, _, none⟩) hl).trans h1, (hb.cell (p := ⟨b, _, none⟩) hl).trans h2⟩, hI.below hb⟩⟩⟩
end Go.Proofs.YtnphjhbfpoekpaaGreat
