import Derived.Test.YtnphjhbfpoekpaaGreatFkPl
import Derived.Test.YtnphjhbfpoekpaaGreatA11Pl
import Derived.Test.YtnphjhbfpoekpaaGreatA8Pl
namespace Go.Proofs.YtnphjhbfpoekpaaGreat
set_option linter.unusedSimpArgs false
set_option linter.unusedVariables false
set_option linter.unnecessarySimpa false
open Go.RowKit
def hcells : List Hd → List Value → List Value
 | h :: hs, x :: ss => .int .i64 h.id :: .int .i64 h.at_ :: x :: hcells hs ss
 | _, _ => []
theorem hcells_app : ∀ {hs : List Hd} {ss : List Value} {h : Hd} {x : Value}, hs.length = ss.length → hcells (hs ++ [h]) (ss ++ [x]) = hcells hs ss ++ [.int .i64 h.id, .int .i64 h.at_, x]
 | [], [], _, _, _ => rfl
 | a :: hs, y :: ss, h, x, e => by
  have := hcells_app (hs := hs) (ss := ss) (h := h) (x := x) (by simpa using e)
  simp only [List.cons_append, hcells, this]
theorem hcells_get : ∀ {hs : List Hd} {ss : List Value} {k : Nat} {h : Hd} {x : Value}, hs[k]? = some h → ss[k]? = some x → (hcells hs ss)[k * 3]? = some (.int .i64 h.id) ∧ (hcells hs ss)[k * 3 + 1]? = some (.int .i64 h.at_) ∧ (hcells hs ss)[k * 3 + 2]? = some x
 | a :: hs, y :: ss, 0, h, x, e1, e2 => by
  simp at e1 e2
  subst e1 e2
  simp [hcells]
 | a :: hs, y :: ss, k + 1, h, x, e1, e2 => by
  have := hcells_get (hs := hs) (ss := ss) (k := k) (h := h) (x := x) (by simpa using e1) (by simpa using e2)
  simp only [hcells, show (k + 1) * 3 = k * 3 + 1 + 1 + 1 by omega, show k * 3 + 1 + 1 + 1 + 1 = (k * 3 + 1) + 1 + 1 + 1 by omega, show k * 3 + 1 + 1 + 1 + 2 = (k * 3 + 2) + 1 + 1 + 1 by omega, List.getElem?_cons_succ]
  exact this
 | [], _, _, _, _, e1, _ => by simp at e1
 | _ :: _, [], _, _, _, _, e2 => by simp at e2
structure OwnH (w : World) (lo : Nat) (v : Value) (n : Nat) (ss : List Value) (hs : List Hd) : Prop where
 own : w.ownsRow lo 41 3 v n (hcells hs ss)
 len : hs.length = n
 slen : ss.length = n
 each : ∀ (k : Nat) x h, ss[k]? = some x → hs[k]? = some h → h.nd.length ≤ 1048576 ∧ w.ownsRow lo 3 1 x h.nd.length (ints h.nd)
 apart : ∀ (i j : Nat) x y, i < j → ss[i]? = some x → ss[j]? = some y → ∀ b, x.ownBlock = some b → y.ownBlock ≠ some b
theorem OwnH.bel {w w' : World} {lo : Nat} {v : Value} {n : Nat} {ss : List Value} {hs : List Hd} (h : OwnH w lo v n ss hs) (hb : Below w.heap.size w w') : OwnH w' lo v n ss hs :=
 ⟨zAe h.own hb, h.len, h.slen, fun k x p a c => ⟨(h.each k x p a c).1, zAe (h.each k x p a c).2 hb⟩, h.apart⟩
theorem OwnH.mono {w : World} {lo lo' : Nat} {v : Value} {n : Nat} {ss : List Value} {hs : List Hd} (h : OwnH w lo v n ss hs) (hl : lo' ≤ lo) : OwnH w lo' v n ss hs :=
 ⟨zAn h.own hl, h.len, h.slen, fun k x p a c => ⟨(h.each k x p a c).1, zAn (h.each k x p a c).2 hl⟩, h.apart⟩
theorem OwnH.nil (w : World) (lo : Nat) : OwnH w lo (.slice none 0 0) 0 [] [] := ⟨own_nil _ _ _ _, rfl, rfl, fun k x p h => by simp at h, fun i j x y _ h => by simp at h⟩
theorem OwnH.ltx {w : World} {lo : Nat} {v : Value} {n : Nat} {ss : List Value} {hs : List Hd} (h : OwnH w lo v n ss hs) {i : Nat} {y : Value} (hi : ss[i]? = some y) {b : Nat} (hb : y.ownBlock = some b) : b < w.heap.size := by
 have e1 := h.len
 have e2 := h.slen
 have hl := (List.getElem?_eq_some_iff.1 hi).1
 obtain ⟨p, hp⟩ : ∃ p, hs[i]? = some p := ⟨_, zgh (by omega)⟩
 exact own_lt (h.each i y p hi hp).2 b hb
theorem OwnH.app {w w' : World} {lo : Nat} {v v' x : Value} {n : Nat} {ss : List Value} {hs : List Hd} {p : Hd} (h : OwnH w lo v n ss hs) (ho : w'.ownsRow lo 41 3 v' (n + 1) (hcells hs ss ++ [.int .i64 p.id, .int .i64 p.at_, x])) (hg : w.grownBy w' v.ownBlock)
  (hx : w.ownsRow lo 3 1 x p.nd.length (ints p.nd)) (hl : p.nd.length ≤ 1048576) (hap : ∀ (i : Nat) y, ss[i]? = some y → ∀ b, y.ownBlock = some b → x.ownBlock ≠ some b) : OwnH w' lo v' (n + 1) (ss ++ [x]) (hs ++ [p]) := by
 have e1 := h.len
 have e2 := h.slen
 refine ⟨by rw [hcells_app (by omega)]; exact ho, by simp [e1], by simp [e2], fun k y q hk hp => ?_, fun i j y z hij hi hj => ?_⟩
 ·by_cases hkn : k < n
  ·rw [List.getElem?_append_left (by omega)] at hk hp
   obtain ⟨a1, a2⟩ := h.each k y q hk hp
   exact ⟨a1, own_grown a2 hg (fun k hk => own_ap a2 h.own (by decide) k hk)⟩
  ·have hk2 : k = n := by have := (List.getElem?_eq_some_iff.1 hk).1; simp at this; omega
   subst hk2
   have h3 : x = y := by rw [List.getElem?_append_right (by omega), e2] at hk; simpa using hk
   have h4 : p = q := by rw [List.getElem?_append_right (by omega), e1] at hp; simpa using hp
   subst h3 h4
   exact ⟨hl, own_grown hx hg (fun k hk => own_ap hx h.own (by decide) k hk)⟩
 ·have hj2 : j < n + 1 := by have := (List.getElem?_eq_some_iff.1 hj).1; simp at this; omega
  rw [List.getElem?_append_left (by omega)] at hi
  by_cases hjn : j < n
  ·rw [List.getElem?_append_left (by omega)] at hj
   exact h.apart i j y z hij hi hj
  ·rw [List.getElem?_append_right (by omega)] at hj
   have h3 : x = z := by rw [show j - ss.length = 0 by omega] at hj; simpa using hj
   subst h3
   exact hap i y hi
theorem OwnH.row {w : World} {lo : Nat} {A : Option Addr} {n c : Nat} {ss : List Value} {hs : List Hd} (h : OwnH w lo (.slice A n c) n ss hs) {k : Nat} (hk : k < n) :
  ∃ g p X d, A = some ⟨g, 0, none⟩ ∧ hs[k]? = some p ∧ ss[k]? = some (.slice X p.nd.length d) ∧ p.nd.length ≤ 1048576 ∧ w.ownsRow lo 3 1 (.slice X p.nd.length d) p.nd.length (ints p.nd) ∧ g < w.heap.size ∧
   w.cell? ⟨g, k * 3, none⟩ = some (.int .i64 p.id) ∧ w.cell? ⟨g, k * 3 + 1, none⟩ = some (.int .i64 p.at_) ∧ w.cell? ⟨g, k * 3 + 2, none⟩ = some (.slice X p.nd.length d) := by
 have e1 := h.len
 have e2 := h.slen
 obtain ⟨p, hp⟩ : ∃ p, hs[k]? = some p := ⟨_, zgh (by omega)⟩
 obtain ⟨x, hx⟩ : ∃ x, ss[k]? = some x := ⟨_, zgh (by omega)⟩
 obtain ⟨hl, ho⟩ := h.each k x p hx hp
 obtain ⟨X, d, rfl, _⟩ := zAt ho
 obtain ⟨g, rfl, hc⟩ := (zAv h.own).2 (by omega)
 obtain ⟨c0, c1, c2⟩ := hcells_get hp hx
 exact ⟨g, p, X, d, rfl, hp, hx, hl, ho, own_lt h.own g rfl, hc _ _ c0, hc _ _ c1, hc _ _ c2⟩
def setL : List Value → Nat → List Value → List Value
 | l, _, [] => l
 | l, i, x :: xs => setL (l.set i x) (i + 1) xs
def RdHI (w : World) (A : Option Addr) (n : Nat) (hs : List Hd) : Prop :=
 hs.length = n ∧ (∀ p ∈ hs, p.nd.length ≤ maxLen) ∧ (0 < n → ∃ b off, A = some ⟨b, off, none⟩ ∧ b < w.heap.size ∧ ∀ (k : Nat) p, hs[k]? = some p → ∃ B c, (w.cell? ⟨b, off + k * 3, none⟩ = some (.int .i64 p.id) ∧ w.cell? ⟨b, off + k * 3 + 1, none⟩ = some (.int .i64 p.at_) ∧ w.cell? ⟨b, off + k * 3 + 2, none⟩ = some (.slice B p.nd.length c)) ∧ RdI w B p.nd.length p.nd)
theorem RdHI.below {w w' : World} {A : Option Addr} {n : Nat} {hs : List Hd} (h : RdHI w A n hs) (hb : Below w.heap.size w w') : RdHI w' A n hs :=
 ⟨h.1, h.2.1, fun hn => by
  obtain ⟨b, off, rfl, hl, hc⟩ := h.2.2 hn
  exact ⟨b, off, rfl, Nat.lt_of_lt_of_le hl hb.size, fun k p hp => by
   obtain ⟨B, c, ⟨h0, h1, h2⟩, hI⟩ := hc k p hp
   exact ⟨B, c, ⟨(hb.cell (p := ⟨b, _, none⟩) hl).trans h0, (hb.cell (p := ⟨b, _, none⟩) hl).trans h1, (hb.cell (p := ⟨b, _, none⟩) hl).trans h2⟩, hI.below hb⟩⟩⟩
end Go.Proofs.YtnphjhbfpoekpaaGreat
