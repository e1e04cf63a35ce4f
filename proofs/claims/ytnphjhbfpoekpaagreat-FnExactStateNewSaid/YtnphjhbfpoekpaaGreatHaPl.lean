import Derived.Test.YtnphjhbfpoekpaaGreatA11Pl
import Derived.Test.YtnphjhbfpoekpaaGreatHePl
import Derived.Test.YtnphjhbfpoekpaaGreatLr0Pl
import Derived.Shelf.Abstract
import Derived.Deep.DeepCutAuto
namespace Go.Proofs.YtnphjhbfpoekpaaGreat
set_option linter.unusedSimpArgs false
set_option linter.unusedVariables false
set_option linter.unnecessarySimpa false
open Go.RowKit
structure RdH (w : World) (A : Option Addr) (n : Nat) (ss : List Value) (hs : List Hd) : Prop where
 len : hs.length = n
 slen : ss.length = n
 rl : ∀ g, A = some ⟨g, 0, none⟩ → g < w.heap.size
 rd : Rd w A n 3 (hcells hs ss)
 each : ∀ (k : Nat) x p, ss[k]? = some x → hs[k]? = some p → ∃ X d, x = .slice X p.nd.length d ∧ p.nd.length ≤ 1048576 ∧ p.nd.length ≤ d ∧ d ≤ 9223372036854775807 ∧ Rd w X p.nd.length 1 (ints p.nd) ∧ ∀ g, X = some ⟨g, 0, none⟩ → g < w.heap.size
theorem RdH.bel {w w' : World} {A : Option Addr} {n : Nat} {ss : List Value} {hs : List Hd} (h : RdH w A n ss hs) (hb : Below w.heap.size w w') : RdH w' A n ss hs :=
 ⟨h.len, h.slen, fun g hg => Nat.lt_of_lt_of_le (h.rl g hg) hb.size, h.rd.below h.rl hb, fun k x p a b => by
  obtain ⟨X, d, h1, h2, h3, h4, h5, h6⟩ := h.each k x p a b
  exact ⟨X, d, h1, h2, h3, h4, h5.below h6 hb, zAi h6 hb⟩⟩
theorem RdH.row {w : World} {A : Option Addr} {n : Nat} {ss : List Value} {hs : List Hd} (h : RdH w A n ss hs) {k : Nat} (hk : k < n) :
  ∃ g p X d, A = some ⟨g, 0, none⟩ ∧ hs[k]? = some p ∧ ss[k]? = some (.slice X p.nd.length d) ∧ p.nd.length ≤ 1048576 ∧ p.nd.length ≤ d ∧ d ≤ 9223372036854775807 ∧ Rd w X p.nd.length 1 (ints p.nd) ∧ (∀ g, X = some ⟨g, 0, none⟩ → g < w.heap.size) ∧ g < w.heap.size ∧
   w.cell? ⟨g, k * 3, none⟩ = some (.int .i64 p.id) ∧ w.cell? ⟨g, k * 3 + 1, none⟩ = some (.int .i64 p.at_) ∧ w.cell? ⟨g, k * 3 + 2, none⟩ = some (.slice X p.nd.length d) := by
 obtain ⟨p, hp⟩ : ∃ p, hs[k]? = some p := ⟨_, zgh (by have := h.len; omega)⟩
 obtain ⟨x, hx⟩ : ∃ x, ss[k]? = some x := ⟨_, zgh (by have := h.slen; omega)⟩
 obtain ⟨X, d, rfl, h2, h3, h4, h5, h6⟩ := h.each k x p hx hp
 obtain ⟨g, hg, hc⟩ := h.rd.2 (by omega)
 obtain ⟨c0, c1, c2⟩ := hcells_get hp hx
 exact ⟨g, p, X, d, hg, hp, hx, h2, h3, h4, h5, h6, h.rl g hg, hc _ _ c0, hc _ _ c1, hc _ _ c2⟩
theorem hcells_take : ∀ {hs : List Hd} {ss : List Value} (k : Nat), (hcells hs ss).take (k * 3) = hcells (hs.take k) (ss.take k)
 | _, _, 0 => by simp [hcells]
 | [], ss, k + 1 => by simp [hcells]
 | h :: hs, [], k + 1 => by simp [hcells]
 | h :: hs, x :: ss, k + 1 => by
  have e : (k + 1) * 3 = k * 3 + 1 + 1 + 1 := by omega
  rw [e]
  simp [hcells, hcells_take (hs := hs) (ss := ss) k]
theorem RdH.take {w : World} {A : Option Addr} {n : Nat} {ss : List Value} {hs : List Hd} (h : RdH w A n ss hs) {k : Nat} (hk : k ≤ n) : RdH w A k (ss.take k) (hs.take k) := by
 have h1 := h.len
 have h2 := h.slen
 refine ⟨by rw [List.length_take]; omega, by rw [List.length_take]; omega, h.rl, ⟨?_, fun h0 => ?_⟩, fun i x p a b => ?_⟩
 ·rw [← hcells_take, List.length_take, h.rd.1]; omega
 ·obtain ⟨g, hg, hc⟩ := h.rd.2 (by omega)
  refine ⟨g, hg, fun i u hu => hc i u ?_⟩
  rw [← hcells_take, List.getElem?_take] at hu
  split at hu
  ·exact hu
  ·cases hu
 ·rw [List.getElem?_take] at a b
  by_cases hik : i < k
  ·rw [if_pos hik] at a b
   exact h.each i x p a b
  ·rw [if_neg hik] at a
   cases a
theorem OwnH.rd {w : World} {lo : Nat} {A : Option Addr} {n c : Nat} {ss : List Value} {hs : List Hd} (h : OwnH w lo (.slice A n c) n ss hs) : RdH w A n ss hs := by
 refine ⟨h.len, h.slen, own_blk h.own, zAv h.own, fun k x p a b => ?_⟩
 obtain ⟨h1, h2⟩ := h.each k x p a b
 obtain ⟨X, d, rfl, -⟩ := zAt h2
 exact ⟨X, d, rfl, h1, (own_cap9 h2).1, (own_cap9 h2).2, zAv h2, own_blk h2⟩
theorem drop_cons' {α : Type} {l : List α} {q : Nat} {p : α} (h : l[q]? = some p) : l.drop q = p :: l.drop (q + 1) := by
 obtain ⟨h1, h2⟩ := List.getElem?_eq_some_iff.1 h
 rw [List.drop_eq_getElem_cons h1, h2]
structure KN (w wr : World) (b : Nat) (a : RA) (r : Rm) : Prop where
 bx : wr.heap[b]? = some (.cells #[.slice a.A a.n a.c, .slice a.B a.m a.d, .slice a.U a.nu a.cu, .slice a.R a.np a.cp, .slice a.L a.nl a.cl] 33 (0, 0))
 own : ∃ lo xs, RoomOwn wr lo a r xs
 bel : Below w.heap.size w wr
 hb : w.heap.size ≤ b
theorem KN.step {w wr w' : World} {b : Nat} {a : RA} {r : Rm} (h : KN w wr b a r) (hb : Below wr.heap.size wr w') : KN w w' b a r := by
 obtain ⟨lo, xs, ho⟩ := h.own
 exact ⟨zAg h.bx hb, ⟨lo, xs, ho.bel hb⟩, zAc h.bel hb, h.hb⟩
theorem KN.room {w wr : World} {b : Nat} {a a' : RA} {r r' : Rm} {lo : Nat} {xs : List Value} (h : KN w wr b a r) (ho : RoomOwn wr lo a' r' xs) :
  KN w (((((wr.setCell ⟨b, 0, none⟩ (.slice a'.A a'.n a'.c)).setCell ⟨b, 1, none⟩ (.slice a'.B a'.m a'.d)).setCell ⟨b, 2, none⟩ (.slice a'.U a'.nu a'.cu)).setCell ⟨b, 3, none⟩ (.slice a'.R a'.np a'.cp)).setCell ⟨b, 4, none⟩ (.slice a'.L a'.nl a'.cl)) b a' r' :=
 ⟨set5 h.bx, ⟨lo, xs, ho.box5 h.bx _ _ _ _ _⟩, bel_set5 h.bel h.hb _ _ _ _ _, h.hb⟩
end Go.Proofs.YtnphjhbfpoekpaaGreat
