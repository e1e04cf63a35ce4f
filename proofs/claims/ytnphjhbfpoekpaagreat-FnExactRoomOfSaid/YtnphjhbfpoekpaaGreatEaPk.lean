import Derived.Test.YtnphjhbfpoekpaaGreatApPk
import Derived.Test.YtnphjhbfpoekpaaGreatA19Pk
import Derived.Test.YtnphjhbfpoekpaaGreatA22Pk
import Derived.Test.YtnphjhbfpoekpaaGreatA13Pk
import Derived.Test.YtnphjhbfpoekpaaGreatA8Pk
namespace Go.Proofs.YtnphjhbfpoekpaaGreat
set_option linter.unusedSimpArgs false
set_option linter.unusedVariables false
set_option linter.unnecessarySimpa false
open Go.RowKit Go.Lib
structure PL (w : World) (zs : List Value) (pss : List (List Q)) : Prop where
 len : zs.length = pss.length
 each : ∀ (k : Nat) ps, pss[k]? = some ps → ∃ B c, zs[k]? = some (.slice B ps.length c) ∧ ps.length ≤ 1048576 ∧ Rd w B ps.length 4 (flat ps) ∧ ∀ g, B = some ⟨g, 0, none⟩ → g < w.heap.size
theorem PL.below {w w' : World} {zs : List Value} {pss : List (List Q)} (h : PL w zs pss) (hb : Below w.heap.size w w') : PL w' zs pss :=
 ⟨h.len, fun k ps hp => by
  obtain ⟨B, c, h1, h2, h3, h4⟩ := h.each k ps hp
  exact ⟨B, c, h1, h2, h3.below h4 hb, zAm h4 hb⟩⟩
theorem OwnP.pl {w : World} {lo : Nat} {v : Value} {n : Nat} {xs : List Value} {pss : List (List Q)} (h : OwnP w lo v n xs pss) : PL w xs pss := by
 have h1 := h.xlen
 have h2 := h.len
 refine ⟨by omega, fun k ps hp => ?_⟩
 have hk : k < xs.length := by have := (List.getElem?_eq_some_iff.1 hp).1; omega
 obtain ⟨e1, e2⟩ := h.each k _ ps (zgh hk) hp
 obtain ⟨B, c, e3, e4⟩ := zAt e2
 exact ⟨B, c, by rw [zgh hk, e3], e1, e4, own_blk (e3 ▸ e2)⟩
theorem PL.cons {w : World} {zs : List Value} {pss : List (List Q)} {B : Option Addr} {c : Nat} {ps : List Q} (h : PL w zs pss) (h1 : ps.length ≤ 1048576) (h2 : Rd w B ps.length 4 (flat ps)) (h3 : ∀ g, B = some ⟨g, 0, none⟩ → g < w.heap.size) : PL w (.slice B ps.length c :: zs) (ps :: pss) := by
 refine ⟨by simp [h.len], fun k p hp => ?_⟩
 cases k with
 | zero => simp at hp; subst hp; exact ⟨B, c, rfl, h1, h2, h3⟩
 | succ k => simpa using h.each k p (by simpa using hp)
theorem own_put {w : World} {lo : Nat} {e : TypeId} {size g n c i : Nat} {xs : List Value} {u : Value} (h : w.ownsRow lo e size (.slice (some ⟨g, 0, none⟩) n c) n xs) (_ : i < n * size) : (w.setCell ⟨g, i, none⟩ u).ownsRow lo e size (.slice (some ⟨g, 0, none⟩) n c) n (xs.set i u) := by
 obtain ⟨hl, h⟩ := h
 rcases h with ⟨hv, _⟩ | ⟨g', cap, cur, hv, hg, hh, h1, h2, h3, h4⟩
 ·injection hv with a1; cases a1
 ·injection hv with a1 a2 a3
  injection a1 with a1
  injection a1 with a1
  subst a1 a3
  refine ⟨by simpa using hl, Or.inr ⟨g, c, cur.setIfInBounds i u, rfl, hg, zAk hh, h1, h2, by simpa using h3, ?_⟩⟩
  rw [Array.toList_setIfInBounds, ← h4, List.take_set]
theorem own_frz {w : World} {lo : Nat} {e : TypeId} {size g n c : Nat} {xs : List Value} (h : w.ownsRow lo e size (.slice (some ⟨g, 0, none⟩) n c) n xs) : ∀ o, w.frozen? ⟨g, o, none⟩ = false := by
 rcases h.2 with ⟨hv, _⟩ | ⟨g', cap, cur, hv, hg, hh, _⟩
 ·injection hv with a1; cases a1
 ·injection hv with a1 a2 a3
  injection a1 with a1
  injection a1 with a1
  subst a1
  exact fun _ => zAi hh
end Go.Proofs.YtnphjhbfpoekpaaGreat
