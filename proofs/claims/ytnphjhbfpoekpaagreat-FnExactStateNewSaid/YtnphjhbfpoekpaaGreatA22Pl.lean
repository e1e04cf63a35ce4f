import Derived.Test.YtnphjhbfpoekpaaGreatA8Pl
import Derived.Test.YtnphjhbfpoekpaaGreatA12Pl
import Derived.Test.YtnphjhbfpoekpaaGreatA7Pl
import Derived.Deep.RegionHeld3
import Derived.Deep.QuietTactic
import Derived.BigQuiet
import Derived.Deep.AppendLies
import Derived.Test.YtnphjhbfpoekpaaGreatA6Pl
import Derived.Test.YtnphjhbfpoekpaaGreatA3Pl
import Derived.Test.YtnphjhbfpoekpaaGreatApPl
import Derived.Test.YtnphjhbfpoekpaaGreatA19Pl
import Derived.Test.YtnphjhbfpoekpaaGreatA13Pl
namespace Go.Proofs.YtnphjhbfpoekpaaGreat
set_option linter.unusedSimpArgs false
set_option linter.unusedVariables false
set_option linter.unnecessarySimpa false
open Go.RowKit
def atX (xs : List Value) (k : Nat) (b : Nat) : Prop := ∃ i x, i < k ∧ xs[i]? = some x ∧ x.ownBlock = some b
theorem atB_own {A : Option Addr} {n c g : Nat} (h : (Value.slice A n c).ownBlock = some g) : ∃ o t, A = some ⟨g, o, t⟩ := by
 cases A with
 | none => cases h
 | some a => cases h; exact ⟨_, _, rfl⟩
def atR (a : RA) (xs : List Value) (b : Nat) : Prop := atB a.A b ∨ atB a.B b ∨ atB a.U b ∨ atX xs a.np b ∨ atB a.L b
theorem OwnP.fr {S : Nat → Prop} {w w' : World} {lo : Nat} {A : Option Addr} {n c : Nat} {xs : List Value} {pss : List (List Q)} (h : OwnP w lo (.slice A n c) n xs pss) (hb : Fr S w w') (h1 : ∀ k, atB A k → ¬ S k) (h2 : ∀ k, atX xs n k → ¬ S k) : OwnP w' lo (.slice A n c) n xs pss :=
 ⟨own_fr h.own hb (fun k hk => h1 k (by obtain ⟨o, t, rfl⟩ := atB_own hk; rcases h.own.2 with ⟨h0, _⟩ | ⟨g, cap, cur, hv, _⟩; · cases h0
                                        ·cases hv; cases hk; exact ⟨0, rfl⟩)), h.len, fun k x ps hx hp => ⟨(h.each k x ps hx hp).1, own_fr (h.each k x ps hx hp).2 hb (fun b hk => h2 b ⟨k, x, by have := (List.getElem?_eq_some_iff.1 hx).1; have := h.xlen; omega, hx, hk⟩)⟩, h.apart⟩
end Go.Proofs.YtnphjhbfpoekpaaGreat
namespace Go.Proofs.YtnphjhbfpoekpaaGreat
set_option linter.unusedSimpArgs false
set_option linter.unusedVariables false
set_option linter.unnecessarySimpa false
open Go.RowKit Go.Lib
structure PL (w : World) (zs : List Value) (pss : List (List Q)) : Prop where
 len : zs.length = pss.length
 each : ∀ (k : Nat) ps, pss[k]? = some ps → ∃ B c, zs[k]? = some (.slice B ps.length c) ∧ ps.length ≤ 1048576 ∧ Rd w B ps.length 4 (flat ps) ∧ ∀ g, B = some ⟨g, 0, none⟩ → g < w.heap.size
theorem PL.below {w w' : World} {zs : List Value} {pss : List (List Q)} (h : PL w zs pss) (hb : Below w.heap.size w w') : PL w' zs pss :=
 ⟨h.len, fun k ps hp => by
  obtain ⟨B, c, h1, h2, h3, h4⟩ := h.each k ps hp
  exact ⟨B, c, h1, h2, h3.below h4 hb, zAi h4 hb⟩⟩
theorem OwnP.pl {w : World} {lo : Nat} {v : Value} {n : Nat} {xs : List Value} {pss : List (List Q)} (h : OwnP w lo v n xs pss) : PL w xs pss := by
 have h1 := h.xlen
 have h2 := h.len
 refine ⟨by omega, fun k ps hp => ?_⟩
 have hk : k < xs.length := by have := (List.getElem?_eq_some_iff.1 hp).1; omega
 obtain ⟨e1, e2⟩ := h.each k _ ps (zgh hk) hp
 obtain ⟨B, c, e3, e4⟩ := zAt e2
 exact ⟨B, c, by rw [zgh hk, e3], e1, e4, own_blk (e3 ▸ e2)⟩
theorem PL.cons {w : World} {zs : List Value} {pss : List (List Q)} {B : Option Addr} {c : Nat} {ps : List Q} (h : PL w zs pss) (h1 : ps.length ≤ 1048576) (h2 : Rd w B ps.length 4 (flat ps)) (h3 : ∀ g, B = some ⟨g, 0, none⟩ → g < w.heap.size) : PL w (.slice B ps.length c :: zs) (ps :: pss) := by
 refine ⟨by simp [h.len], fun k p hp => ?_⟩
 cases k with
 | zero => simp at hp; subst hp; exact ⟨B, c, rfl, h1, h2, h3⟩
 | succ k => simpa using h.each k p (by simpa using hp)
theorem own_put {w : World} {lo : Nat} {e : TypeId} {size g n c i : Nat} {xs : List Value} {u : Value} (h : w.ownsRow lo e size (.slice (some ⟨g, 0, none⟩) n c) n xs) (_ : i < n * size) : (w.setCell ⟨g, i, none⟩ u).ownsRow lo e size (.slice (some ⟨g, 0, none⟩) n c) n (xs.set i u) := by
 obtain ⟨hl, h⟩ := h
 rcases h with ⟨hv, _⟩ | ⟨g', cap, cur, hv, hg, hh, h1, h2, h3, h4⟩
 ·injection hv with a1; cases a1
 ·injection hv with a1 a2 a3
  injection a1 with a1
  injection a1 with a1
  subst a1 a3
  refine ⟨by simpa using hl, Or.inr ⟨g, c, cur.setIfInBounds i u, rfl, hg, zAq hh, h1, h2, by simpa using h3, ?_⟩⟩
  rw [Array.toList_setIfInBounds, ← h4, List.take_set]
theorem own_frz {w : World} {lo : Nat} {e : TypeId} {size g n c : Nat} {xs : List Value} (h : w.ownsRow lo e size (.slice (some ⟨g, 0, none⟩) n c) n xs) : ∀ o, w.frozen? ⟨g, o, none⟩ = false := by
 rcases h.2 with ⟨hv, _⟩ | ⟨g', cap, cur, hv, hg, hh, _⟩
 ·injection hv with a1; cases a1
 ·injection hv with a1 a2 a3
  injection a1 with a1
  injection a1 with a1
  subst a1
  exact fun _ => zAs hh
end Go.Proofs.YtnphjhbfpoekpaaGreat
