import Derived.Test.YtnphjhbfpoekpaaGreatA24Ph
import Derived.Deep.RegionHeld3
namespace Go.Proofs.YtnphjhbfpoekpaaGreat
set_option linter.unusedSimpArgs false
set_option linter.unusedVariables false
set_option linter.unnecessarySimpa false
open Go.RowKit
structure DS (w wr : World) (g : Nat) (X : Value) (xs : List Int) (A B : Option Addr) (n c m d : Nat) : Prop where
 own : wr.ownsRow w.heap.size 3 1 X xs.length (ints xs)
 bx : wr.heap[w.heap.size]? = some (.cells #[.slice A n c, .slice B m d] 26 (0, 0))
 cur : Cur wr g
 fr : Fr (· = g) w wr
 hg : g < w.heap.size
theorem DS.bel {w wr w' : World} {g : Nat} {X : Value} {xs : List Int} {A B : Option Addr} {n c m d : Nat} (h : DS w wr g X xs A B n c m d) (hb : Below wr.heap.size wr w') : DS w w' g X xs A B n c m d :=
 ⟨zAe h.own hb, zAf h.bx hb, h.cur.below hb, h.fr.of_bel hb, h.hg⟩
theorem DS.cs {w wr w' : World} {g : Nat} {X : Value} {xs : List Int} {A B : Option Addr} {n c m d : Nat} (h : DS w wr g X xs A B n c m d) (hf : Fr (· = g) wr w') (hc : Cur w' g) : DS w w' g X xs A B n c m d := by
 have hh := h.hg
 exact ⟨own_fr h.own hf (fun k hk e => by have := zAu h.own k hk; omega), bx_fr h.bx hf (by omega), hc, h.fr.trans hf, hh⟩
theorem DS.put {w wr w1 : World} {g : Nat} {X v : Value} {xs : List Int} {A B : Option Addr} {n c m d : Nat} {x : Int} (h : DS w wr g X xs A B n c m d) (hv : w1.ownsRow w.heap.size 3 1 v (xs.length + 1) (ints xs ++ [.int .i64 x])) (hg : wr.grownBy w1 X.ownBlock) : DS w w1 g v (xs ++ [x]) A B n c m d := by
 have hh := h.hg
 have hrow : ∀ k, X.ownBlock = some k → w.heap.size ≤ k := fun k hk => zAu h.own k hk
 exact ⟨by rw [ints_snoc, List.length_append]; exact hv, zAp h.bx hg (fun k hk => zAk h.own h.bx (by decide) k hk), h.cur.grown hg (fun k hk => by have := hrow k hk; omega), h.fr.grown hg hrow, hh⟩
end Go.Proofs.YtnphjhbfpoekpaaGreat
