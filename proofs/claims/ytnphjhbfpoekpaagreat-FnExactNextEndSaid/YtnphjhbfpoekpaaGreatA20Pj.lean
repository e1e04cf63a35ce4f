import Derived.Test.YtnphjhbfpoekpaaGreatA13Pj
import Derived.Test.YtnphjhbfpoekpaaGreatA7Pj
import Derived.Test.YtnphjhbfpoekpaaGreatA8Pj
import Derived.Deep.RegionHeld3
import Derived.Deep.QuietTactic
import Derived.BigQuiet
import Derived.Deep.AppendLies
import Derived.Test.YtnphjhbfpoekpaaGreatA5Pj
import Derived.Test.YtnphjhbfpoekpaaGreatA9Pj
import Derived.Test.YtnphjhbfpoekpaaGreatProg
import Derived.Shelf.SlGeneric
import Derived.Ground.SlgmProg
import Derived.Ground.SlgnProg
import Derived.Ground.SlsfProg
import Derived.Ground.NamesProg
import Derived.Shelf.SlSortCmp.Whole1
namespace Go.Proofs.YtnphjhbfpoekpaaGreat
set_option linter.unusedSimpArgs false
set_option linter.unusedVariables false
set_option linter.unnecessarySimpa false
open Go.RowKit
theorem ints_snoc9 (L : List Int) (x : Int) : ints (L ++ [x]) = ints L ++ [.int .i64 x] := by simp [ints]
structure OI (w wr : World) (Y : Value) (l : Nat) (L : List Int) : Prop where
 own : wr.ownsRow w.heap.size 3 1 Y l (ints L)
 bel : Below w.heap.size w wr
 len : L.length = l
theorem OI.step {w wr w' : World} {Y : Value} {l : Nat} {L : List Int} (h : OI w wr Y l L) (hb : Below wr.heap.size wr w') : OI w w' Y l L := ⟨zAe h.own hb, zAc h.bel hb, h.len⟩
theorem OI.put {w wr w' : World} {Y Y' : Value} {l : Nat} {L : List Int} {x : Int} (h : OI w wr Y l L) (ho : w'.ownsRow w.heap.size 3 1 Y' (l + 1) (ints L ++ [.int .i64 x])) (hg : wr.grownBy w' Y.ownBlock) : OI w w' Y' (l + 1) (L ++ [x]) :=
 ⟨by rw [ints_snoc9]; exact ho, Below.grown h.bel hg h.bel.size (fun k hk => own_ge h.own k hk), by rw [List.length_append, h.len]; rfl⟩
theorem asc_snoc {l : List Int} {k : Nat} {a b : Int} (h : (l.take (k + 1)).Pairwise (· < ·)) (ha : l[k]? = some a) (hb : l[k + 1]? = some b) (hab : a < b) : (l.take (k + 2)).Pairwise (· < ·) := by
 rw [take_snoc' hb, List.pairwise_append]
 refine ⟨h, by simp, fun x hx y hy => ?_⟩
 simp at hy; subst hy
 rw [take_snoc' ha, List.mem_append] at hx
 rw [take_snoc' ha, List.pairwise_append] at h
 rcases hx with hx | hx
 ·have := h.2.2 x hx a (by simp); omega
 ·simp at hx; subst hx; exact hab
theorem asc_no {l : List Int} {k : Nat} {a b : Int} (ha : l[k]? = some a) (hb : l[k + 1]? = some b) (hab : ¬ a < b) : ascB l = false := by
 unfold ascB
 rw [decide_eq_false]
 intro h
 rw [List.pairwise_iff_getElem] at h
 have h1 := (List.getElem?_eq_some_iff.1 ha)
 have h2 := (List.getElem?_eq_some_iff.1 hb)
 have := h k (k + 1) h1.1 h2.1 (by omega)
 rw [h1.2, h2.2] at this
 exact hab this
structure CS (w wr : World) (b : Nat) (P Q : Value) (M : Value) (mine : List Int) (O : Value) (ol : Nat) (out : List Int) (T : Value) (tl : Nat) (tk : List Int) : Prop where
 bx : wr.heap[b]? = some (.cells #[P, Q] 26 (0, 0))
 mine : wr.ownsRow w.heap.size 3 1 M mine.length (ints mine)
 out : wr.ownsRow w.heap.size 3 1 O ol (ints out)
 taken : wr.ownsRow w.heap.size 3 1 T tl (ints tk)
 apO : ∀ k, T.ownBlock = some k → O.ownBlock ≠ some k
 apM : ∀ k, T.ownBlock = some k → M.ownBlock ≠ some k
 bel : Below w.heap.size w wr
theorem own_blkn9 {w : World} {lo : Nat} {e : TypeId} {size : Nat} {v : Value} {n : Nat} {xs : List Value} (h : w.ownsRow lo e size v n xs) : ∀ k, v.ownBlock = some k → k < w.heap.size := by
 intro k hk
 rcases h.2 with ⟨h0, _⟩ | ⟨g, cap, cur, hv, hg, hh, _⟩
 ·subst h0; cases hk
 ·subst hv; cases hk; exact zAf hh
theorem CS.step {w wr w' : World} {b : Nat} {P Q M O T : Value} {mine out tk : List Int} {ol tl : Nat} (h : CS w wr b P Q M mine O ol out T tl tk) (hb : Below wr.heap.size wr w') : CS w w' b P Q M mine O ol out T tl tk :=
 ⟨zAg h.bx hb, zAe h.mine hb, zAe h.out hb, zAe h.taken hb, h.apO, h.apM, zAc h.bel hb⟩
end Go.Proofs.YtnphjhbfpoekpaaGreat
namespace Go.Proofs
open Go.Shelf
end Go.Proofs
