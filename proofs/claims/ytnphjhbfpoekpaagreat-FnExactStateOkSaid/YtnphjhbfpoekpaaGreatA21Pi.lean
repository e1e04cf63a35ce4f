import Derived.Test.YtnphjhbfpoekpaaGreatA20Pi
import Derived.Test.YtnphjhbfpoekpaaGreatA19Pi
import Derived.Deep.QuietTactic
import Derived.BigQuiet
import Derived.Test.YtnphjhbfpoekpaaGreatA22Pi
namespace Go.Proofs.YtnphjhbfpoekpaaGreat
set_option linter.unusedSimpArgs false
set_option linter.unusedVariables false
set_option linter.unnecessarySimpa false
open Go.RowKit Go.Sort Go.Shelf Go.Lib
abbrev LA (n : Nat) : Type := { l : Nat // l < n }
def cfL (ct : Nat → Nat) (a b : Nat) : Int := if ct a = ct b then (a : Int) - b else (ct b : Int) - ct a
def befC (ct : Nat → Nat) (a b : Nat) : Prop := ct b < ct a ∨ (ct a = ct b ∧ a < b)
instance (ct : Nat → Nat) (a b : Nat) : Decidable (befC ct a b) := by unfold befC; infer_instance
theorem cfL_iff (ct : Nat → Nat) (a b : Nat) : cfL ct a b < 0 ↔ befC ct a b := by
 unfold cfL befC
 split <;> constructor <;> intro h <;> omega
theorem ltL (ct : Nat → Nat) {n : Nat} (x y : LA n) : ltOf (fun a b : LA n => cfL ct a.1 b.1) x y = decide (befC ct x.1 y.1) := decide_eq_decide.2 (cfL_iff ct x.1 y.1)
structure C1 (w wr : World) (b : Nat) (P Q : Value) (M : Value) (mine : List Int) (gm bm cm n : Nat) (cs : List Int) (T : Value) (tl : Nat) (tk : List Int) : Prop where
 bx : wr.heap[b]? = some (.cells #[P, Q] 26 (0, 0))
 mb : wr.heap[bm]? = some (.cells #[.slice (some ⟨gm, 0, none⟩) n cm] 23 (0, 0))
 many : wr.ownsRow w.heap.size 3 1 (.slice (some ⟨gm, 0, none⟩) n cm) n (ints cs)
 mine : wr.ownsRow w.heap.size 3 1 M mine.length (ints mine)
 lv : wr.ownsRow w.heap.size 3 1 T tl (ints tk)
 a1 : M.ownBlock ≠ some gm
 a2 : T.ownBlock ≠ some gm
 a3 : ∀ k, T.ownBlock = some k → M.ownBlock ≠ some k
 bel : Below w.heap.size w wr
theorem C1.step {w wr w' : World} {b gm bm cm n tl : Nat} {P Q M T : Value} {mine cs tk : List Int} (h : C1 w wr b P Q M mine gm bm cm n cs T tl tk) (hb : Below wr.heap.size wr w') : C1 w w' b P Q M mine gm bm cm n cs T tl tk :=
 ⟨zAg h.bx hb, zAg h.mb hb, zAe h.many hb, zAe h.mine hb, zAe h.lv hb, h.a1, h.a2, h.a3, zAc h.bel hb⟩
theorem C1.put {w wr : World} {b gm bm cm n tl i : Nat} {P Q M T : Value} {mine cs cs' tk : List Int} {u : Value} (h : C1 w wr b P Q M mine gm bm cm n cs T tl tk) (hi : i < n) (he : (ints cs).set i u = ints cs') : C1 w (wr.setCell ⟨gm, i, none⟩ u) b P Q M mine gm bm cm n cs' T tl tk :=
 ⟨bx_set h.bx (fun e => zAo h.many h.bx (by decide) gm rfl e.symm) _, bx_set h.mb (fun e => zAo h.many h.mb (by decide) gm rfl e.symm) _, by rw [← he]; exact own_put h.many (by omega), zAp h.mine (fun k hk e => h.a1 (by rw [hk, e])) _, zAp h.lv (fun k hk e => h.a2 (by rw [hk, e])) _, h.a1, h.a2, h.a3, h.bel.setCell (own_ge h.many gm rfl) _⟩
theorem C1.app {w wr w' : World} {b gm bm cm n tl g cap : Nat} {P Q M T : Value} {mine cs tk : List Int} {x : Int} (h : C1 w wr b P Q M mine gm bm cm n cs T tl tk)
  (ho : w'.ownsRow w.heap.size 3 1 (.slice (some ⟨g, 0, none⟩) (tl + 1) cap) (tl + 1) (ints tk ++ [.int .i64 x])) (hg : wr.grownBy w' T.ownBlock) (hat : T.ownBlock = some g ∨ g = wr.heap.size) :
  C1 w w' b P Q M mine gm bm cm n cs (.slice (some ⟨g, 0, none⟩) (tl + 1) cap) (tl + 1) (tk ++ [x]) := by
 refine ⟨zAq h.bx hg (zAo h.lv h.bx (by decide)), zAq h.mb hg (zAo h.lv h.mb (by decide)), own_grown h.many hg (fun k hk e => by cases hk; exact h.a2 e), own_grown h.mine hg (fun k hk e => h.a3 k e hk), by rw [ints_snoc9]; exact ho, h.a1, ?_, ?_, Below.grown h.bel hg h.bel.size (fun k hk => own_ge h.lv k hk)⟩
 ·intro e
  have e := Option.some.inj e
  rcases hat with h1 | h1
  ·exact h.a2 (by rw [h1]; exact congrArg some e)
  ·have := own_blkn9 h.many gm rfl; simp at e; omega
 ·rintro k hk e
  cases hk
  rcases hat with h1 | h1
  ·exact h.a3 g h1 e
  ·have := own_blkn9 h.mine g e; omega
structure C2 (w wr : World) (b : Nat) (P Q : Value) (M : Value) (mine : List Int) (T : Value) (tl : Nat) (tk : List Int) (O : Value) (ol : Nat) (out : List Int) : Prop where
 bx : wr.heap[b]? = some (.cells #[P, Q] 26 (0, 0))
 mine : wr.ownsRow w.heap.size 3 1 M mine.length (ints mine)
 lv : wr.ownsRow w.heap.size 3 1 T tl (ints tk)
 out : wr.ownsRow w.heap.size 3 1 O ol (ints out)
 a1 : ∀ k, O.ownBlock = some k → M.ownBlock ≠ some k
 a2 : ∀ k, O.ownBlock = some k → T.ownBlock ≠ some k
 bel : Below w.heap.size w wr
theorem C2.step {w wr w' : World} {b tl ol : Nat} {P Q M T O : Value} {mine tk out : List Int} (h : C2 w wr b P Q M mine T tl tk O ol out) (hb : Below wr.heap.size wr w') : C2 w w' b P Q M mine T tl tk O ol out :=
 ⟨zAg h.bx hb, zAe h.mine hb, zAe h.lv hb, zAe h.out hb, h.a1, h.a2, zAc h.bel hb⟩
theorem C2.app {w wr w' : World} {b tl ol g cap : Nat} {P Q M T O : Value} {mine tk out : List Int} {x : Int} (h : C2 w wr b P Q M mine T tl tk O ol out)
  (ho : w'.ownsRow w.heap.size 3 1 (.slice (some ⟨g, 0, none⟩) (ol + 1) cap) (ol + 1) (ints out ++ [.int .i64 x])) (hg : wr.grownBy w' O.ownBlock) (hat : O.ownBlock = some g ∨ g = wr.heap.size) :
  C2 w w' b P Q M mine T tl tk (.slice (some ⟨g, 0, none⟩) (ol + 1) cap) (ol + 1) (out ++ [x]) := by
 refine ⟨zAq h.bx hg (zAo h.out h.bx (by decide)), own_grown h.mine hg (fun k hk e => h.a1 k e hk), own_grown h.lv hg (fun k hk e => h.a2 k e hk), by rw [ints_snoc9]; exact ho, ?_, ?_, Below.grown h.bel hg h.bel.size (fun k hk => own_ge h.out k hk)⟩
 ·rintro k hk e
  cases hk
  rcases hat with h1 | h1
  ·exact h.a1 g h1 e
  ·have := own_blkn9 h.mine g e; omega
 ·rintro k hk e
  cases hk
  rcases hat with h1 | h1
  ·exact h.a2 g h1 e
  ·have := own_blkn9 h.lv g e; omega
end Go.Proofs.YtnphjhbfpoekpaaGreat
