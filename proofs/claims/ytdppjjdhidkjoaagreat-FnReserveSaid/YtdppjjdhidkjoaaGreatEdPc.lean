/-
  The earliest start (the program).
-/
import Derived.Test.YtdppjjdhidkjoaaGreatEcPc
namespace Go.Proofs.YtdppjjdhidkjoaaGreat
set_option linter.unusedSimpArgs false
set_option linter.unusedVariables false
set_option linter.unnecessarySimpa false
open Go.RowKit
structure TV (w wr : World) (rv jv : Array Value) (g cap k : Nat) (zs : List Value) (O : Value) (ol : Nat) (out : List Int) : Prop where
  row : wr.ownsRow w.heap.size 31 1 (.slice (some ⟨g, 0, none⟩) k cap) k zs
  out : wr.ownsRow w.heap.size 3 1 O ol (ints out)
  bx : wr.heap[w.heap.size]? = some (.cells rv 33 (0, 0))
  bj : wr.heap[w.heap.size + 1]? = some (.cells jv 37 (0, 0))
  bel : Below w.heap.size w wr
theorem TV.step {w wr w' : World} {rv jv : Array Value} {g cap k : Nat} {zs : List Value} {O : Value} {ol : Nat} {out : List Int} (h : TV w wr rv jv g cap k zs O ol out) (hb : Below wr.heap.size wr w') : TV w w' rv jv g cap k zs O ol out :=
  ⟨own_bel h.row hb, own_bel h.out hb, bx_below h.bx hb, bx_below h.bj hb, bstep h.bel hb⟩
theorem TV.app {w wr w' : World} {rv jv : Array Value} {g cap k : Nat} {zs : List Value} {O O' : Value} {ol : Nat} {out : List Int} {x : Int} (h : TV w wr rv jv g cap k zs O ol out) (ho : w'.ownsRow w.heap.size 3 1 O' (ol + 1) (ints out ++ [.int .i64 x])) (hg : wr.grownBy w' O.ownBlock) : TV w w' rv jv g cap k zs O' (ol + 1) (out ++ [x]) :=
  ⟨own_grown h.row hg (fun k hk => own_ap h.row h.out (by decide) k hk), by rw [ints_snoc9]; exact ho, bx_grown h.bx hg (own_ne h.out h.bx (by decide)), bx_grown h.bj hg (own_ne h.out h.bj (by decide)), Below.grown h.bel hg h.bel.size (fun k hk => own_ge h.out k hk)⟩
end Go.Proofs.YtdppjjdhidkjoaaGreat
