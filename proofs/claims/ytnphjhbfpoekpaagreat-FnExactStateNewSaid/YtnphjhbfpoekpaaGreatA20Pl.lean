import Derived.Test.YtnphjhbfpoekpaaGreatA13Pl
import Derived.Test.YtnphjhbfpoekpaaGreatA7Pl
import Derived.Test.YtnphjhbfpoekpaaGreatA8Pl
import Derived.Deep.RegionHeld3
import Derived.Deep.QuietTactic
import Derived.BigQuiet
import Derived.Deep.AppendLies
import Derived.Test.YtnphjhbfpoekpaaGreatA5Pl
import Derived.Test.YtnphjhbfpoekpaaGreatApPl
import Derived.Test.YtnphjhbfpoekpaaGreatProg
import Derived.Shelf.SlGeneric
import Derived.Ground.SlgmProg
import Derived.Ground.SlgnProg
import Derived.Ground.SlsfProg
import Derived.Ground.NamesProg
import Derived.Shelf.SlSortCmp.Whole1
import Derived.Test.YtnphjhbfpoekpaaGreatA19Pl
import Derived.Test.YtnphjhbfpoekpaaGreatA22Pl
namespace Go.Proofs.YtnphjhbfpoekpaaGreat
set_option linter.unusedSimpArgs false
set_option linter.unusedVariables false
set_option linter.unnecessarySimpa false
open Go.RowKit
theorem ints_snoc9 (L : List Int) (x : Int) : ints (L ++ [x]) = ints L ++ [.int .i64 x] := by simp [ints]
structure OI (w wr : World) (Y : Value) (l : Nat) (L : List Int) : Prop where
 own : wr.ownsRow w.heap.size 3 1 Y l (ints L)
 bel : Below w.heap.size w wr
 len : L.length = l
theorem OI.step {w wr w' : World} {Y : Value} {l : Nat} {L : List Int} (h : OI w wr Y l L) (hb : Below wr.heap.size wr w') : OI w w' Y l L := ⟨zAe h.own hb, zAc h.bel hb, h.len⟩
theorem OI.put {w wr w' : World} {Y Y' : Value} {l : Nat} {L : List Int} {x : Int} (h : OI w wr Y l L) (ho : w'.ownsRow w.heap.size 3 1 Y' (l + 1) (ints L ++ [.int .i64 x])) (hg : wr.grownBy w' Y.ownBlock) : OI w w' Y' (l + 1) (L ++ [x]) :=
 ⟨by rw [ints_snoc9]; exact ho, Below.grown h.bel hg h.bel.size (fun k hk => own_ge h.own k hk), by rw [List.length_append, h.len]; rfl⟩
theorem asc_snoc {l : List Int} {k : Nat} {a b : Int} (h : (l.take (k + 1)).Pairwise (· < ·)) (ha : l[k]? = some a) (hb : l[k + 1]? = some b) (hab : a < b) : (l.take (k + 2)).Pairwise (· < ·) := by
 rw [take_snoc' hb, List.pairwise_append]
 refine ⟨h, by simp, fun x hx y hy => ?_⟩
 simp at hy; subst hy
 rw [take_snoc' ha, List.mem_append] at hx
 rw [take_snoc' ha, List.pairwise_append] at h
 rcases hx with hx | hx
 ·have := h.2.2 x hx a (by simp); omega
 ·simp at hx; subst hx; exact hab
theorem asc_no {l : List Int} {k : Nat} {a b : Int} (ha : l[k]? = some a) (hb : l[k + 1]? = some b) (hab : ¬ a < b) : ascB l = false := by
 unfold ascB
 rw [decide_eq_false]
 intro h
 rw [List.pairwise_iff_getElem] at h
 have h1 := (List.getElem?_eq_some_iff.1 ha)
 have h2 := (List.getElem?_eq_some_iff.1 hb)
 have := h k (k + 1) h1.1 h2.1 (by omega)
 rw [h1.2, h2.2] at this
 exact hab this
structure CS (w wr : World) (b : Nat) (P Q : Value) (M : Value) (mine : List Int) (O : Value) (ol : Nat) (out : List Int) (T : Value) (tl : Nat) (tk : List Int) : Prop where
 bx : wr.heap[b]? = some (.cells #[P, Q] 26 (0, 0))
 mine : wr.ownsRow w.heap.size 3 1 M mine.length (ints mine)
 out : wr.ownsRow w.heap.size 3 1 O ol (ints out)
 taken : wr.ownsRow w.heap.size 3 1 T tl (ints tk)
 apO : ∀ k, T.ownBlock = some k → O.ownBlock ≠ some k
 apM : ∀ k, T.ownBlock = some k → M.ownBlock ≠ some k
 bel : Below w.heap.size w wr
theorem own_blkn9 {w : World} {lo : Nat} {e : TypeId} {size : Nat} {v : Value} {n : Nat} {xs : List Value} (h : w.ownsRow lo e size v n xs) : ∀ k, v.ownBlock = some k → k < w.heap.size := by
 intro k hk
 rcases h.2 with ⟨h0, _⟩ | ⟨g, cap, cur, hv, hg, hh, _⟩
 ·subst h0; cases hk
 ·subst hv; cases hk; exact zAf hh
theorem CS.step {w wr w' : World} {b : Nat} {P Q M O T : Value} {mine out tk : List Int} {ol tl : Nat} (h : CS w wr b P Q M mine O ol out T tl tk) (hb : Below wr.heap.size wr w') : CS w w' b P Q M mine O ol out T tl tk :=
 ⟨zAg h.bx hb, zAe h.mine hb, zAe h.out hb, zAe h.taken hb, h.apO, h.apM, zAc h.bel hb⟩
end Go.Proofs.YtnphjhbfpoekpaaGreat
namespace Go.Proofs
open Go.Shelf
end Go.Proofs
namespace Go.Proofs.YtnphjhbfpoekpaaGreat
set_option linter.unusedSimpArgs false
set_option linter.unusedVariables false
set_option linter.unnecessarySimpa false
open Go.RowKit Go.Sort Go.Shelf Go.Lib
abbrev LA (n : Nat) : Type := { l : Nat // l < n }
def cfL (ct : Nat → Nat) (a b : Nat) : Int := if ct a = ct b then (a : Int) - b else (ct b : Int) - ct a
def befC (ct : Nat → Nat) (a b : Nat) : Prop := ct b < ct a ∨ (ct a = ct b ∧ a < b)
instance (ct : Nat → Nat) (a b : Nat) : Decidable (befC ct a b) := by unfold befC; infer_instance
theorem cfL_iff (ct : Nat → Nat) (a b : Nat) : cfL ct a b < 0 ↔ befC ct a b := by
 unfold cfL befC
 split <;> constructor <;> intro h <;> omega
theorem ltL (ct : Nat → Nat) {n : Nat} (x y : LA n) : ltOf (fun a b : LA n => cfL ct a.1 b.1) x y = decide (befC ct x.1 y.1) := decide_eq_decide.2 (cfL_iff ct x.1 y.1)
structure C1 (w wr : World) (b : Nat) (P Q : Value) (M : Value) (mine : List Int) (gm bm cm n : Nat) (cs : List Int) (T : Value) (tl : Nat) (tk : List Int) : Prop where
 bx : wr.heap[b]? = some (.cells #[P, Q] 26 (0, 0))
 mb : wr.heap[bm]? = some (.cells #[.slice (some ⟨gm, 0, none⟩) n cm] 23 (0, 0))
 many : wr.ownsRow w.heap.size 3 1 (.slice (some ⟨gm, 0, none⟩) n cm) n (ints cs)
 mine : wr.ownsRow w.heap.size 3 1 M mine.length (ints mine)
 lv : wr.ownsRow w.heap.size 3 1 T tl (ints tk)
 a1 : M.ownBlock ≠ some gm
 a2 : T.ownBlock ≠ some gm
 a3 : ∀ k, T.ownBlock = some k → M.ownBlock ≠ some k
 bel : Below w.heap.size w wr
theorem C1.step {w wr w' : World} {b gm bm cm n tl : Nat} {P Q M T : Value} {mine cs tk : List Int} (h : C1 w wr b P Q M mine gm bm cm n cs T tl tk) (hb : Below wr.heap.size wr w') : C1 w w' b P Q M mine gm bm cm n cs T tl tk :=
 ⟨zAg h.bx hb, zAg h.mb hb, zAe h.many hb, zAe h.mine hb, zAe h.lv hb, h.a1, h.a2, h.a3, zAc h.bel hb⟩
theorem C1.put {w wr : World} {b gm bm cm n tl i : Nat} {P Q M T : Value} {mine cs cs' tk : List Int} {u : Value} (h : C1 w wr b P Q M mine gm bm cm n cs T tl tk) (hi : i < n) (he : (ints cs).set i u = ints cs') : C1 w (wr.setCell ⟨gm, i, none⟩ u) b P Q M mine gm bm cm n cs' T tl tk :=
 ⟨bx_set h.bx (fun e => zAm h.many h.bx (by decide) gm rfl e.symm) _, bx_set h.mb (fun e => zAm h.many h.mb (by decide) gm rfl e.symm) _, by rw [← he]; exact own_put h.many (by omega), zAo h.mine (fun k hk e => h.a1 (by rw [hk, e])) _, zAo h.lv (fun k hk e => h.a2 (by rw [hk, e])) _, h.a1, h.a2, h.a3, h.bel.setCell (own_ge h.many gm rfl) _⟩
theorem C1.app {w wr w' : World} {b gm bm cm n tl g cap : Nat} {P Q M T : Value} {mine cs tk : List Int} {x : Int} (h : C1 w wr b P Q M mine gm bm cm n cs T tl tk)
  (ho : w'.ownsRow w.heap.size 3 1 (.slice (some ⟨g, 0, none⟩) (tl + 1) cap) (tl + 1) (ints tk ++ [.int .i64 x])) (hg : wr.grownBy w' T.ownBlock) (hat : T.ownBlock = some g ∨ g = wr.heap.size) :
  C1 w w' b P Q M mine gm bm cm n cs (.slice (some ⟨g, 0, none⟩) (tl + 1) cap) (tl + 1) (tk ++ [x]) := by
 refine ⟨zAr h.bx hg (zAm h.lv h.bx (by decide)), zAr h.mb hg (zAm h.lv h.mb (by decide)), own_grown h.many hg (fun k hk e => by cases hk; exact h.a2 e), own_grown h.mine hg (fun k hk e => h.a3 k e hk), by rw [ints_snoc9]; exact ho, h.a1, ?_, ?_, Below.grown h.bel hg h.bel.size (fun k hk => own_ge h.lv k hk)⟩
 ·intro e
  have e := Option.some.inj e
  rcases hat with h1 | h1
  ·exact h.a2 (by rw [h1]; exact congrArg some e)
  ·have := own_blkn9 h.many gm rfl; simp at e; omega
 ·rintro k hk e
  cases hk
  rcases hat with h1 | h1
  ·exact h.a3 g h1 e
  ·have := own_blkn9 h.mine g e; omega
structure C2 (w wr : World) (b : Nat) (P Q : Value) (M : Value) (mine : List Int) (T : Value) (tl : Nat) (tk : List Int) (O : Value) (ol : Nat) (out : List Int) : Prop where
 bx : wr.heap[b]? = some (.cells #[P, Q] 26 (0, 0))
 mine : wr.ownsRow w.heap.size 3 1 M mine.length (ints mine)
 lv : wr.ownsRow w.heap.size 3 1 T tl (ints tk)
 out : wr.ownsRow w.heap.size 3 1 O ol (ints out)
 a1 : ∀ k, O.ownBlock = some k → M.ownBlock ≠ some k
 a2 : ∀ k, O.ownBlock = some k → T.ownBlock ≠ some k
 bel : Below w.heap.size w wr
theorem C2.step {w wr w' : World} {b tl ol : Nat} {P Q M T O : Value} {mine tk out : List Int} (h : C2 w wr b P Q M mine T tl tk O ol out) (hb : Below wr.heap.size wr w') : C2 w w' b P Q M mine T tl tk O ol out :=
 ⟨zAg h.bx hb, zAe h.mine hb, zAe h.lv hb, zAe h.out hb, h.a1, h.a2, zAc h.bel hb⟩
theorem C2.app {w wr w' : World} {b tl ol g cap : Nat} {P Q M T O : Value} {mine tk out : List Int} {x : Int} (h : C2 w wr b P Q M mine T tl tk O ol out)
  (ho : w'.ownsRow w.heap.size 3 1 (.slice (some ⟨g, 0, none⟩) (ol + 1) cap) (ol + 1) (ints out ++ [.int .i64 x])) (hg : wr.grownBy w' O.ownBlock) (hat : O.ownBlock = some g ∨ g = wr.heap.size) :
  C2 w w' b P Q M mine T tl tk (.slice (some ⟨g, 0, none⟩) (ol + 1) cap) (ol + 1) (out ++ [x]) := by
 refine ⟨zAr h.bx hg (zAm h.out h.bx (by decide)), own_grown h.mine hg (fun k hk e => h.a1 k e hk), own_grown h.lv hg (fun k hk e => h.a2 k e hk), by rw [ints_snoc9]; exact ho, ?_, ?_, Below.grown h.bel hg h.bel.size (fun k hk => own_ge h.out k hk)⟩
 ·rintro k hk e
  cases hk
  rcases hat with h1 | h1
  ·exact h.a1 g h1 e
  ·have := own_blkn9 h.mine g e; omega
 ·rintro k hk e
  cases hk
  rcases hat with h1 | h1
  ·exact h.a2 g h1 e
  ·have := own_blkn9 h.lv g e; omega
theorem areAsc_any (D : Option Addr) (k e : Nat) (nd : List Int) (w : World) (hk : k ≤ 1048576) (hd : Rd w D k 1 (ints nd)) (hl3 : ∀ g, D = some ⟨g, 0, none⟩ → g < w.heap.size) :
  Calls Tryz.prog 90 #[.slice D k e] w fun e w' => e = .returned (.bool (ascB nd)) ∧ Below w.heap.size w w' := by
 have hdl := hd.ilen
 have hk9 : k ≤ 9223372036854775807 := by omega
 have HK := Lib.hid hk
 have HD := Lib.hid hd
 have HL3 := Lib.hid hl3
 have HDL := Lib.hid hdl
 clear hk hd hl3 hdl
 go_enter Tryz.func90, Tryz.ntmps90
 go_wp2
 go_loopw [3] (fun i wr => ∃ j : Nat, 1 ≤ j ∧ (j ≤ k ∨ j = 1) ∧ i = .int .i64 j ∧ Hid ((nd.take j).Pairwise (· < ·)) ∧ Below w.heap.size w wr) (fun i _ => k + 1 - (intOf i).toNat)
 case atStart => exact ⟨1, Nat.le_refl _, Or.inr rfl, rfl, Lib.hid (by cases nd with | nil => simp | cons a r => simp), zBe⟩
 case round =>
  obtain ⟨j, hj1, hj, rfl, HASC, hbw⟩ := hrel
  have HB := Lib.hid hbw
  clear hbw
  by_cases hlt : j < k
  ·obtain ⟨m', rfl⟩ : ∃ m, j = m + 1 := ⟨j - 1, by omega⟩
   have hlt' : ((m' + 1 : Nat) : Int) < k := by omega
   obtain ⟨gD, x0, rfl, hx0, cx0⟩ := Rd.int (HD.out.below HL3.out HB.out) (show m' < k by omega)
   obtain ⟨gD', x1, hgD, hx1, cx1⟩ := Rd.int (HD.out.below HL3.out HB.out) (show m' + 1 < k by omega)
   obtain rfl : gD = gD' := by injection hgD with h1; injection h1
   have HX0 := Lib.hid hx0
   have HX1 := Lib.hid hx1
   have hm1 : (0 : Int) < (m' : Int) + 1 := by omega
   have hm4 : IntKind.i64.wrap ((m' : Int) + 1 - 1) = (m' : Int) := by rw [IntWalk.i64_in _ (by omega)]; omega
   have hm4' : IntKind.i64.wrap (m' : Int) = (m' : Int) := IntWalk.i64_in _ (by omega)
   have hm5 : (0 : Int) ≤ (m' : Int) := by omega
   have hm6 : (m' : Int) < k := by omega
   have hm7 : (m' : Int) + 1 < k := by omega
   clear hx0 hx1 hgD
   by_cases hxx : x0 < x1
   ·have hxx' : ¬ x1 ≤ x0 := by omega
    have HAS := Lib.hid (asc_snoc HASC.out HX0.out HX1.out hxx)
    go_wp2_with fail
    go_quiet (fail)
    go_wp2
    go_roundw
    case rel => exact ⟨m' + 2, by omega, by omega, by go_num, HAS, zAc HB.out (zAd _ _)⟩
    case measure => simp [intOf]; omega
   ·have hxx' : x1 ≤ x0 := by omega
    have HF := Lib.hid (asc_no HX0.out HX1.out hxx)
    go_wp2_with fail
    go_quiet (fail)
    go_wp2
    go_ret
    exact ⟨by rw [HF.out]; rfl, zAc HB.out (zAd _ _)⟩
  ·have HF : Hid (ascB nd = true) := Lib.hid (by
    have h1 := HASC.out
    rw [List.take_of_length_le (by have := HDL.out; omega)] at h1
    exact decide_eq_true h1)
   have hlt' : ¬ (j : Int) < k := by omega
   go_wp2
   go_ret
   exact ⟨by rw [HF.out]; rfl, HB.out⟩
end Go.Proofs.YtnphjhbfpoekpaaGreat
