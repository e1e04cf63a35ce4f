import Derived.Test.YtnphjhbfpoekpaaGreatA20Ph
import Derived.Test.YtnphjhbfpoekpaaGreatA19Ph
import Derived.Test.YtnphjhbfpoekpaaGreatSfPh
import Derived.Deep.QuietTactic
import Derived.BigQuiet
import Derived.Test.YtnphjhbfpoekpaaGreatEaPh
namespace Go.Proofs.YtnphjhbfpoekpaaGreat
set_option linter.unusedSimpArgs false
set_option linter.unusedVariables false
set_option linter.unnecessarySimpa false
open Go.RowKit Go.Sort Go.Shelf Go.Lib
abbrev LA (n : Nat) : Type := { l : Nat // l < n }
def encL {n : Nat} (l : LA n) : Value := .int .i64 (l.1 : Int)
def cfL (ct : Nat → Nat) (a b : Nat) : Int := if ct a = ct b then (a : Int) - b else (ct b : Int) - ct a
def befC (ct : Nat → Nat) (a b : Nat) : Prop := ct b < ct a ∨ (ct a = ct b ∧ a < b)
instance (ct : Nat → Nat) (a b : Nat) : Decidable (befC ct a b) := by unfold befC; infer_instance
theorem cfL_iff (ct : Nat → Nat) (a b : Nat) : cfL ct a b < 0 ↔ befC ct a b := by
 unfold cfL befC
 split <;> constructor <;> intro h <;> omega
theorem ltL (ct : Nat → Nat) {n : Nat} (x y : LA n) : ltOf (fun a b : LA n => cfL ct a.1 b.1) x y = decide (befC ct x.1 y.1) := decide_eq_decide.2 (cfL_iff ct x.1 y.1)
theorem swoL (ct : Nat → Nat) (n : Nat) : SWO (ltOf (fun a b : LA n => cfL ct a.1 b.1)) where
 irrefl x := by rw [ltL]; apply decide_eq_false; unfold befC; omega
 trans x y z h1 h2 := by
  rw [ltL] at *
  have h1 := of_decide_eq_true h1
  have h2 := of_decide_eq_true h2
  apply decide_eq_true
  unfold befC at *; omega
 ntrans x y z h1 h2 := by
  rw [ltL] at *
  have h1 := of_decide_eq_false h1
  have h2 := of_decide_eq_false h2
  apply decide_eq_false
  unfold befC at *; omega
theorem putRow_map {α : Type} [Inhabited α] (f : α → Int) (W : World) (b off : Nat) (d : Array α) : putRow (fun a => Value.int .i64 (f a)) W b off d = putRow (Value.int .i64) W b off (d.map f) := by
 unfold putRow
 congr 1
 funext c
 unfold putCells
 apply Array.ext_getElem?
 intro k
 simp only [Array.getElem?_mapIdx, Array.size_map]
 cases c[k]? with
 | none => rfl
 | some y =>
  simp only [Option.map_some]
  by_cases hr : off ≤ k ∧ k < off + d.size
  ·rw [if_pos hr, if_pos hr, getElem!_pos d (k - off) (by omega), getElem!_pos (d.map f) (k - off) (by simp; omega)]
   simp
  ·rw [if_neg hr, if_neg hr]
theorem lift_LA {n : Nat} : ∀ (L : List Nat), (∀ l ∈ L, l < n) → ∃ d : List (LA n), d.map (fun a => a.1) = L
 | [], _ => ⟨[], rfl⟩
 | l :: r, h => by
  obtain ⟨d, hd⟩ := lift_LA r (fun x hx => h x (List.mem_cons_of_mem _ hx))
  exact ⟨Subtype.mk l (h l List.mem_cons_self) :: d, congrArg (List.cons l) hd⟩
set_option maxHeartbeats 2000000 in
theorem closC_any (n gm bm cm lo : Nat) (cs : List Int) (ct : Nat → Nat) (x y : Nat) (w : World) (hx : x < n) (hy : y < n) (hn : n ≤ 1048576) (hb : w.heap[bm]? = some (.cells #[.slice (some ⟨gm, 0, none⟩) n cm] 23 (0, 0)))
  (hm : w.ownsRow lo 3 1 (.slice (some ⟨gm, 0, none⟩) n cm) n (ints cs)) (hcs : ∀ l, l < n → cs[l]? = some ((ct l : Nat) : Int)) (hct : ∀ l, ct l ≤ 1048576) :
  Calls Tryz.prog 201 #[.int .i64 (x : Int), .int .i64 (y : Int), .pointer (some ⟨bm, 0, none⟩)] w fun e w' => e = .returned (.int .i64 (cfL ct x y)) ∧ ∃ q os', w' = grow (w.drewN q) os' := by
 have e0 := zAb hb 0 rfl
 simp only [zgc, zga] at e0
 obtain ⟨g1, z1, hg1, hz1, c1⟩ := Rd.int (zAn hm) hx
 obtain ⟨g2, z2, hg2, hz2, c2⟩ := Rd.int (zAn hm) hy
 cases hg1
 cases hg2
 have e1 := hcs x hx
 have e2 := hcs y hy
 rw [hz1] at e1
 rw [hz2] at e2
 obtain rfl : z1 = (ct x : Int) := by injection e1
 obtain rfl : z2 = (ct y : Int) := by injection e2
 have b1 := hct x
 have b2 := hct y
 have hx' : (x : Int) < n := by omega
 have hy' : (y : Int) < n := by omega
 have wr1 : IntKind.i64.wrap ((ct y : Int) - ct x) = (ct y : Int) - ct x := IntWalk.i64_in _ (by omega)
 have wr2 : IntKind.i64.wrap ((x : Int) - y) = (x : Int) - y := IntWalk.i64_in _ (by omega)
 clear e1 e2 hz1 hz2 hcs hct hm hb
 unfold cfL
 by_cases h : ct x = ct y
 ·rw [if_pos h]
  have h' : (ct x : Int) = ct y := by omega
  go_enter Tryz.func201, Tryz.ntmps201
  go_wp2_with fail
  go_quiet (fail)
  go_wp2
  go_ret
  exact ⟨rfl, _, #[], (grow_empty _).symm⟩
 ·rw [if_neg h]
  have h' : ¬ (ct x : Int) = ct y := by omega
  go_enter Tryz.func201, Tryz.ntmps201
  go_wp2_with fail
  go_quiet (fail)
  go_wp2_with fail
  go_quiet (fail)
  go_wp2
  go_ret
  have hw : ∀ a b, (w.drewN a).drewN b = grow (w.drewN (a + b)) #[] := fun a b => by rw [grow_empty, World.drewN_drewN]
  exact ⟨rfl, _, #[], hw _ _⟩
theorem sortL_own {n lo lo2 g cap gm bm cm k : Nat} {L0 : List Nat} {cs : List Int} {ct : Nat → Nat} {w : World} (h1 : 1 ≤ n) (hn : n ≤ 1048576) (hk : L0.length = k) (hk2 : k ≤ 1048576) (h : w.ownsRow lo 3 1 (.slice (some ⟨g, 0, none⟩) k cap) k (ints (preI L0)))
  (hb : w.heap[bm]? = some (.cells #[.slice (some ⟨gm, 0, none⟩) n cm] 23 (0, 0))) (hm : w.ownsRow lo2 3 1 (.slice (some ⟨gm, 0, none⟩) n cm) n (ints cs)) (hne : gm ≠ g)
  (hcs : ∀ l, l < n → cs[l]? = some ((ct l : Nat) : Int)) (hct : ∀ l, ct l ≤ 1048576) (hL : ∀ l ∈ L0, l < n) :
  Calls Tryz.prog 200 #[.slice (some ⟨g, 0, none⟩) k cap, .func (.func 201) #[] #[.pointer (some ⟨bm, 0, none⟩)]] w fun e w' =>
   e = .returned (.tuple #[]) ∧ ∃ L : List Nat, L.Perm L0 ∧ (L.Pairwise fun a b => ¬ befC ct b a) ∧ w'.ownsRow lo 3 1 (.slice (some ⟨g, 0, none⟩) k cap) k (ints (preI L)) ∧ w.grownBy w' (some g) := by
 haveI : Inhabited (LA n) := ⟨⟨0, h1⟩⟩
 obtain ⟨d0, hd0⟩ := lift_LA L0 hL
 obtain ⟨d, hd⟩ : ∃ d : Array (LA n), d = d0.toArray := ⟨_, rfl⟩
 have hds : d.size = k := by rw [hd]; simp; rw [← hk, ← hd0]; simp
 have hdm : (d.map fun a => (a.1 : Int)).toList = preI L0 := by rw [hd, ← hd0]; simp [preI]
 have hH : Holds (encL (n := n)) w g 0 d := by
  have h9 := holds_own h
  intro j hj
  have hj2 : j < (preI L0).toArray.size := by rw [List.size_toArray, preI_len]; omega
  obtain ⟨a1, a2⟩ := h9 j hj2
  refine ⟨?_, a2⟩
  rw [a1, getElem!_pos _ j hj2, getElem!_pos d j hj]
  have e1 : (preI L0)[j]? = some ((d[j].1 : Nat) : Int) := by
   rw [← hdm, Array.getElem?_toList, Array.getElem?_map, Array.getElem?_eq_getElem hj]; rfl
  have e2 := (List.getElem?_eq_some_iff.1 e1).2
  simp only [zgc]
  rw [e2]; rfl
 have eg : ∀ args w, (callFunc 201 args).run Tryz.prog w = .ok (.enter 201 args) w := enters_of Tryz.func201 (by kernel_rfl) rfl
 have hc := Any.slices_SortFunc Tryz.sortF (encL (n := n)) (fun _ => rfl) (fun a b : LA n => cfL ct a.1 b.1) (swoL ct n) 201 #[.pointer (some ⟨bm, 0, none⟩)] g 0 cap d w eg (fun m os dk _ x y => by
  have hg : w.grownBy (sortWorld (encL (n := n)) w g 0 m dk os) (some g) := by
   unfold sortWorld
   rw [show (encL (n := n)) = (fun a : LA n => Value.int .i64 ((fun a : LA n => (a.1 : Int)) a)) from rfl, putRow_map]
   exact grownBy_sortedI _
  exact closC_any n gm bm cm lo2 cs ct x.1 y.1 _ x.2 y.2 hn (zAp hb hg (fun j hj => by cases hj; exact zAk h hb (by decide) g rfl)) (zAx hm hg (fun j hj e => by cases hj; cases e; exact hne rfl)) hcs hct) hH (zAz h g rfl) (by omega)
 change Calls Tryz.prog 200 _ _ _ at hc
 rw [hds] at hc
 refine hc.mono ?_
 rintro e w' ⟨rfl, d', q, os, hp, hs, hw⟩
 have hds' : d'.size = k := by rw [hp.1]; exact hds
 have hw2 : w' = grow (putRow (Value.int .i64) (Sort.ahead w q) g 0 (d'.map fun a => (a.1 : Int))) os := by
  rw [hw]; unfold sortWorld
  rw [show (encL (n := n)) = (fun a : LA n => Value.int .i64 ((fun a : LA n => (a.1 : Int)) a)) from rfl, putRow_map]
 have hpl : preI (d'.toList.map fun a => a.1) = (d'.map fun a => (a.1 : Int)).toList := by simp [preI]
 refine ⟨rfl, d'.toList.map (fun a => a.1), ?_, ?_, ?_, by rw [hw2]; exact grownBy_sortedI _⟩
 ·have h2 := hp.2.2
  have e1 : (d'.extract 0 k) = d' := by rw [← hds']; simp
  have e2 : (d.extract 0 k) = d := by rw [← hds]; simp
  rw [e1, e2] at h2
  have := h2.map (fun a => a.1)
  rw [hd] at this
  rw [← hd0]
  simpa using this
 ·rw [List.pairwise_map, List.pairwise_iff_getElem]
  intro i j hi hj hij
  have hi' : i < d'.size := by simpa using hi
  have hj' : j < d'.size := by simpa using hj
  have h2 := hs i j (Nat.zero_le _) hij (by omega)
  rw [ltL, getElem!_pos d' j hj', getElem!_pos d' i hi'] at h2
  exact of_decide_eq_false h2
 ·rw [hw2, hpl]
  rcases h.2 with ⟨h0, _⟩ | ⟨g', cap', cur, hv, hg, hh, hn', hm', hs', ht⟩
  ·cases h0
  ·cases hv
   have hlen : (preI L0).length = k := by rw [preI_len]; exact hk
   have hlen2 : (d'.map fun a => (a.1 : Int)).toList.length = (preI L0).length := by simp [hds', hlen]
   have := ownsRow_sortedI (w := w) (base := lo) (g := g) (cap := cap) (n := q) (e := 3) (os := os) (cur := cur) (ss := preI L0) (ts := (d'.map fun a => (a.1 : Int)).toList) hlen2 hg hh (by omega) hm' hs'
   rw [hlen, Array.toArray_toList] at this
   exact this
def cntsL (lf : Int → Nat) (M : List Int) (n : Nat) : List Int := (List.range n).map fun l => ((cnt lf M l : Nat) : Int)
theorem cnts_at {lf : Int → Nat} {M : List Int} {n l : Nat} (h : l < n) : (cntsL lf M n)[l]? = some ((cnt lf M l : Nat) : Int) := by
 unfold cntsL; rw [List.getElem?_map, List.getElem?_range h]; rfl
theorem cnts_len (lf : Int → Nat) (M : List Int) (n : Nat) : (cntsL lf M n).length = n := by simp [cntsL]
theorem cnt_snoc (lf : Int → Nat) (M : List Int) (x : Int) (l : Nat) : cnt lf (M ++ [x]) l = if lf x = l then cnt lf M l + 1 else cnt lf M l := by
 unfold cnt group
 rw [List.filter_append]
 by_cases h : lf x = l <;> simp [h]
theorem cnts_snoc {lf : Int → Nat} {M : List Int} {x : Int} {n l : Nat} (hx : lf x = l) (h : l < n) : (ints (cntsL lf M n)).set l (.int .i64 ((cnt lf M l : Int) + 1)) = ints (cntsL lf (M ++ [x]) n) := by
 apply List.ext_getElem?
 intro j
 unfold ints
 rw [List.getElem?_set]
 by_cases hj : j < n
 ·rw [List.getElem?_map, List.getElem?_map, cnts_at hj, cnts_at hj]
  simp only [Option.map_some, List.length_map, cnts_len]
  rw [cnt_snoc]
  by_cases e : l = j
  ·subst e
   rw [if_pos rfl, if_pos h, if_pos hx]; simp
  ·rw [if_neg e, if_neg (by omega)]
 ·rw [if_neg (by omega), List.getElem?_eq_none (by simp [cnts_len]; omega), List.getElem?_eq_none (by simp [cnts_len]; omega)]
theorem cnts_nil (lf : Int → Nat) (n : Nat) : ints (cntsL lf [] n) = List.replicate n (.int .i64 0) := by
 unfold ints cntsL cnt group
 rw [List.map_map]
 apply List.ext_getElem?
 intro j
 by_cases hj : j < n
 ·simp [List.getElem?_replicate, hj]
 ·rw [List.getElem?_eq_none (by simp; omega), List.getElem?_eq_none (by simp; omega)]
theorem cnt_le (lf : Int → Nat) (M : List Int) (l : Nat) : cnt lf M l ≤ M.length := List.length_filter_le _ _
theorem dist_snoc (lf : Int → Nat) (M : List Int) (x : Int) : dist lf (M ++ [x]) = distF lf (dist lf M) x := by unfold dist; rw [List.foldl_append]; rfl
theorem dist_yes {lf : Int → Nat} {M : List Int} {x : Int} (h : lf x ∈ dist lf M) : dist lf (M ++ [x]) = dist lf M := by rw [dist_snoc]; exact if_pos h
theorem dist_no {lf : Int → Nat} {M : List Int} {x : Int} (h : lf x ∉ dist lf M) : dist lf (M ++ [x]) = dist lf M ++ [lf x] := by rw [dist_snoc]; exact if_neg h
theorem group_snoc (lf : Int → Nat) (M : List Int) (x : Int) (l : Nat) : group lf (M ++ [x]) l = if lf x = l then group lf M l ++ [x] else group lf M l := by
 unfold group
 rw [List.filter_append]
 by_cases h : lf x = l <;> simp [h]
theorem chooseV_none {ps : List Int} {ns : List Q} {nd : List Int} {q : Nat} {most : Int} (h : bestN ps ns nd q most ps.length = -1) : (chooseV ps ns nd q most).isSome = false ∧ (chooseV ps ns nd q most).getD [] = [] := by
 have e : chooseV ps ns nd q most = none := by unfold chooseV; rw [h]; rfl
 rw [e]; exact ⟨rfl, rfl⟩
theorem chooseV_some {ps : List Int} {ns : List Q} {nd : List Int} {q b : Nat} {most : Int} (h : bestN ps ns nd q most ps.length = b) : (chooseV ps ns nd q most).isSome = true ∧ (chooseV ps ns nd q most).getD [] = outV (lfN ns) (undr ps ns nd b) q := by
 have e : chooseV ps ns nd q most = some (outV (lfN ns) (undr ps ns nd b) q) := by
  unfold chooseV; rw [h, if_neg (by omega), Int.toNat_natCast]
 rw [e]; exact ⟨rfl, rfl⟩
structure C1 (w wr : World) (b : Nat) (P Q : Value) (M : Value) (mine : List Int) (gm bm cm n : Nat) (cs : List Int) (T : Value) (tl : Nat) (tk : List Int) : Prop where
 bx : wr.heap[b]? = some (.cells #[P, Q] 26 (0, 0))
 mb : wr.heap[bm]? = some (.cells #[.slice (some ⟨gm, 0, none⟩) n cm] 23 (0, 0))
 many : wr.ownsRow w.heap.size 3 1 (.slice (some ⟨gm, 0, none⟩) n cm) n (ints cs)
 mine : wr.ownsRow w.heap.size 3 1 M mine.length (ints mine)
 lv : wr.ownsRow w.heap.size 3 1 T tl (ints tk)
 a1 : M.ownBlock ≠ some gm
 a2 : T.ownBlock ≠ some gm
 a3 : ∀ k, T.ownBlock = some k → M.ownBlock ≠ some k
 bel : Below w.heap.size w wr
theorem C1.step {w wr w' : World} {b gm bm cm n tl : Nat} {P Q M T : Value} {mine cs tk : List Int} (h : C1 w wr b P Q M mine gm bm cm n cs T tl tk) (hb : Below wr.heap.size wr w') : C1 w w' b P Q M mine gm bm cm n cs T tl tk :=
 ⟨zAf h.bx hb, zAf h.mb hb, zAe h.many hb, zAe h.mine hb, zAe h.lv hb, h.a1, h.a2, h.a3, zAc h.bel hb⟩
theorem C1.put {w wr : World} {b gm bm cm n tl i : Nat} {P Q M T : Value} {mine cs cs' tk : List Int} {u : Value} (h : C1 w wr b P Q M mine gm bm cm n cs T tl tk) (hi : i < n) (he : (ints cs).set i u = ints cs') : C1 w (wr.setCell ⟨gm, i, none⟩ u) b P Q M mine gm bm cm n cs' T tl tk :=
 ⟨bx_set h.bx (fun e => zAk h.many h.bx (by decide) gm rfl e.symm) _, bx_set h.mb (fun e => zAk h.many h.mb (by decide) gm rfl e.symm) _, by rw [← he]; exact own_put h.many (by omega), zAo h.mine (fun k hk e => h.a1 (by rw [hk, e])) _, zAo h.lv (fun k hk e => h.a2 (by rw [hk, e])) _, h.a1, h.a2, h.a3, h.bel.setCell (zAu h.many gm rfl) _⟩
theorem C1.app {w wr w' : World} {b gm bm cm n tl g cap : Nat} {P Q M T : Value} {mine cs tk : List Int} {x : Int} (h : C1 w wr b P Q M mine gm bm cm n cs T tl tk)
  (ho : w'.ownsRow w.heap.size 3 1 (.slice (some ⟨g, 0, none⟩) (tl + 1) cap) (tl + 1) (ints tk ++ [.int .i64 x])) (hg : wr.grownBy w' T.ownBlock) (hat : T.ownBlock = some g ∨ g = wr.heap.size) :
  C1 w w' b P Q M mine gm bm cm n cs (.slice (some ⟨g, 0, none⟩) (tl + 1) cap) (tl + 1) (tk ++ [x]) := by
 refine ⟨zAp h.bx hg (zAk h.lv h.bx (by decide)), zAp h.mb hg (zAk h.lv h.mb (by decide)), zAx h.many hg (fun k hk e => by cases hk; exact h.a2 e), zAx h.mine hg (fun k hk e => h.a3 k e hk), by rw [ints_snoc9]; exact ho, h.a1, ?_, ?_, Below.grown h.bel hg h.bel.size (fun k hk => zAu h.lv k hk)⟩
 ·intro e
  have e := Option.some.inj e
  rcases hat with h1 | h1
  ·exact h.a2 (by rw [h1]; exact congrArg some e)
  ·have := own_blkn9 h.many gm rfl; simp at e; omega
 ·rintro k hk e
  cases hk
  rcases hat with h1 | h1
  ·exact h.a3 g h1 e
  ·have := own_blkn9 h.mine g e; omega
structure C2 (w wr : World) (b : Nat) (P Q : Value) (M : Value) (mine : List Int) (T : Value) (tl : Nat) (tk : List Int) (O : Value) (ol : Nat) (out : List Int) : Prop where
 bx : wr.heap[b]? = some (.cells #[P, Q] 26 (0, 0))
 mine : wr.ownsRow w.heap.size 3 1 M mine.length (ints mine)
 lv : wr.ownsRow w.heap.size 3 1 T tl (ints tk)
 out : wr.ownsRow w.heap.size 3 1 O ol (ints out)
 a1 : ∀ k, O.ownBlock = some k → M.ownBlock ≠ some k
 a2 : ∀ k, O.ownBlock = some k → T.ownBlock ≠ some k
 bel : Below w.heap.size w wr
theorem C2.step {w wr w' : World} {b tl ol : Nat} {P Q M T O : Value} {mine tk out : List Int} (h : C2 w wr b P Q M mine T tl tk O ol out) (hb : Below wr.heap.size wr w') : C2 w w' b P Q M mine T tl tk O ol out :=
 ⟨zAf h.bx hb, zAe h.mine hb, zAe h.lv hb, zAe h.out hb, h.a1, h.a2, zAc h.bel hb⟩
theorem C2.app {w wr w' : World} {b tl ol g cap : Nat} {P Q M T O : Value} {mine tk out : List Int} {x : Int} (h : C2 w wr b P Q M mine T tl tk O ol out)
  (ho : w'.ownsRow w.heap.size 3 1 (.slice (some ⟨g, 0, none⟩) (ol + 1) cap) (ol + 1) (ints out ++ [.int .i64 x])) (hg : wr.grownBy w' O.ownBlock) (hat : O.ownBlock = some g ∨ g = wr.heap.size) :
  C2 w w' b P Q M mine T tl tk (.slice (some ⟨g, 0, none⟩) (ol + 1) cap) (ol + 1) (out ++ [x]) := by
 refine ⟨zAp h.bx hg (zAk h.out h.bx (by decide)), zAx h.mine hg (fun k hk e => h.a1 k e hk), zAx h.lv hg (fun k hk e => h.a2 k e hk), by rw [ints_snoc9]; exact ho, ?_, ?_, Below.grown h.bel hg h.bel.size (fun k hk => zAu h.out k hk)⟩
 ·rintro k hk e
  cases hk
  rcases hat with h1 | h1
  ·exact h.a1 g h1 e
  ·have := own_blkn9 h.mine g e; omega
 ·rintro k hk e
  cases hk
  rcases hat with h1 | h1
  ·exact h.a2 g h1 e
  ·have := own_blkn9 h.lv g e; omega
theorem isL_bef {lf : Int → Nat} {M : List Int} {L : List Nat} (hp : L.Perm (dist lf M)) (hs : L.Pairwise fun a b => ¬ befC (cnt lf M) b a) : IsL lf M L := isL_of hp (hs.imp fun {a b} h h2 => h h2)
theorem sort_rise {xs : List Int} (h : xs.Nodup) : sortZ xs = riseAll xs := by
 refine riseAll_uniq h (List.mergeSort_perm _ _) ?_
 have := List.pairwise_mergeSort (le := fun (x y : Int) => decide (x ≤ y)) (by intro a b c h1 h2; simp at *; omega) (by intro a b; simp; omega) xs
 exact this.imp (by intro a b h; simpa using h)
set_option maxHeartbeats 16000000 in
set_option maxRecDepth 20000 in
theorem choose_any (A B : Option Addr) (n c m d : Nat) (ps : List Int) (ns : List Q) (D : Option Addr) (k e : Nat) (nd : List Int) (q : Nat) (most : Int) (w : World) (hn : n ≤ 1048576) (hm : m ≤ 1048576) (hr : Rd w A n 1 (ints ps)) (hq : Rd w B m 4 (flat ns)) (hl : ∀ g, A = some ⟨g, 0, none⟩ → g < w.heap.size) (hl2 : ∀ g, B = some ⟨g, 0, none⟩ → g < w.heap.size) (hk : k ≤ 1048576) (hd : Rd w D k 1 (ints nd)) (hl3 : ∀ g, D = some ⟨g, 0, none⟩ → g < w.heap.size) (htp : topoOkB ps ns = true) (hnd : ∀ x ∈ nd, 0 ≤ x ∧ x < ns.length) (hnn : nd.Nodup) (hq1 : 1 ≤ q) :
  Calls Tryz.prog 142 #[.agg #[.slice A n c, .slice B m d], .slice D k e, .int .i64 q, .int .i64 most] w fun e w' => ∃ v, e = .returned (.tuple #[v, .bool (chooseV ps ns nd q most).isSome]) ∧ w'.ownsRow w.heap.size 3 1 v ((chooseV ps ns nd q most).getD []).length (ints ((chooseV ps ns nd q most).getD [])) ∧ Below w.heap.size w w' := by
 have hparok := (topo_parts htp).2.2.2.2.1
 have hev := (topo_parts htp).2.2.2.2.2.1
 have h1n : 1 ≤ n := by have := (topo_parts htp).1; have := hr.ilen; omega
 have HO := Lib.hid hparok
 have HEV := Lib.hid hev
 have HT := Lib.hid htp
 have HND := Lib.hid hnd
 have HNN := Lib.hid hnn
 clear hparok hev htp hnd hnn
 have hpl := hr.ilen
 have hql : ns.length = m := by have := hq.1; rw [flat_len] at this; omega
 have hn9 : n ≤ 9223372036854775807 := by omega
 have hm9 : m ≤ 9223372036854775807 := by omega
 have HN := Lib.hid hn
 have HM := Lib.hid hm
 have HR := Lib.hid hr
 have HQ := Lib.hid hq
 have HL := Lib.hid hl
 have HL2 := Lib.hid hl2
 have HP := Lib.hid hpl
 have HQL := Lib.hid hql
 clear hn hm hr hq hl hl2 hpl hql
 have hdl := hd.ilen
 have hk9 : k ≤ 9223372036854775807 := by omega
 have HK := Lib.hid hk
 have HD := Lib.hid hd
 have HL3 := Lib.hid hl3
 have HDL := Lib.hid hdl
 clear hk hd hl3 hdl
 go_enter Tryz.func142, Tryz.ntmps142
 go_wp2
 go_loopw [10, 11, 12, 29] (fun v10 v11 v12 i wr => ∃ (s : Nat) (bv lo : Int) (fw : Nat), s ≤ n ∧ i = .int .i64 s ∧ v10 = .int .i64 bv ∧ v11 = .int .i64 lo ∧ v12 = .int .i64 fw ∧ Hid (bv = bestN ps ns nd q most s) ∧ Hid (∀ b : Nat, bv = b → lo = lev ps b ∧ fw = (undr ps ns nd b).length) ∧ Below w.heap.size w wr ∧ wr.heap[w.heap.size]? = some (.cells #[.slice A n c, .slice B m d] 26 (0, 0))) (fun _ _ _ i _ => n - (intOf i).toNat)
 case atStart => exact ⟨0, -1, 0, 0, Nat.zero_le _, rfl, rfl, rfl, rfl, Lib.hid rfl, Lib.hid (fun b h => by omega), zBe, zAj _ (by simp)⟩
 case round =>
  obtain ⟨s, bv, lo, fw, hs, rfl, rfl, rfl, rfl, HBV, HLF, hbw, hbx⟩ := hrel
  have HB := Lib.hid hbw
  have HBX := Lib.hid hbx
  clear hbw hbx
  by_cases hlt : s < n
  ·have hlt' : (s : Int) < n := by omega
   have e0 := zAb HBX.out 0 rfl
   have e1 := zAb HBX.out 1 rfl
   simp only [zgc, zga, zgb] at e0 e1
   go_wp2_with fail
   refine (level_any A B n c m d ps s _ HN.out h1n (HR.out.below HL.out HB.out) (zAi HL.out HB.out) HO.out HEV.out hlt).mono ?_
   rintro e w1 ⟨rfl, hb1⟩
   have HB1 := Lib.hid (zAc HB.out hb1)
   have HX1 := Lib.hid (zAf HBX.out hb1)
   obtain ⟨lv, hlv⟩ : ∃ l, l = lev ps s := ⟨_, rfl⟩
   rw [← hlv]
   have HLV := Lib.hid hlv
   clear hlv hb1 e0 e1
   by_cases hm : lv ≤ most
   ·have hm' : ¬ most < lv := by omega
    have e0 := zAb HX1.out 0 rfl
    have e1 := zAb HX1.out 1 rfl
    simp only [zgc, zga, zgb] at e0 e1
    go_wp2_with fail
    refine (under_any A B n c m d ps ns D k e nd s _ HN.out HM.out (HR.out.below HL.out HB1.out) (HQ.out.below HL2.out HB1.out) (zAi HL.out HB1.out) (zAi HL2.out HB1.out) HK.out (HD.out.below HL3.out HB1.out) (zAi HL3.out HB1.out) HT.out HND.out).mono ?_
    rintro e w2 ⟨v2, rfl, own2, hb2⟩
    obtain ⟨X2, c2, rfl, _⟩ := zAq own2
    have HB2 := Lib.hid (zAc HB1.out hb2)
    have HX2 := Lib.hid (zAf HX1.out hb2)
    obtain ⟨ls, hls⟩ : ∃ l, l = (undr ps ns nd s).length := ⟨_, rfl⟩
    rw [← hls]
    have HLS := Lib.hid hls
    have hls9 : ls ≤ 1048576 := by rw [hls]; have := undr_len ps ns nd s; have := HDL.out; have := HK.out; omega
    clear hls own2 hb2 e0 e1
    by_cases hq : q ≤ ls
    ·have hq' : (q : Int) ≤ ls := by omega
     have HG : Hid (goodB ps ns nd q most s) := Lib.hid ⟨by rw [← HLV.out]; exact hm, by rw [← HLS.out]; exact hq⟩
     have HNEW : Hid (∀ b : Nat, (s : Int) = b → lv = lev ps b ∧ ls = (undr ps ns nd b).length) := Lib.hid (fun b h => by
      have : s = b := by omega
      subst this; exact ⟨HLV.out, HLS.out⟩)
     rcases best_cases ps ns nd q most s with hbc | ⟨b, hbc, hbs⟩
     ·have hbv : bv = -1 := HBV.out.trans hbc
      have HE := Lib.hid (best_first HG.out hbc).symm
      subst hbv
      clear hbc
      go_wp2
      go_roundw
      case rel => exact ⟨s + 1, s, lv, ls, by omega, by go_num, rfl, rfl, rfl, HE, HNEW, HB2.out, HX2.out⟩
      case measure => simp [intOf]; omega
     ·have hbv : bv = b := HBV.out.trans hbc
      have HBC := Lib.hid hbc
      subst hbv
      clear hbc
      obtain ⟨hlo, hfw⟩ := HLF.out b rfl
      have HLO := Lib.hid hlo
      have HFW := Lib.hid hfw
      clear hlo hfw
      have hb0' : ¬ (b : Int) < 0 := by omega
      by_cases h1 : lv < lo
      ·have HE := Lib.hid (best_take HG.out HBC.out (Or.inl (by rw [← HLV.out, ← HLO.out]; exact h1))).symm
       go_wp2
       go_roundw
       case rel => exact ⟨s + 1, s, lv, ls, by omega, by go_num, rfl, rfl, rfl, HE, HNEW, HB2.out, HX2.out⟩
       case measure => simp [intOf]; omega
      ·by_cases h2 : lv = lo
       ·subst h2
        by_cases h3 : ls < fw
        ·have h3' : (ls : Int) < fw := by omega
         have HE := Lib.hid (best_take HG.out HBC.out (Or.inr ⟨by rw [← HLV.out, ← HLO.out], by rw [← HLS.out, ← HFW.out]; exact h3⟩)).symm
         go_wp2
         go_roundw
         case rel => exact ⟨s + 1, s, lv, ls, by omega, by go_num, rfl, rfl, rfl, HE, HNEW, HB2.out, HX2.out⟩
         case measure => simp [intOf]; omega
        ·have h3' : ¬ (ls : Int) < fw := by omega
         have HE := Lib.hid (best_keep (q := q) (most := most) HBC.out (by rw [← HLV.out, ← HLO.out, ← HLS.out, ← HFW.out]; omega)).symm
         go_wp2
         go_roundw
         case rel => exact ⟨s + 1, b, lv, fw, by omega, by go_num, rfl, rfl, rfl, HE, HLF, HB2.out, HX2.out⟩
         case measure => simp [intOf]; omega
       ·have HE := Lib.hid (best_keep (q := q) (most := most) HBC.out (by rw [← HLV.out, ← HLO.out]; omega)).symm
        go_wp2
        go_roundw
        case rel => exact ⟨s + 1, b, lo, fw, by omega, by go_num, rfl, rfl, rfl, HE, HLF, HB2.out, HX2.out⟩
        case measure => simp [intOf]; omega
    ·have hq' : ¬ (q : Int) ≤ ls := by omega
     have HE : Hid (bv = bestN ps ns nd q most (s + 1)) := Lib.hid (by rw [best_no (fun h => hq (by rw [HLS.out]; exact h.2))]; exact HBV.out)
     go_wp2
     go_roundw
     case rel => exact ⟨s + 1, bv, lo, fw, by omega, by go_num, rfl, rfl, rfl, HE, HLF, HB2.out, HX2.out⟩
     case measure => simp [intOf]; omega
   ·have hm' : most < lv := by omega
    have HE : Hid (bv = bestN ps ns nd q most (s + 1)) := Lib.hid (by rw [best_no (fun h => hm (by rw [HLV.out]; exact h.1))]; exact HBV.out)
    have HB2 := HB1
    have HX2 := HX1
    go_wp2
    go_roundw
    case rel => exact ⟨s + 1, bv, lo, fw, by omega, by go_num, rfl, rfl, rfl, HE, HLF, HB2.out, HX2.out⟩
    case measure => simp [intOf]; omega
  ·have hs9 : s = n := by omega
   subst hs9
   rcases best_cases ps ns nd q most s with hbc | ⟨b, hbc, hbn⟩
   ·have hbv : bv = -1 := HBV.out.trans hbc
    have HF := Lib.hid (chooseV_none (q := q) (most := most) (by rw [HP.out]; exact hbc))
    subst hbv
    clear hbc
    go_wp2
    (try go_light)
    refine bodyPost_ret (v := .tuple #[.slice none 0 0, .bool false]) (by simp [results, Tryz.results142, go_sem, *]) rfl ?_
    exact ⟨_, by rw [HF.out.1], by rw [HF.out.2]; exact own_nil _ _ _ _, HB.out⟩
   ·have hbv : bv = b := HBV.out.trans hbc
    have HF := Lib.hid (chooseV_some (q := q) (most := most) (by rw [HP.out]; exact hbc))
    have hgood := best_good hbc
    subst hbv
    clear hbc HBV HLF
    have hb0' : ¬ (b : Int) < 0 := by omega
    have e0 := zAb HBX.out 0 rfl
    have e1 := zAb HBX.out 1 rfl
    simp only [zgc, zga, zgb] at e0 e1
    go_wp2_with fail
    refine (under_any A B s c m d ps ns D k e nd b _ HN.out HM.out (HR.out.below HL.out HB.out) (HQ.out.below HL2.out HB.out) (zAi HL.out HB.out) (zAi HL2.out HB.out) HK.out (HD.out.below HL3.out HB.out) (zAi HL3.out HB.out) HT.out HND.out).mono ?_
    rintro e w3 ⟨v3, rfl, own3, hb3⟩
    obtain ⟨M, hM⟩ : ∃ y, y = undr ps ns nd b := ⟨_, rfl⟩
    rw [← hM] at own3 HF
    obtain ⟨X3, c3, rfl, _⟩ := zAq own3
    have hMn : M.Nodup := by rw [hM]; exact HNN.out.filter _
    have hMi : ∀ x ∈ M, 0 ≤ x ∧ x < ns.length := by rw [hM]; exact undr_in HND.out
    have hMl : q ≤ M.length := by rw [hM]; exact hgood.2
    have hMk : M.length ≤ k := by rw [hM]; have h1 := undr_len ps ns nd b; have := HDL.out; omega
    have hMk9 : M.length ≤ 1048576 := by have := HK.out; omega
    have HMN := Lib.hid hMn
    have HMI := Lib.hid hMi
    have HX3 := Lib.hid (zAf HBX.out hb3)
    have HB3 := Lib.hid (zAc HB.out hb3)
    have HO3 := Lib.hid (zAm own3 HB.out.size)
    clear hM hMn hMi hMk hgood own3 hb3 e0 e1 HB HBX
    have e0 := zAb HX3.out 0 rfl
    have e1 := zAb HX3.out 1 rfl
    simp only [zgc, zga, zgb] at e0 e1
    obtain ⟨i0, hi9, hz0, hz1, hz2⟩ := info_parts infoI
    have hn1 := HN.out
    go_upto_region 17 with (at_make; refine wpList_make_full _ rfl _ _ 23 rfl w3.heap.size 3 i0 (.int .i64 0) 1 Tryz.underlying23 hi9 hz0 hz1 .i64 .i64 _ _ s rfl rfl rfl rfl (by rw [hz2]; omega) (by unfold maxLen; omega) (Nat.le_refl _) ?_; intro w0 hown0 hgrow0)
    have hgw := own_blkn9 hown0 w3.heap.size rfl
    have hmk : (madeCells (Value.int .i64 0).cells (s * 1)).toList = ints (cntsL (lfN ns) [] s) := by
     rw [cnts_nil]
     apply List.ext_getElem?
     intro j
     by_cases hj : j < s
     ·simp [madeCells, Value.cells, List.getElem?_replicate, hj, Nat.mod_one]
     ·rw [List.getElem?_eq_none (by simp [madeCells]; omega), List.getElem?_eq_none (by simp; omega)]
    rw [hmk] at hown0
    have hBw : Below w3.heap.size w3 w0 := (Below.refl _ _).grown hgrow0 (Nat.le_refl _) (fun k hk => by cases hk)
    have hB2 : Below w0.heap.size w0 ((w0.alloc (.cells #[.slice (some ⟨w3.heap.size, 0, none⟩) s s] 23)).alloc (.cells #[] 3)) := zAc (zAa _ _) (zAa _ _)
    have hBW : Below w3.heap.size w3 ((w0.alloc (.cells #[.slice (some ⟨w3.heap.size, 0, none⟩) s s] 23)).alloc (.cells #[] 3)) := zAc hBw hB2
    have H0 : C1 w ((w0.alloc (.cells #[.slice (some ⟨w3.heap.size, 0, none⟩) s s] 23)).alloc (.cells #[] 3)) w.heap.size (.slice A s c) (.slice B m d) (.slice X3 M.length c3) M w3.heap.size w0.heap.size s s (cntsL (lfN ns) [] s) (.slice (some ⟨w0.heap.size + 1, 0, none⟩) 0 0) 0 (preI (dist (lfN ns) [])) := by
     refine ⟨zAf HX3.out hBW, zAs (zAj _ rfl) _, zAm (zAe hown0 hB2) HB3.out.size, zAe HO3.out hBW, zAm (own_lit (lo := w0.heap.size) (cs := []) (zAj _ (by simp)) rfl (by decide) (by omega)) (by have := HB3.out.size; omega), ?_, ?_, ?_, zAc HB3.out hBW⟩
     ·intro e
      have := own_blkn9 HO3.out _ e; omega
     ·intro e
      have h1 : w0.heap.size + 1 = w3.heap.size := Option.some.inj e
      omega
     ·intro k hk e
      have h1 : w0.heap.size + 1 = k := Option.some.inj hk
      have := own_blkn9 HO3.out _ e; omega
    have T0 := Lib.hid H0
    clear H0 hBW hB2 hBw hmk hown0 hgrow0 hi9 hz0 hz1 hz2 e0 e1 HX3 HB3 HO3
    generalize ((w0.alloc (.cells #[.slice (some ⟨w3.heap.size, 0, none⟩) s s] 23)).alloc (.cells #[] 3)) = wX at *
    generalize w0.heap.size + 1 = gT0 at *
    generalize w0.heap.size = bm at *
    generalize w3.heap.size = gm at *
    go_loopw [17, 82] (fun v17 i wr => ∃ (kk gT ct tl : Nat), kk ≤ M.length ∧ i = .int .i64 kk ∧ v17 = .slice (some ⟨gT, 0, none⟩) tl ct ∧ Hid (tl = (dist (lfN ns) (M.take kk)).length) ∧ C1 w wr w.heap.size (.slice A s c) (.slice B m d) (.slice X3 M.length c3) M gm bm s s (cntsL (lfN ns) (M.take kk) s) (.slice (some ⟨gT, 0, none⟩) tl ct) tl (preI (dist (lfN ns) (M.take kk)))) (fun _ i _ => M.length - (intOf i).toNat)
    case atStart => exact ⟨0, gT0, 0, 0, Nat.zero_le _, rfl, rfl, Lib.hid rfl, T0.out⟩
    case round =>
     clear T0
     obtain ⟨kk, gT, ct, tl, hkk, rfl, rfl, HTL, T'⟩ := hrel
     have T1 := Lib.hid T'
     clear T'
     by_cases hkl : kk < M.length
     ·have hkl' : (kk : Int) < M.length := by omega
      obtain ⟨gM, x, rfl, hx, cx9⟩ := Rd.int (zAn T1.out.mine) hkl
      have hxm := HMI.out x (List.mem_of_getElem? hx)
      obtain ⟨qx, rfl⟩ : ∃ q : Nat, x = q := ⟨x.toNat, by omega⟩
      have hqm : qx < m := by have := HQL.out; omega
      have hqm' : (qx : Int) < m := by omega
      obtain ⟨gB, z, rfl, hz, c0, c1, c2, c4⟩ := (HQ.out.below HL2.out T1.out.bel).q hqm
      obtain ⟨hlp, _, q', hq1', hq2, _⟩ := lfN_ok HT.out (x := (qx : Int)) (by omega) (by rw [HQL.out]; omega)
      simp only [Int.toNat_natCast] at hq1'
      rw [hz] at hq1'
      obtain rfl := Option.some.inj hq1'
      rw [hq2] at c0
      rw [HP.out] at hlp
      obtain ⟨lf, hlf9⟩ : ∃ lf, lf = lfN ns (qx : Int) := ⟨_, rfl⟩
      rw [← hlf9] at hlp c0
      have hlf' : (lf : Int) < s := by omega
      obtain ⟨cl, hcl⟩ : ∃ c, c = cnt (lfN ns) (M.take kk) lf := ⟨_, rfl⟩
      have hcl9 : cl ≤ 1048576 := by rw [hcl]; have := cnt_le (lfN ns) (M.take kk) lf; rw [List.length_take] at this; omega
      obtain ⟨g2, z2, hg2, hz2, c5⟩ := Rd.int (zAn T1.out.many) hlp
      cases hg2
      rw [cnts_at hlp, ← hcl] at hz2
      obtain rfl := Option.some.inj hz2
      have f5 := own_frz T1.out.many lf
      have hset := cnts_snoc (M := M.take kk) (n := s) hlf9.symm hlp
      rw [← hcl, ← zAy hx] at hset
      have HTK := Lib.hid (zAy hx)
      have HLF := Lib.hid hlf9
      have T2 := Lib.hid (T1.out.put hlp hset)
      have wr1 : IntKind.i64.wrap ((cl : Int) + 1) = (cl : Int) + 1 := IntWalk.i64_in _ (by omega)
      have e2 := zAb T1.out.mb 0 rfl
      have e0 := zAb T1.out.bx 0 rfl
      have e1 := zAb T1.out.bx 1 rfl
      simp only [zgc, zga, zgb] at e0 e1
      simp only [zgc, zga, zgb] at e2
      clear hx hxm hz hq2 hlf9 c1 c2 c4 hcl hset
      go_upto_region 21 with fail
      clear e0 e1 e2 f5 c5 c0 cx9 T1
      generalize (wr.setCell ⟨gm, lf, none⟩ (.int .i64 ((cl : Int) + 1))) = w5 at *
      have htl9 : tl ≤ 1048576 := by
       have h1 := HTL.out
       have h2 := dist_len (lfN ns) (M.take kk)
       rw [List.length_take] at h2; omega
      cases hh : hasZ (preI (dist (lfN ns) (M.take kk))) (lf : Int)
      ·have hnm : lf ∉ dist (lfN ns) (M.take kk) := fun h => by rw [preI_mem.2 h] at hh; cases hh
       have HHZ := Lib.hid hh
       have HDE : Hid (dist (lfN ns) (M.take (kk + 1)) = dist (lfN ns) (M.take kk) ++ [lf]) := Lib.hid (by rw [HTK.out, dist_no (by rw [← HLF.out]; exact hnm), ← HLF.out])
       clear hh hnm
       go_wp2_with fail
       refine (contains_any (some ⟨gT, 0, none⟩) tl ct (preI (dist (lfN ns) (M.take kk))) (lf : Int) _ (by omega) (zAn T2.out.lv)).mono ?_
       rintro e w6 ⟨rfl, rfl⟩
       rw [HHZ.out]
       have hsz5 := T2.out.bel.size
       obtain ⟨i0, hi9, hz0, hz1, hz2⟩ := info_parts infoI
       go_wp2_with (at_builtin; refine wpList_append_lies _ rfl _ _ 23 rfl (w.heap.size) 3 i0 (.int .i64 0) 1 8 Tryz.underlying23 hi9 hz0 hz1 hz2 rfl (by decide) _ _ _ rfl (zAe T2.out.lv (zAa w5 (.cells #[.int .i64 (lf : Int)] 3))) ⟨w5.heap.size, 0, none⟩ 1 1 [.int .i64 (lf : Int)] rfl rfl ?ca1 ?ca2 (by decide) ?ca3 ?ca4 ?ca5 _ rfl ?_)
       try case ca1 =>
        intro j y hy
        match j, hy with
        | 0, hy => (simp at hy; subst hy; simp [Addr.add])
       try case ca2 => simp [Value.oneCell']
       case ca3 => unfold maxLen; skip; omega
       case ca4 => skip; omega
       try case ca5 => first | omega | (simp <;> omega)
       intro g5 ct5 w7 own5 hg5 hat5 hlt5
       have T5 := Lib.hid ((T2.out.step (zAa w5 (.cells #[.int .i64 (lf : Int)] 3))).app own5 hg5 (by simpa using hat5))
       clear own5 hg5 hat5 hi9 hz0 hz1 hz2 T2
       go_wp2
       go_roundw
       case rel => exact ⟨kk + 1, g5, ct5, tl + 1, by omega, by go_num, rfl, Lib.hid (by rw [HDE.out, List.length_append, ← HTL.out]; rfl), by rw [HDE.out, show preI (dist (lfN ns) (M.take kk) ++ [lf]) = preI (dist (lfN ns) (M.take kk)) ++ [(lf : Int)] by simp [preI]]; exact T5.out⟩
       case measure => simp [intOf]; omega
      ·have hnm : lf ∈ dist (lfN ns) (M.take kk) := preI_mem.1 hh
       have HHZ := Lib.hid hh
       have HDE : Hid (dist (lfN ns) (M.take (kk + 1)) = dist (lfN ns) (M.take kk)) := Lib.hid (by rw [HTK.out, dist_yes (by rw [← HLF.out]; exact hnm)])
       clear hh hnm
       go_wp2_with fail
       refine (contains_any (some ⟨gT, 0, none⟩) tl ct (preI (dist (lfN ns) (M.take kk))) (lf : Int) _ (by omega) (zAn T2.out.lv)).mono ?_
       rintro e w6 ⟨rfl, rfl⟩
       rw [HHZ.out]
       go_wp2
       go_roundw
       case rel => exact ⟨kk + 1, gT, ct, tl, by omega, by go_num, rfl, Lib.hid (by rw [HDE.out]; exact HTL.out), by rw [HDE.out]; exact T2.out⟩
       case measure => simp [intOf]; omega
     ·have hkM : M.take kk = M := List.take_of_length_le (by omega)
      rw [hkM] at HTL T1
      clear hkM
      have htl9 : tl ≤ 1048576 := by
       have h1 := HTL.out
       have h2 := dist_len (lfN ns) M
       omega
      go_wp2_with fail
      refine (sortL_own (L0 := dist (lfN ns) M) (ct := cnt (lfN ns) M) h1n hn1 HTL.out.symm htl9 T1.out.lv T1.out.mb T1.out.many (fun e => T1.out.a2 (by rw [e]; rfl)) (fun l hl => cnts_at hl) (fun l => by have := cnt_le (lfN ns) M l; omega) (fun l hl => by
       obtain ⟨y, hy, rfl⟩ := (dist_mem l).1 hl
       have := (lfN_ok HT.out (HMI.out y hy).1 (HMI.out y hy).2).1
       rw [HP.out] at this; exact this)).mono ?_
      rintro e w6 ⟨rfl, L, hperm, hsort, own6, hg6⟩
      have HIL := Lib.hid (isL_bef hperm hsort)
      have hLl : L.length = tl := by rw [hperm.length_eq]; exact HTL.out.symm
      have hB6 := Below.grown T1.out.bel hg6 T1.out.bel.size (fun j hj => by cases hj; exact zAu T1.out.lv gT rfl)
      have H6 : C2 w (w6.alloc (.cells #[] 3)) w.heap.size (.slice A s c) (.slice B m d) (.slice X3 M.length c3) M (.slice (some ⟨gT, 0, none⟩) tl ct) tl (preI L) (.slice (some ⟨w6.heap.size, 0, none⟩) 0 0) 0 [] := by
       have hm6 := zAx T1.out.mine hg6 (fun k hk e => T1.out.a3 k (by rw [← e]; rfl) hk)
       refine ⟨zAs (zAp T1.out.bx hg6 (fun j hj => by cases hj; exact zAk T1.out.lv T1.out.bx (by decide) gT rfl)) _, zAe hm6 (zAa _ _), zAe own6 (zAa _ _), zAm (own_lit (lo := w6.heap.size) (cs := []) (zAj _ rfl) rfl (by decide) (Nat.le_refl _)) hB6.size, ?_, ?_, zAc hB6 (zAa _ _)⟩
       ·intro k hk e
        have h1 : w6.heap.size = k := Option.some.inj hk
        have := own_blkn9 hm6 _ e; omega
       ·intro k hk e
        have h1 : w6.heap.size = k := Option.some.inj hk
        have := own_blkn9 own6 _ e; omega
      have T6 := Lib.hid H6
      have HLL := Lib.hid hLl
      have HOV : Hid (outV (lfN ns) M q = riseAll ((L.flatMap (group (lfN ns) M)).take q)) := Lib.hid (outV_of HIL.out)
      clear hperm hsort own6 hg6 hB6 H6 T1 hLl
      go_wp2
      go_loopw [21, 113] (fun v21 i wr => ∃ (jj gO co ol : Nat) (out : List Int), jj ≤ tl ∧ i = .int .i64 jj ∧ v21 = .slice (some ⟨gO, 0, none⟩) ol co ∧ out.length = ol ∧ Hid (out = (gJ (lfN ns) M L jj).take q) ∧ C2 w wr w.heap.size (.slice A s c) (.slice B m d) (.slice X3 M.length c3) M (.slice (some ⟨gT, 0, none⟩) tl ct) tl (preI L) (.slice (some ⟨gO, 0, none⟩) ol co) ol out) (fun _ i _ => tl - (intOf i).toNat)
      case atStart => exact ⟨0, _, 0, 0, [], Nat.zero_le _, rfl, rfl, rfl, Lib.hid (by simp [gJ]), T6.out⟩
      case round =>
       clear T6
       obtain ⟨jj, gO, co, ol, out, hjj, rfl, rfl, hol, HOUT, T'⟩ := hrel
       obtain ⟨wo, rfl⟩ : ∃ x, x = wr := ⟨wr, rfl⟩
       have T1 := Lib.hid T'
       clear T'
       by_cases hjl : jj < tl
       ·have hjl' : (jj : Int) < tl := by omega
        obtain ⟨gT9, z9, hg9, hz9, cz9⟩ := Rd.int (zAn T1.out.lv) hjl
        cases hg9
        obtain ⟨l, hl⟩ : ∃ l, L[jj]? = some l := ⟨_, zgh (by rw [HLL.out]; exact hjl)⟩
        have hzl : (preI L)[jj]? = some (l : Int) := by unfold preI; rw [List.getElem?_map, hl]; rfl
        rw [hzl] at hz9
        obtain rfl := Option.some.inj hz9
        have HGS := Lib.hid (gJ_succ (lf := lfN ns) (M := M) hl)
        clear hz9 hzl hl
        go_wp2
        go_loopw [21, 119] (fun v21 i wi => ∃ (ii gO co ol : Nat) (out : List Int), ii ≤ M.length ∧ i = .int .i64 ii ∧ v21 = .slice (some ⟨gO, 0, none⟩) ol co ∧ out.length = ol ∧ Hid (out = (gJ (lfN ns) M L jj ++ group (lfN ns) (M.take ii) l).take q) ∧ C2 w wi w.heap.size (.slice A s c) (.slice B m d) (.slice X3 M.length c3) M (.slice (some ⟨gT, 0, none⟩) tl ct) tl (preI L) (.slice (some ⟨gO, 0, none⟩) ol co) ol out) (fun _ i _ => M.length - (intOf i).toNat)
        case atStart => exact ⟨0, gO, co, ol, out, Nat.zero_le _, rfl, rfl, hol, Lib.hid (by rw [List.take_zero, show group (lfN ns) [] l = [] from rfl, List.append_nil]; exact HOUT.out), T1.out⟩
        case round =>
         clear T1
         obtain ⟨ii, gP, cp, pl, po, hii, rfl, rfl, hpo, HPO, T''⟩ := hrel
         obtain ⟨wi, rfl⟩ : ∃ x, x = wr := ⟨wr, rfl⟩
         have T7 := Lib.hid T''
         clear T''
         have hpq : pl ≤ q := by rw [← hpo, HPO.out, List.length_take]; omega
         by_cases hil : ii < M.length
         ·have hil' : (ii : Int) < M.length := by omega
          obtain ⟨gM, x, rfl, hx, cx9⟩ := Rd.int (zAn T7.out.mine) hil
          have hxm := HMI.out x (List.mem_of_getElem? hx)
          obtain ⟨qx, rfl⟩ : ∃ q : Nat, x = q := ⟨x.toNat, by omega⟩
          have hqm : qx < m := by have := HQL.out; omega
          have hqm' : (qx : Int) < m := by omega
          obtain ⟨gB, z, rfl, hz, c0, c1, c2, c4⟩ := (HQ.out.below HL2.out T7.out.bel).q hqm
          obtain ⟨hlp, _, q', hq1', hq2, _⟩ := lfN_ok HT.out (x := (qx : Int)) (by omega) (by rw [HQL.out]; omega)
          simp only [Int.toNat_natCast] at hq1'
          rw [hz] at hq1'
          obtain rfl := Option.some.inj hq1'
          rw [hq2] at c0
          obtain ⟨lf, hlf9⟩ : ∃ lf, lf = lfN ns (qx : Int) := ⟨_, rfl⟩
          rw [← hlf9] at c0
          have HTK := Lib.hid (zAy hx)
          have HLF := Lib.hid hlf9
          clear hx hxm hz hq2 hlf9 hlp c1 c2 c4
          have e0 := zAb T7.out.bx 0 rfl
          have e1 := zAb T7.out.bx 1 rfl
          simp only [zgc, zga, zgb] at e0 e1
          by_cases hlf : lf = l
          ·have hlf' : (lf : Int) = l := by omega
           by_cases hplq : pl < q
           ·have hplq' : (pl : Int) < q := by omega
            have HE8 : Hid (po ++ [(qx : Int)] = (gJ (lfN ns) M L jj ++ group (lfN ns) (M.take (ii + 1)) l).take q) := Lib.hid (by
             rw [HTK.out, group_snoc, if_pos (by rw [← HLF.out]; exact hlf), ← List.append_assoc, take_snoc_if, ← HPO.out, if_pos (by rw [hpo]; exact hplq)])
            subst hlf
            have hsz7 := T7.out.bel.size
            obtain ⟨i0, hi9, hz0, hz1, hz2⟩ := info_parts infoI
            go_wp2_with (at_builtin; refine wpList_append_lies _ rfl _ _ 23 rfl (w.heap.size) 3 i0 (.int .i64 0) 1 8 Tryz.underlying23 hi9 hz0 hz1 hz2 rfl (by decide) _ _ _ rfl (zAe T7.out.out (zAa wi (.cells #[.int .i64 (qx : Int)] 3))) ⟨wi.heap.size, 0, none⟩ 1 1 [.int .i64 (qx : Int)] rfl rfl ?ca1 ?ca2 (by decide) ?ca3 ?ca4 ?ca5 _ rfl ?_)
            try case ca1 =>
             intro j y hy
             match j, hy with
             | 0, hy => (simp at hy; subst hy; simp [Addr.add])
            try case ca2 => simp [Value.oneCell']
            case ca3 => unfold maxLen; skip; omega
            case ca4 => skip; omega
            try case ca5 => first | omega | (simp <;> omega)
            intro g5 ct5 w7 own5 hg5 hat5 hlt5
            have T5 := Lib.hid ((T7.out.step (zAa wi (.cells #[.int .i64 (qx : Int)] 3))).app own5 hg5 (by simpa using hat5))
            clear own5 hg5 hat5 hi9 hz0 hz1 hz2 T7
            go_wp2
            go_roundw
            case rel => exact ⟨ii + 1, g5, ct5, pl + 1, po ++ [(qx : Int)], by omega, by go_num, rfl, by rw [List.length_append, hpo]; rfl, HE8, T5.out⟩
            case measure => simp [intOf]; omega
           ·have hplq' : ¬ (pl : Int) < q := by omega
            have HE8 : Hid (po = (gJ (lfN ns) M L jj ++ group (lfN ns) (M.take (ii + 1)) l).take q) := Lib.hid (by
             rw [HTK.out, group_snoc, if_pos (by rw [← HLF.out]; exact hlf), ← List.append_assoc, take_snoc_if, ← HPO.out, if_neg (by rw [hpo]; exact hplq)])
            subst hlf
            go_wp2
            go_roundw
            case rel => exact ⟨ii + 1, gP, cp, pl, po, by omega, by go_num, rfl, hpo, HE8, T7.out⟩
            case measure => simp [intOf]; omega
          ·have hlf' : ¬ (lf : Int) = l := by omega
           have HE8 : Hid (po = (gJ (lfN ns) M L jj ++ group (lfN ns) (M.take (ii + 1)) l).take q) := Lib.hid (by
            rw [HTK.out, group_snoc, if_neg (by rw [← HLF.out]; exact hlf)]; exact HPO.out)
           go_wp2
           go_roundw
           case rel => exact ⟨ii + 1, gP, cp, pl, po, by omega, by go_num, rfl, hpo, HE8, T7.out⟩
           case measure => simp [intOf]; omega
         ·have HE9 : Hid (po = (gJ (lfN ns) M L (jj + 1)).take q) := Lib.hid (by
           have h1 := HPO.out
           have h2 : M.take ii = M := List.take_of_length_le (by omega)
           rw [h2, ← HGS.out] at h1; exact h1)
          go_wp2
          go_roundw
          case rel => exact ⟨jj + 1, gP, cp, pl, po, by omega, by go_num, rfl, hpo, HE9, T7.out⟩
          case measure => simp [intOf]; omega
       ·have hfin : sortZ out = outV (lfN ns) M q := by
         have h1 : gJ (lfN ns) M L jj = L.flatMap (group (lfN ns) M) := by unfold gJ; rw [List.take_of_length_le (by have := HLL.out; omega)]
         rw [HOV.out, HOUT.out, h1]
         exact sort_rise ((flatG_nodup HMN.out HIL.out.nodup).sublist (List.take_sublist _ _))
        have hol9 : ol ≤ 1048580 := by
         have h3 := congrArg List.length HOUT.out
         rw [List.length_take] at h3; omega
        have HFIN := Lib.hid hfin
        clear hfin
        go_wp2_with fail
        refine (sort_own T1.out.out hol9).mono ?_
        rintro e w8 ⟨rfl, own8, hg8⟩
        rw [HFIN.out] at own8
        have hlen8 : (outV (lfN ns) M q).length = ol := by rw [← HFIN.out, sortZ_len]; exact hol
        have HO8 := Lib.hid own8
        have HL8 := Lib.hid hlen8
        have HB8 : Hid (Below w.heap.size w w8) := Lib.hid (Below.grown T1.out.bel hg8 T1.out.bel.size (fun j hj => by cases hj; exact zAu T1.out.out gO rfl))
        clear own8 hg8 hlen8 T1
        go_wp2
        (try go_light)
        refine bodyPost_ret (v := .tuple #[.slice (some ⟨gO, 0, none⟩) ol co, .bool true]) (by simp [results, Tryz.results142, go_sem, *]) rfl ?_
        exact ⟨_, by rw [HF.out.1], by rw [HF.out.2, HL8.out]; exact HO8.out, HB8.out⟩
end Go.Proofs.YtnphjhbfpoekpaaGreat
