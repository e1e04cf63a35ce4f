import Derived.Test.YtnphjhbfpoekpaaGreatFkPh
import Derived.Test.YtnphjhbfpoekpaaGreatHePh
namespace Go.Proofs.YtnphjhbfpoekpaaGreat
set_option linter.unusedSimpArgs false
set_option linter.unusedVariables false
set_option linter.unnecessarySimpa false
open Go.RowKit
structure RG (w wr : World) (g b : Nat) (a : RA) (r : Rm) (xs : List Value) : Prop where
 bx : wr.heap[b]? = some (.cells #[.slice a.A a.n a.c, .slice a.B a.m a.d, .slice a.U a.nu a.cu, .slice a.R a.np a.cp, .slice a.L a.nl a.cl] 33 (0, 0))
 own : RoomOwn wr w.heap.size a r xs
 cur : Cur wr g
 fr : Fr (· = g) w wr
 hb : g < w.heap.size ∧ w.heap.size < b
 z0 : wr.heap[w.heap.size]? = some (.cells #[.slice none 0 0, .slice none 0 0, .slice none 0 0, .slice none 0 0, .slice none 0 0] 33 (0, 0))
theorem RG.bel {w wr w' : World} {g b : Nat} {a : RA} {r : Rm} {xs : List Value} (h : RG w wr g b a r xs) (hb : Below wr.heap.size wr w') : RG w w' g b a r xs :=
 ⟨zAf h.bx hb, h.own.bel hb, h.cur.below hb, h.fr.of_bel hb, h.hb, zAf h.z0 hb⟩
theorem RG.cs {w wr w' : World} {g b : Nat} {a : RA} {r : Rm} {xs : List Value} (h : RG w wr g b a r xs) (hf : Fr (· = g) wr w') (hc : Cur w' g) : RG w w' g b a r xs := by
 have hh := h.hb
 exact ⟨bx_fr h.bx hf (by omega), h.own.fr hf (fun k hk e => by have := (room_rng2 h.own k hk).1; omega), hc, h.fr.trans hf, h.hb, bx_fr h.z0 hf (by omega)⟩
theorem RG.up {w wr w1 : World} {g b : Nat} {a : RA} {r : Rm} {xs : List Value} (h : RG w wr g b a r xs) {x : Bool} {U : Option Addr} {cu : Nat} (hl : a.nu + 1 ≤ 1048576)
  (ho : w1.ownsRow w.heap.size 4 1 (.slice U (a.nu + 1) cu) (a.nu + 1) (bools r.up ++ [.bool x])) (hg : wr.grownBy w1 (Value.slice a.U a.nu a.cu).ownBlock) :
  RG w (w1.setCell ⟨b, 2, none⟩ (.slice U (a.nu + 1) cu)) g b { a with U := U, nu := a.nu + 1, cu := cu } { r with up := r.up ++ [x] } xs := by
 have o := h.own
 have hh := h.hb
 have hge : ∀ k, (Value.slice a.U a.nu a.cu).ownBlock = some k → w.heap.size ≤ k := zAu o.up
 have hn := zAk o.up h.bx (by decide)
 have e1 := zAp h.bx hg hn
 have q : ∀ {e : TypeId} {size n : Nat} {v : Value} {ys : List Value}, wr.ownsRow w.heap.size e size v n ys → e ≠ 4 → w1.ownsRow w.heap.size e size v n ys := fun hh he => zAx hh hg (fun j hj => own_ap hh o.up he j hj)
 have ro : RoomOwn w1 w.heap.size { a with U := U, nu := a.nu + 1, cu := cu } { r with up := r.up ++ [x] } xs :=
  ⟨o.n, o.m, hl, o.np, o.nl, q o.par (by decide), q o.nodes (by decide), by simpa [bools] using ho, ⟨q o.profs.own (by decide), o.profs.len, fun k y ps h1 h2 => ⟨(o.profs.each k y ps h1 h2).1, q (o.profs.each k y ps h1 h2).2 (by decide)⟩, o.profs.apart⟩, q o.lics (by decide), o.apart⟩
 refine ⟨by simpa using heap_set (i := 2) (v := .slice U (a.nu + 1) cu) e1, (ro.box1 ⟨_, _, e1⟩ 2 _).1, (h.cur.grown hg (fun k hk => by have := hge k hk; omega)).set (by show g < b; omega) _, (h.fr.grown hg hge).setCell (Or.inr (by show w.heap.size ≤ b; omega)) _, h.hb, bx_set (zAp h.z0 hg (zAk o.up h.z0 (by decide))) (by show w.heap.size ≠ b; omega) _⟩
theorem RG.app {w wr w1 : World} {g b : Nat} {a : RA} {r : Rm} {xs : List Value} (h : RG w wr g b a r xs) {x : Value} {ps : List Q} {R : Option Addr} {cp lo : Nat} (hl : a.np + 1 ≤ 1048576) (hlp : ps.length ≤ 1048576)
  (ho : w1.ownsRow w.heap.size 31 1 (.slice R (a.np + 1) cp) (a.np + 1) (xs ++ [x])) (hg : wr.grownBy w1 (Value.slice a.R a.np a.cp).ownBlock)
  (hx : wr.ownsRow lo 177 4 x ps.length (flat ps)) (hlo : w.heap.size ≤ lo) (hfr : ∀ (i : Nat) y, xs[i]? = some y → ∀ b, y.ownBlock = some b → b < lo) (hfl : ∀ b, atB a.L b → b < lo) :
  RG w (w1.setCell ⟨b, 3, none⟩ (.slice R (a.np + 1) cp)) g b { a with R := R, np := a.np + 1, cp := cp } { r with profs := r.profs ++ [ps] } (xs ++ [x]) := by
 have o := h.own
 have hh := h.hb
 have hge : ∀ k, (Value.slice a.R a.np a.cp).ownBlock = some k → w.heap.size ≤ k := zAu o.profs.own
 have hn := zAk o.profs.own h.bx (by decide)
 have e1 := zAp h.bx hg hn
 have q : ∀ {e : TypeId} {size n : Nat} {v : Value} {ys : List Value}, wr.ownsRow w.heap.size e size v n ys → e ≠ 31 → w1.ownsRow w.heap.size e size v n ys := fun hh he => zAx hh hg (fun j hj => own_ap hh o.profs.own he j hj)
 have ro : RoomOwn w1 w.heap.size { a with R := R, np := a.np + 1, cp := cp } { r with profs := r.profs ++ [ps] } (xs ++ [x]) :=
  ⟨o.n, o.m, o.nu, hl, o.nl, q o.par (by decide), q o.nodes (by decide), q o.up (by decide), o.profs.app ho hg (zAm hx hlo) hlp (fun i y hi b9 hb hb2 => by have q1 := hfr i y hi b9 hb; have q2 := zAu hx b9 hb2; omega), q o.lics (by decide), fun i y hi b9 hb9 hb8 => by
   have e1 := o.profs.xlen
   by_cases hin : i < xs.length
   ·rw [List.getElem?_append_left hin] at hi
    exact o.apart i y hi b9 hb9 hb8
   ·rw [List.getElem?_append_right (by omega)] at hi
    have h3 : x = y := by
     have h9 : i - xs.length = 0 := by have := (List.getElem?_eq_some_iff.1 hi).1; simp at this; omega
     rw [h9] at hi; simpa using hi
    subst h3
    have q1 := hfl b9 hb8
    have q2 := zAu hx b9 hb9
    omega⟩
 refine ⟨by simpa using heap_set (i := 3) (v := .slice R (a.np + 1) cp) e1, (ro.box1 ⟨_, _, e1⟩ 3 _).1, (h.cur.grown hg (fun k hk => by have := hge k hk; omega)).set (by show g < b; omega) _, (h.fr.grown hg hge).setCell (Or.inr (by show w.heap.size ≤ b; omega)) _, h.hb, bx_set (zAp h.z0 hg (zAk o.profs.own h.z0 (by decide))) (by show w.heap.size ≠ b; omega) _⟩
theorem RG.lic {w wr : World} {g b : Nat} {a : RA} {r : Rm} {xs : List Value} {X : Option Addr} {cx lo' : Nat} {l : List Q} (h : RG w wr g b a r xs) (hu : wr.ownsRow lo' 177 4 (.slice X l.length cx) l.length (flat l)) (hlo : w.heap.size ≤ lo') (hl : l.length ≤ 1048576)
  (hfr : ∀ (i : Nat) y, xs[i]? = some y → ∀ b, y.ownBlock = some b → b < lo') : RG w (wr.setCell ⟨b, 4, none⟩ (.slice X l.length cx)) g b { a with L := X, nl := l.length, cl := cx } { r with lics := l } xs := by
 have o := h.own
 have hh := h.hb
 have e5 := heap_set (i := 4) (v := .slice X l.length cx) h.bx
 refine ⟨by simpa using e5, ⟨o.n, o.m, o.nu, o.np, hl, zAo o.par (zAk o.par h.bx (by decide)) _, zAo o.nodes (zAk o.nodes h.bx (by decide)) _, zAo o.up (zAk o.up h.bx (by decide)) _, o.profs.box h.bx 4 _, zAo (zAm hu hlo) (zAk hu h.bx (by decide)) _, ?_⟩, h.cur.set (by show g < b; omega) _, h.fr.setCell (Or.inr (by show w.heap.size ≤ b; omega)) _, h.hb, bx_set h.z0 (by show w.heap.size ≠ b; omega) _⟩
 intro i x hi b9 hb9 h9
 have q1 := hfr i x hi b9 hb9
 have q2 := zAu hu b9 (atB_own' h9)
 omega
theorem RG.topo {w wr : World} {g b : Nat} {a : RA} {r : Rm} {xs : List Value} {X Y : Option Addr} {c d lo' : Nat} {ps : List Int} {ns : List Q} (h : RG w wr g b a r xs) (hp : wr.ownsRow lo' 3 1 (.slice X ps.length c) ps.length (ints ps)) (hq : wr.ownsRow lo' 199 4 (.slice Y ns.length d) ns.length (flat ns)) (hlo : w.heap.size ≤ lo') (hl : ps.length ≤ 1048576) (hl2 : ns.length ≤ 1048576) :
  RG w ((wr.setCell ⟨b, 0, none⟩ (.slice X ps.length c)).setCell ⟨b, 1, none⟩ (.slice Y ns.length d)) g b { a with A := X, n := ps.length, c := c, B := Y, m := ns.length, d := d } { r with par := ps, nodes := ns } xs := by
 have o := h.own
 have hh := h.hb
 have e5 := heap_set (i := 1) (v := .slice Y ns.length d) (heap_set (i := 0) (v := .slice X ps.length c) h.bx)
 have o9 : RoomOwn wr w.heap.size { a with A := X, n := ps.length, c := c, B := Y, m := ns.length, d := d } { r with par := ps, nodes := ns } xs := ⟨hl, hl2, o.nu, o.np, o.nl, zAm hp hlo, zAm hq hlo, o.up, o.profs, o.lics, o.apart⟩
 have o1 := o9.box1 ⟨_, _, h.bx⟩ 0 (.slice X ps.length c)
 have o2 := o1.1.box1 o1.2 1 (.slice Y ns.length d)
 exact ⟨by simpa using e5, o2.1, (h.cur.set (p := ⟨b, 0, none⟩) (by show g < b; omega) _).set (by show g < b; omega) _, (h.fr.setCell (p := ⟨b, 0, none⟩) (Or.inr (by show w.heap.size ≤ b; omega)) _).setCell (Or.inr (by show w.heap.size ≤ b; omega)) _, h.hb, bx_set (bx_set h.z0 (a := ⟨b, 0, none⟩) (by show w.heap.size ≠ b; omega) _) (by show w.heap.size ≠ b; omega) _⟩
theorem RG.all {w wr : World} {g b : Nat} {a a' : RA} {r r' : Rm} {xs xs' : List Value} {lo' : Nat} (h : RG w wr g b a r xs) (ho : RoomOwn wr lo' a' r' xs') (hlo : w.heap.size ≤ lo') :
  RG w (((((wr.setCell ⟨b, 0, none⟩ (.slice a'.A a'.n a'.c)).setCell ⟨b, 1, none⟩ (.slice a'.B a'.m a'.d)).setCell ⟨b, 2, none⟩ (.slice a'.U a'.nu a'.cu)).setCell ⟨b, 3, none⟩ (.slice a'.R a'.np a'.cp)).setCell ⟨b, 4, none⟩ (.slice a'.L a'.nl a'.cl)) g b a' r' xs' := by
 have hh := h.hb
 have hle : w.heap.size ≤ b := by omega
 exact ⟨set5 h.bx, (ho.mono hlo).box5 h.bx _ _ _ _ _, (((((h.cur.set (p := ⟨b, 0, none⟩) (by show g < b; omega) _).set (p := ⟨b, 1, none⟩) (by show g < b; omega) _).set (p := ⟨b, 2, none⟩) (by show g < b; omega) _).set (p := ⟨b, 3, none⟩) (by show g < b; omega) _).set (p := ⟨b, 4, none⟩) (by show g < b; omega) _),
  (((((h.fr.setCell (p := ⟨b, 0, none⟩) (Or.inr hle) _).setCell (p := ⟨b, 1, none⟩) (Or.inr hle) _).setCell (p := ⟨b, 2, none⟩) (Or.inr hle) _).setCell (p := ⟨b, 3, none⟩) (Or.inr hle) _).setCell (p := ⟨b, 4, none⟩) (Or.inr hle) _), h.hb, bx_set5 h.z0 (by omega) _ _ _ _ _⟩
theorem RG.put {w wr : World} {gc b : Nat} {A B U L : Option Addr} {n m nu np nl c d cu cp cl g z lo' : Nat} {r : Rm} {xs : List Value} {u : Value} {ps : List Q} (h : RG w wr gc b ⟨A, B, U, some ⟨g, 0, none⟩, L, n, m, nu, np, nl, c, d, cu, cp, cl⟩ r xs) (hz : z < np) (hu : wr.ownsRow lo' 177 4 u ps.length (flat ps)) (hlo : w.heap.size ≤ lo') (hl : ps.length ≤ 1048576)
  (hfr : ∀ (i : Nat) y, xs[i]? = some y → ∀ b, y.ownBlock = some b → b < lo') (hfl : ∀ b, atB L b → b < lo') : RG w (wr.setCell ⟨g, z, none⟩ u) gc b ⟨A, B, U, some ⟨g, 0, none⟩, L, n, m, nu, np, nl, c, d, cu, cp, cl⟩ { r with profs := r.profs.set z ps } (xs.set z u) := by
 have o := h.own
 have hh := h.hb
 have hgb : g ≠ b := zAk o.profs.own h.bx (by decide) g rfl
 have hgz : g ≠ w.heap.size := zAk o.profs.own h.z0 (by decide) g rfl
 have hg := zAu o.profs.own g rfl
 have e1 := o.profs.xlen
 dsimp only at e1
 refine ⟨bx_set h.bx (fun e => hgb e.symm) _, ⟨o.n, o.m, o.nu, o.np, o.nl, zAo o.par (fun k hk e => own_ap o.par o.profs.own (by decide) k hk (by rw [e]; rfl)) _, zAo o.nodes (fun k hk e => own_ap o.nodes o.profs.own (by decide) k hk (by rw [e]; rfl)) _, zAo o.up (fun k hk e => own_ap o.up o.profs.own (by decide) k hk (by rw [e]; rfl)) _, o.profs.put hz hu hlo hl hfr, zAo o.lics (fun k hk e => own_ap o.lics o.profs.own (by decide) k hk (by rw [e]; rfl)) _, ?_⟩, h.cur.set (by show gc < g; omega) _, h.fr.setCell (Or.inr hg) _, h.hb, bx_set h.z0 (fun e => hgz e.symm) _⟩
 intro i x hi b9 hb9
 by_cases hiz : i = z
 ·subst hiz
  rw [List.getElem?_set_self (by omega)] at hi
  obtain rfl := Option.some.inj hi
  intro h9
  have q1 := hfl b9 h9
  have q2 := zAu hu b9 hb9
  omega
 ·rw [List.getElem?_set_ne (fun e => hiz e.symm)] at hi
  exact o.apart i x hi b9 hb9
theorem few_res {r s : Rm} {j : J} {t : Int} {nd : List Int} (h : resV r j t nd = some s) {m : Nat} (hf : r.few m) : s.few (m + 2) := by
 obtain ⟨-, -, -, -, -, -, -, h8⟩ := res_step (r := r) (s := s) (x := ⟨j, t, nd⟩) h
 exact h8 m hf
theorem few_no (m : Nat) : noRm.few m := ⟨fun p hp => by simp [noRm] at hp, by simp [noRm]⟩
theorem few_mono {r : Rm} {m m' : Nat} (h : r.few m) (hm : m ≤ m') : r.few m' := ⟨fun p hp => Nat.le_trans (h.1 p hp) hm, Nat.le_trans h.2 hm⟩
theorem few_get {r : Rm} {j : J} {t : Int} {nd : List Int} {m : Nat} (hf : r.few m) : ((resV r j t nd).getD noRm).few (m + 2) := by
 cases h : resV r j t nd with
 | none => exact few_no _
 | some s => exact few_res h hf
end Go.Proofs.YtnphjhbfpoekpaaGreat
