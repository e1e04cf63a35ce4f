import Derived.Test.YtnphjhbfpoekpaaGreatA14Pl
namespace Go.Proofs.YtnphjhbfpoekpaaGreat
set_option linter.unusedSimpArgs false
set_option linter.unusedVariables false
set_option linter.unnecessarySimpa false
open Go.RowKit
theorem OwnP.app {w w' : World} {lo : Nat} {v v' x : Value} {n : Nat} {xs : List Value} {pss : List (List Q)} {ps : List Q} (h : OwnP w lo v n xs pss) (ho : w'.ownsRow lo 31 1 v' (n + 1) (xs ++ [x])) (hg : w.grownBy w' v.ownBlock)
  (hx : w.ownsRow lo 177 4 x ps.length (flat ps)) (hl : ps.length ≤ 1048576) (hap : ∀ (i : Nat) y, xs[i]? = some y → ∀ b, y.ownBlock = some b → x.ownBlock ≠ some b) : OwnP w' lo v' (n + 1) (xs ++ [x]) (pss ++ [ps]) := by
 have e1 := h.xlen
 have e2 := h.len
 refine ⟨ho, by simp [e2], fun k y p hk hp => ?_, fun i j y z hij hi hj => ?_⟩
 ·by_cases hkn : k < n
  ·rw [List.getElem?_append_left (by omega)] at hk hp
   obtain ⟨a1, a2⟩ := h.each k y p hk hp
   exact ⟨a1, own_grown a2 hg (fun k hk => own_ap a2 h.own (by decide) k hk)⟩
  ·have hk2 : k = n := by have := (List.getElem?_eq_some_iff.1 hk).1; simp at this; omega
   subst hk2
   have h3 : x = y := by
    rw [List.getElem?_append_right (by omega), e1] at hk; simpa using hk
   have h4 : ps = p := by
    rw [List.getElem?_append_right (by omega), e2] at hp; simpa using hp
   subst h3 h4
   exact ⟨hl, own_grown hx hg (fun k hk => own_ap hx h.own (by decide) k hk)⟩
 ·have hj2 : j < n + 1 := by have := (List.getElem?_eq_some_iff.1 hj).1; simp at this; omega
  rw [List.getElem?_append_left (by omega)] at hi
  by_cases hjn : j < n
  ·rw [List.getElem?_append_left (by omega)] at hj
   exact h.apart i j y z hij hi hj
  ·rw [List.getElem?_append_right (by omega)] at hj
   have h3 : x = z := by rw [show j - xs.length = 0 by omega] at hj; simpa using hj
   subst h3
   exact hap i y hi
theorem OwnP.box {w : World} {lo : Nat} {v : Value} {n : Nat} {xs : List Value} {pss : List (List Q)} (h : OwnP w lo v n xs pss) {b : Nat} {vs : Array Value} {f : Nat × Nat} (hb : w.heap[b]? = some (.cells vs 33 f)) (o : Nat) (u : Value) : OwnP (w.setCell ⟨b, o, none⟩ u) lo v n xs pss :=
 ⟨zAo h.own (zAm h.own hb (by decide)) _, h.len, fun k x ps a c => ⟨(h.each k x ps a c).1, zAo (h.each k x ps a c).2 (zAm (h.each k x ps a c).2 hb (by decide)) _⟩, h.apart⟩
theorem OwnP.nil (w : World) (lo : Nat) : OwnP w lo (.slice none 0 0) 0 [] [] := ⟨own_nil _ _ _ _, rfl, fun k x ps h => by simp at h, fun i j x y _ h => by simp at h⟩
structure TR (w wr : World) (b : Nat) (a : RA) (r : Rm) (R : Option Addr) (k cp : Nat) (xs : List Value) : Prop where
 bx : wr.heap[b]? = some (.cells #[.slice a.A a.n a.c, .slice a.B a.m a.d, .slice a.U a.nu a.cu, .slice R k cp, .slice a.L a.nl a.cl] 33 (0, 0))
 par : wr.ownsRow w.heap.size 3 1 (.slice a.A a.n a.c) a.n (ints r.par)
 nodes : wr.ownsRow w.heap.size 199 4 (.slice a.B a.m a.d) a.m (flat r.nodes)
 up : wr.ownsRow w.heap.size 4 1 (.slice a.U a.nu a.cu) a.nu (bools r.up)
 profs : OwnP wr w.heap.size (.slice R k cp) k xs (r.profs.take k)
 lics : wr.ownsRow w.heap.size 177 4 (.slice a.L a.nl a.cl) a.nl (flat r.lics)
 apart : ∀ (i : Nat) x, xs[i]? = some x → ∀ b, x.ownBlock = some b → ¬ atB a.L b
 bel : Below w.heap.size w wr
 hb : w.heap.size + 1 < b
theorem TR.step {w wr w' : World} {b : Nat} {a : RA} {r : Rm} {R : Option Addr} {k cp : Nat} {xs : List Value} (h : TR w wr b a r R k cp xs) (hb : Below wr.heap.size wr w') : TR w w' b a r R k cp xs :=
 ⟨zAg h.bx hb, zAe h.par hb, zAe h.nodes hb, zAe h.up hb, h.profs.bel hb, zAe h.lics hb, h.apart, zAc h.bel hb, h.hb⟩
theorem atB_own' {A : Option Addr} {n c g : Nat} (h : atB A g) : (Value.slice A n c).ownBlock = some g := by
 obtain ⟨o, rfl⟩ := h
 rfl
theorem TR.app {w wr w' : World} {b : Nat} {a : RA} {r : Rm} {R R' : Option Addr} {k cp cp' : Nat} {xs : List Value} {x : Value} {ps : List Q} (h : TR w wr b a r R k cp xs) (hps : r.profs[k]? = some ps)
  (ho : w'.ownsRow w.heap.size 31 1 (.slice R' (k + 1) cp') (k + 1) (xs ++ [x])) (hg : wr.grownBy w' (Value.slice R k cp).ownBlock) {lo : Nat} (hx : wr.ownsRow lo 177 4 x ps.length (flat ps)) (hlo : w.heap.size ≤ lo) (hl : ps.length ≤ 1048576)
  (hap : ∀ (i : Nat) y, xs[i]? = some y → ∀ b, y.ownBlock = some b → x.ownBlock ≠ some b) (hap2 : ∀ b, x.ownBlock = some b → ¬ atB a.L b) : TR w (w'.setCell ⟨b, 3, none⟩ (.slice R' (k + 1) cp')) b a r R' (k + 1) cp' (xs ++ [x]) := by
 have hrow : ∀ j, (Value.slice R k cp).ownBlock = some j → j ≠ b := zAm h.profs.own h.bx (by decide)
 have b1 := zAr h.bx hg hrow
 have b2 := zAq (i := 3) (v := .slice R' (k + 1) cp') b1
 have hgp : ∀ {e : TypeId} {size n : Nat} {v : Value} {ys : List Value}, wr.ownsRow w.heap.size e size v n ys → e ≠ 31 → e ≠ 33 → (w'.setCell ⟨b, 3, none⟩ (.slice R' (k + 1) cp')).ownsRow w.heap.size e size v n ys := fun hh he he2 =>
  zAo (own_grown hh hg (fun j hj => own_ap hh h.profs.own he j hj)) (zAm (own_grown hh hg (fun j hj => own_ap hh h.profs.own he j hj)) b1 he2) _
 refine ⟨by simpa using b2, hgp h.par (by decide) (by decide), hgp h.nodes (by decide) (by decide), hgp h.up (by decide) (by decide), ?_, hgp h.lics (by decide) (by decide), ?_, (Below.grown h.bel hg h.bel.size (fun j hj => own_ge h.profs.own j hj)).setCell (by have := h.hb; show w.heap.size ≤ b; omega) _, h.hb⟩
 ·rw [take_snoc' hps]
  exact (h.profs.app ho hg (zAn hx hlo) hl hap).box b1 3 _
 ·intro i y hi bb hbb
  have e1 := h.profs.xlen
  by_cases hin : i < xs.length
  ·rw [List.getElem?_append_left hin] at hi
   exact h.apart i y hi bb hbb
  ·rw [List.getElem?_append_right (by omega)] at hi
   have h3 : x = y := by
    have h9 : i - xs.length = 0 := by have := (List.getElem?_eq_some_iff.1 hi).1; simp at this; omega
    rw [h9] at hi; simpa using hi
   subst h3
   exact hap2 bb hbb
theorem TR.done {w wr : World} {b : Nat} {a : RA} {r : Rm} {R : Option Addr} {k cp : Nat} {xs : List Value} (h : TR w wr b a r R k cp xs) (hk : r.profs.length = k) (h1 : a.n ≤ 1048576) (h2 : a.m ≤ 1048576) (h3 : a.nu ≤ 1048576) (h4 : k ≤ 1048576) (h5 : a.nl ≤ 1048576) :
  RoomOwn wr w.heap.size { a with R := R, np := k, cp := cp } r xs :=
 ⟨h1, h2, h3, h4, h5, h.par, h.nodes, h.up, by have := h.profs; rwa [List.take_of_length_le (by omega)] at this, h.lics, h.apart⟩
theorem set5 {w : World} {b : Nat} {z0 z1 z2 z3 z4 v0 v1 v2 v3 v4 : Value} {t : TypeId} {f : Nat × Nat} (h : w.heap[b]? = some (.cells #[z0, z1, z2, z3, z4] t f)) :
  (((((w.setCell ⟨b, 0, none⟩ v0).setCell ⟨b, 1, none⟩ v1).setCell ⟨b, 2, none⟩ v2).setCell ⟨b, 3, none⟩ v3).setCell ⟨b, 4, none⟩ v4).heap[b]? = some (.cells #[v0, v1, v2, v3, v4] t f) := by
 have := zAq (i := 4) (v := v4) (zAq (i := 3) (v := v3) (zAq (i := 2) (v := v2) (zAq (i := 1) (v := v1) (zAq (i := 0) (v := v0) h))))
 simpa using this
theorem own_set5 {w : World} {lo : Nat} {e : TypeId} {size : Nat} {v : Value} {n : Nat} {xs : List Value} {b : Nat} {vs : Array Value} {t : TypeId} {f : Nat × Nat} (h : w.ownsRow lo e size v n xs) (hb : w.heap[b]? = some (.cells vs t f)) (he : e ≠ t) (v0 v1 v2 v3 v4 : Value) :
  (((((w.setCell ⟨b, 0, none⟩ v0).setCell ⟨b, 1, none⟩ v1).setCell ⟨b, 2, none⟩ v2).setCell ⟨b, 3, none⟩ v3).setCell ⟨b, 4, none⟩ v4).ownsRow lo e size v n xs := by
 have hn := zAm h hb he
 exact zAo (zAo (zAo (zAo (zAo h hn _) hn _) hn _) hn _) hn _
theorem TR.start {w wr : World} {b : Nat} {a : RA} {r : Rm} (hp : wr.ownsRow w.heap.size 3 1 (.slice a.A a.n a.c) a.n (ints r.par)) (hn : wr.ownsRow w.heap.size 199 4 (.slice a.B a.m a.d) a.m (flat r.nodes)) (hu : wr.ownsRow w.heap.size 4 1 (.slice a.U a.nu a.cu) a.nu (bools r.up)) (hl : wr.ownsRow w.heap.size 177 4 (.slice a.L a.nl a.cl) a.nl (flat r.lics)) (hbel : Below w.heap.size w wr) (hb : w.heap.size + 1 < b) {z : Array Value} (hz : wr.heap[b]? = some (.cells z 33 (0, 0))) (hz5 : ∃ z0 z1 z2 z3 z4, z = #[z0, z1, z2, z3, z4]) :
  TR w (((((wr.setCell ⟨b, 0, none⟩ (.slice a.A a.n a.c)).setCell ⟨b, 1, none⟩ (.slice a.B a.m a.d)).setCell ⟨b, 2, none⟩ (.slice a.U a.nu a.cu)).setCell ⟨b, 3, none⟩ (.slice none 0 0)).setCell ⟨b, 4, none⟩ (.slice a.L a.nl a.cl)) b a r none 0 0 [] := by
 obtain ⟨z0, z1, z2, z3, z4, rfl⟩ := hz5
 have hle : w.heap.size ≤ b := by omega
 exact ⟨set5 hz, own_set5 hp hz (by decide) _ _ _ _ _, own_set5 hn hz (by decide) _ _ _ _ _, own_set5 hu hz (by decide) _ _ _ _ _, OwnP.nil _ _, own_set5 hl hz (by decide) _ _ _ _ _, fun i x h => by simp at h, ((((hbel.setCell hle _).setCell hle _).setCell hle _).setCell hle _).setCell hle _, hb⟩
theorem TR.start2 {w wr : World} {a : RA} {r : Rm} (hp : wr.ownsRow w.heap.size 3 1 (.slice a.A a.n a.c) a.n (ints r.par)) (hn : wr.ownsRow w.heap.size 199 4 (.slice a.B a.m a.d) a.m (flat r.nodes)) (hu : wr.ownsRow w.heap.size 4 1 (.slice a.U a.nu a.cu) a.nu (bools r.up)) (hl : wr.ownsRow w.heap.size 177 4 (.slice a.L a.nl a.cl) a.nl (flat r.lics)) (hbel : Below w.heap.size w wr) (hb : w.heap.size + 1 < wr.heap.size) :
  TR w (wr.alloc (.cells #[.slice a.A a.n a.c, .slice a.B a.m a.d, .slice a.U a.nu a.cu, .slice none 0 0, .slice a.L a.nl a.cl] 33)) wr.heap.size a r none 0 0 [] :=
 ⟨zAk _ rfl, zAe hp (zAa _ _), zAe hn (zAa _ _), zAe hu (zAa _ _), OwnP.nil _ _, zAe hl (zAa _ _), fun i x h => by simp at h, zAc hbel (zAa _ _), hb⟩
end Go.Proofs.YtnphjhbfpoekpaaGreat
