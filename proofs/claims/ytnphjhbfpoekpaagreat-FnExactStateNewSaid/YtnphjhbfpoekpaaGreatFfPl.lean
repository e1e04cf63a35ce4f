import Derived.Test.YtnphjhbfpoekpaaGreatFdPl
import Derived.Test.YtnphjhbfpoekpaaGreatFePl
import Derived.Test.YtnphjhbfpoekpaaGreatA22Pl
namespace Go.Proofs.YtnphjhbfpoekpaaGreat
set_option linter.unusedSimpArgs false
set_option linter.unusedVariables false
set_option linter.unnecessarySimpa false
open Go.RowKit
theorem OwnP.put {w : World} {lo lo' g n c z : Nat} {xs : List Value} {pss : List (List Q)} {u : Value} {ps : List Q} (h : OwnP w lo (.slice (some ⟨g, 0, none⟩) n c) n xs pss) (hz : z < n) (hu : w.ownsRow lo' 177 4 u ps.length (flat ps)) (hlo : lo ≤ lo') (hl : ps.length ≤ 1048576)
  (hfr : ∀ (i : Nat) y, xs[i]? = some y → ∀ b, y.ownBlock = some b → b < lo') : OwnP (w.setCell ⟨g, z, none⟩ u) lo (.slice (some ⟨g, 0, none⟩) n c) n (xs.set z u) (pss.set z ps) := by
 have e1 := h.xlen
 have e2 := h.len
 refine ⟨own_put h.own (by omega), by simp [e2], fun k y p hk hp => ?_, fun i j y y2 hij hi hj b hb hb2 => ?_⟩
 ·by_cases hkz : k = z
  ·subst hkz
   rw [List.getElem?_set_self (by omega)] at hk hp
   obtain rfl := Option.some.inj hk
   obtain rfl := Option.some.inj hp
   exact ⟨hl, zAo (zAn hu hlo) (fun k hk e => own_ap hu h.own (by decide) k hk (by rw [e]; rfl)) _⟩
  ·rw [List.getElem?_set_ne (fun e => hkz e.symm)] at hk hp
   obtain ⟨a1, a2⟩ := h.each k y p hk hp
   exact ⟨a1, zAo a2 (fun k hk e => own_ap a2 h.own (by decide) k hk (by rw [e]; rfl)) _⟩
 ·by_cases hiz : i = z
  ·subst hiz
   rw [List.getElem?_set_self (by omega)] at hi
   obtain rfl := Option.some.inj hi
   rw [List.getElem?_set_ne (by omega)] at hj
   have q1 := hfr j y2 hj b hb2
   have q2 := own_ge hu b hb
   omega
  ·rw [List.getElem?_set_ne (fun e => hiz e.symm)] at hi
   by_cases hjz : j = z
   ·subst hjz
    rw [List.getElem?_set_self (by omega)] at hj
    obtain rfl := Option.some.inj hj
    have q1 := hfr i y hi b hb
    have q2 := own_ge hu b hb2
    omega
   ·rw [List.getElem?_set_ne (fun e => hjz e.symm)] at hj
    exact h.apart i j y y2 hij hi hj b hb hb2
structure MR (w wr : World) (b : Nat) (a : RA) (r : Rm) (xs : List Value) : Prop where
 bx : wr.heap[b]? = some (.cells #[.slice a.A a.n a.c, .slice a.B a.m a.d, .slice a.U a.nu a.cu, .slice a.R a.np a.cp, .slice a.L a.nl a.cl] 33 (0, 0))
 own : RoomOwn wr w.heap.size a r xs
 bel : Below w.heap.size w wr
 hb : w.heap.size ≤ b
theorem MR.step {w wr w' : World} {b : Nat} {a : RA} {r : Rm} {xs : List Value} (h : MR w wr b a r xs) (hb : Below wr.heap.size wr w') : MR w w' b a r xs :=
 ⟨zAg h.bx hb, h.own.bel hb, zAc h.bel hb, h.hb⟩
theorem MR.put {w wr : World} {b : Nat} {A B U L : Option Addr} {n m nu np nl c d cu cp cl g z lo' : Nat} {r : Rm} {xs : List Value} {u : Value} {ps : List Q} (h : MR w wr b ⟨A, B, U, some ⟨g, 0, none⟩, L, n, m, nu, np, nl, c, d, cu, cp, cl⟩ r xs) (hz : z < np) (hu : wr.ownsRow lo' 177 4 u ps.length (flat ps)) (hlo : w.heap.size ≤ lo') (hl : ps.length ≤ 1048576)
  (hfr : ∀ (i : Nat) y, xs[i]? = some y → ∀ b, y.ownBlock = some b → b < lo') (hfl : ∀ b, atB L b → b < lo') : MR w (wr.setCell ⟨g, z, none⟩ u) b ⟨A, B, U, some ⟨g, 0, none⟩, L, n, m, nu, np, nl, c, d, cu, cp, cl⟩ { r with profs := r.profs.set z ps } (xs.set z u) := by
 have o := h.own
 have hgb : g ≠ b := zAm o.profs.own h.bx (by decide) g rfl
 have hg := own_ge o.profs.own g rfl
 have e1 := o.profs.xlen
 dsimp only at e1
 refine ⟨bx_set h.bx (fun e => hgb e.symm) _, ⟨o.n, o.m, o.nu, o.np, o.nl, zAo o.par (fun k hk e => own_ap o.par o.profs.own (by decide) k hk (by rw [e]; rfl)) _, zAo o.nodes (fun k hk e => own_ap o.nodes o.profs.own (by decide) k hk (by rw [e]; rfl)) _, zAo o.up (fun k hk e => own_ap o.up o.profs.own (by decide) k hk (by rw [e]; rfl)) _, o.profs.put hz hu hlo hl hfr, zAo o.lics (fun k hk e => own_ap o.lics o.profs.own (by decide) k hk (by rw [e]; rfl)) _, ?_⟩, h.bel.setCell hg _, h.hb⟩
 intro i x hi b9 hb9
 by_cases hiz : i = z
 ·subst hiz
  rw [List.getElem?_set_self (by omega)] at hi
  obtain rfl := Option.some.inj hi
  intro h9
  have q1 := hfl b9 h9
  have q2 := own_ge hu b9 hb9
  omega
 ·rw [List.getElem?_set_ne (fun e => hiz e.symm)] at hi
  exact o.apart i x hi b9 hb9
theorem MR.lic {w wr : World} {b : Nat} {a : RA} {r : Rm} {xs : List Value} {X : Option Addr} {cx lo' : Nat} {l : List Q} (h : MR w wr b a r xs) (hu : wr.ownsRow lo' 177 4 (.slice X l.length cx) l.length (flat l)) (hlo : w.heap.size ≤ lo') (hl : l.length ≤ 1048576)
  (hfr : ∀ (i : Nat) y, xs[i]? = some y → ∀ b, y.ownBlock = some b → b < lo') : MR w (wr.setCell ⟨b, 4, none⟩ (.slice X l.length cx)) b { a with L := X, nl := l.length, cl := cx } { r with lics := l } xs := by
 have o := h.own
 have e5 := zAq (i := 4) (v := .slice X l.length cx) h.bx
 refine ⟨by simpa using e5, ⟨o.n, o.m, o.nu, o.np, hl, zAo o.par (zAm o.par h.bx (by decide)) _, zAo o.nodes (zAm o.nodes h.bx (by decide)) _, zAo o.up (zAm o.up h.bx (by decide)) _, o.profs.box h.bx 4 _, zAo (zAn hu hlo) (zAm hu h.bx (by decide)) _, ?_⟩, h.bel.setCell h.hb _, h.hb⟩
 intro i x hi b9 hb9 h9
 have q1 := hfr i x hi b9 hb9
 have q2 := own_ge hu b9 (atB_own' h9)
 omega
theorem nodesV_cons {mv : List Q → Option (List Q)} {nd : List Int} {k : Nat} {z : Int} {ps : List (List Q)} (hz : nd[k]? = some z) : nodesV mv (nd.drop k) ps = (match mv (ps.getD z.toNat []) with | none => none | some p => nodesV mv (nd.drop (k + 1)) (ps.set z.toNat p)) := by
 have h1 := List.getElem?_eq_some_iff.1 hz
 rw [List.drop_eq_getElem_cons h1.1, h1.2]
 simp only [nodesV]
 cases mv (ps.getD z.toNat []) <;> rfl
end Go.Proofs.YtnphjhbfpoekpaaGreat
