import Derived.Test.YtnphjhbfpoekpaaGreatFfPj
import Derived.Test.YtnphjhbfpoekpaaGreatA22Pj
import Derived.Test.YtnphjhbfpoekpaaGreatFkPj
import Derived.Test.YtnphjhbfpoekpaaGreatVkPj
import Derived.Test.YtnphjhbfpoekpaaGreatFhPj
import Derived.Deep.RegionHeld3
import Derived.Test.YtnphjhbfpoekpaaGreatHfPj
import Derived.Test.YtnphjhbfpoekpaaGreatA11Pj
namespace Go.Proofs.YtnphjhbfpoekpaaGreat
set_option linter.unusedSimpArgs false
set_option linter.unusedVariables false
set_option linter.unnecessarySimpa false
open Go.RowKit
def bmk (k : Int) : Value := .bool (k % 3 == 0)
def bmarks (k0 : Int) (m : Nat) : List Value := (List.range m).map fun (j : Nat) => bmk (k0 + (j : Int))
def cntP (pss : List (List Q)) : Nat := (pss.map List.length).sum
structure PM (w : World) (A : Option Addr) (n : Nat) (xs : List Value) (pss : List (List Q)) (k0 : Int) (k : Nat) : Prop where
  row : Rd w A n 1 xs
  rl : ∀ g, A = some ⟨g, 0, none⟩ → g < w.heap.size
  len : pss.length = n
  each : ∀ (i : Nat) x ps, i < k → xs[i]? = some x → pss[i]? = some ps → ps.length ≤ 1048576 ∧ ∃ B c, x = .slice B ps.length c ∧ Rd w B ps.length 4 (imarks (k0 + 4 * (cntP (pss.take i) : Int)) (ps.length * 4)) ∧ ∀ g, B = some ⟨g, 0, none⟩ → g < w.heap.size
theorem PM.fr {S : Nat → Prop} {w w' : World} {A : Option Addr} {n : Nat} {xs : List Value} {pss : List (List Q)} {k0 : Int} {k : Nat} (h : PM w A n xs pss k0 k) (hb : Fr S w w') (h1 : ∀ b, atB A b → ¬ S b) (h2 : ∀ b, atX xs k b → ¬ S b) : PM w' A n xs pss k0 k :=
  ⟨h.row.fr h.rl hb h1, fun g hg => Nat.lt_of_lt_of_le (h.rl g hg) hb.size, h.len, fun i x ps hi hx hp => by
    obtain ⟨hl, B, c, rfl, hr, hB⟩ := h.each i x ps hi hx hp
    exact ⟨hl, B, c, rfl, hr.fr hB hb (fun b hb2 => h2 b ⟨i, _, hi, hx, atB_own' hb2⟩), fun g hg => Nat.lt_of_lt_of_le (hB g hg) hb.size⟩⟩
theorem PM.bel {w w' : World} {A : Option Addr} {n : Nat} {xs : List Value} {pss : List (List Q)} {k0 : Int} {k : Nat} (h : PM w A n xs pss k0 k) (hb : Below w.heap.size w w') : PM w' A n xs pss k0 k :=
  h.fr (Fr.of_below (fun _ => False) hb) (fun _ _ h => h) (fun _ _ h => h)
structure RoomMk (w : World) (a : RA) (r : Rm) (xs : List Value) : Prop where
  n : a.n ≤ 1048576
  m : a.m ≤ 1048576
  nu : a.nu ≤ 1048576
  np : a.np ≤ 1048576
  nl : a.nl ≤ 1048576
  cn : 4 * (cntP r.profs : Int) ≤ 4194304 * (a.np : Int)
  par : Rd w a.A a.n 1 (imarks 1 (a.n * 1))
  nodes : Rd w a.B a.m 4 (imarks (1 + 1 * (a.n : Int)) (a.m * 4))
  up : Rd w a.U a.nu 1 (bmarks (1 + 1 * (a.n : Int) + 4 * (a.m : Int)) a.nu)
  profs : PM w a.R a.np xs r.profs (1 + 1 * (a.n : Int) + 4 * (a.m : Int) + (a.nu : Int)) a.np
  lics : Rd w a.L a.nl 4 (imarks (1 + 1 * (a.n : Int) + 4 * (a.m : Int) + (a.nu : Int) + 4 * (cntP r.profs : Int)) (a.nl * 4))
  lA : ∀ g, a.A = some ⟨g, 0, none⟩ → g < w.heap.size
  lB : ∀ g, a.B = some ⟨g, 0, none⟩ → g < w.heap.size
  lU : ∀ g, a.U = some ⟨g, 0, none⟩ → g < w.heap.size
  lL : ∀ g, a.L = some ⟨g, 0, none⟩ → g < w.heap.size
theorem RoomMk.bel {w w' : World} {a : RA} {r : Rm} {xs : List Value} (h : RoomMk w a r xs) (hb : Below w.heap.size w w') : RoomMk w' a r xs :=
  ⟨h.n, h.m, h.nu, h.np, h.nl, h.cn, h.par.below h.lA hb, h.nodes.below h.lB hb, h.up.below h.lU hb, h.profs.bel hb, h.lics.below h.lL hb, zAi h.lA hb, zAi h.lB hb, zAi h.lU hb, zAi h.lL hb⟩
theorem own_atB {w : World} {lo : Nat} {e : TypeId} {size : Nat} {A : Option Addr} {n c m : Nat} {xs : List Value} (h : w.ownsRow lo e size (.slice A n c) m xs) {k : Nat} (hk : (Value.slice A n c).ownBlock = some k) : atB A k := by
  rcases h.2 with ⟨h0, _⟩ | ⟨g, cap, cur, hv, _⟩
  · cases h0; cases hk
  · cases hv; cases hk; exact ⟨0, rfl⟩
def atQ (a : RA) (xs : List Value) (b : Nat) : Prop := atR a xs b ∨ atB a.R b
theorem RoomOwn.fr {S : Nat → Prop} {w w' : World} {lo : Nat} {a : RA} {r : Rm} {xs : List Value} (h : RoomOwn w lo a r xs) (hb : Fr S w w') (hd : ∀ b, atQ a xs b → ¬ S b) : RoomOwn w' lo a r xs :=
  ⟨h.n, h.m, h.nu, h.np, h.nl, own_fr h.par hb (fun k hk => hd k (Or.inl (Or.inl (own_atB h.par hk)))), own_fr h.nodes hb (fun k hk => hd k (Or.inl (Or.inr (Or.inl (own_atB h.nodes hk))))), own_fr h.up hb (fun k hk => hd k (Or.inl (Or.inr (Or.inr (Or.inl (own_atB h.up hk)))))),
   h.profs.fr hb (fun k hk => hd k (Or.inr hk)) (fun k hk => hd k (Or.inl (Or.inr (Or.inr (Or.inr (Or.inl hk)))))), own_fr h.lics hb (fun k hk => hd k (Or.inl (Or.inr (Or.inr (Or.inr (Or.inr (own_atB h.lics hk))))))), h.apart⟩
theorem RoomMk.fr {S : Nat → Prop} {w w' : World} {a : RA} {r : Rm} {xs : List Value} (h : RoomMk w a r xs) (hb : Fr S w w') (hd : ∀ b, atQ a xs b → ¬ S b) : RoomMk w' a r xs :=
  ⟨h.n, h.m, h.nu, h.np, h.nl, h.cn, h.par.fr h.lA hb (fun k hk => hd k (Or.inl (Or.inl hk))), h.nodes.fr h.lB hb (fun k hk => hd k (Or.inl (Or.inr (Or.inl hk)))), h.up.fr h.lU hb (fun k hk => hd k (Or.inl (Or.inr (Or.inr (Or.inl hk))))), h.profs.fr hb (fun k hk => hd k (Or.inr hk)) (fun k hk => hd k (Or.inl (Or.inr (Or.inr (Or.inr (Or.inl hk)))))), h.lics.fr h.lL hb (fun k hk => hd k (Or.inl (Or.inr (Or.inr (Or.inr (Or.inr hk)))))), lt_fr h.lA hb, lt_fr h.lB hb, lt_fr h.lU hb, lt_fr h.lL hb⟩
theorem own_cap9 {w : World} {lo : Nat} {e : TypeId} {size : Nat} {A : Option Addr} {n c : Nat} {xs : List Value} (h : w.ownsRow lo e size (.slice A n c) n xs) : n ≤ c ∧ c ≤ 9223372036854775807 := by
 rcases h.2 with ⟨h0, h1⟩ | ⟨g, cap, cur, hv, _, _, h3, h4, _⟩
 ·cases h0; omega
 ·cases hv; unfold maxLen at h4; exact ⟨h3, h4⟩
structure BX (w wr : World) (b : Nat) (t : TypeId) (cs : List Value) : Prop where
 bx : wr.heap[b]? = some (.cells cs.toArray t (0, 0))
 bel : Below w.heap.size w wr
 hb : w.heap.size ≤ b
theorem BX.step {w wr w' : World} {b : Nat} {t : TypeId} {cs : List Value} (h : BX w wr b t cs) (hb : Below wr.heap.size wr w') : BX w w' b t cs := ⟨zAg h.bx hb, zAc h.bel hb, h.hb⟩
theorem BX.set {w wr : World} {b : Nat} {t : TypeId} {cs : List Value} (h : BX w wr b t cs) (i : Nat) (v : Value) : BX w (wr.setCell ⟨b, i, none⟩ v) b t (cs.set i v) := ⟨(zAt h.bx).trans (by simp), h.bel.setCell h.hb v, h.hb⟩
theorem BX.far {w wr : World} {b : Nat} {t : TypeId} {cs : List Value} (h : BX w wr b t cs) {b' : Nat} (hn : b ≠ b') (hb : w.heap.size ≤ b') (i : Nat) (v : Value) : BX w (wr.setCell ⟨b', i, none⟩ v) b t cs := ⟨bx_set h.bx hn v, h.bel.setCell hb v, h.hb⟩
theorem BX.sets {w : World} {b : Nat} {t : TypeId} : ∀ (vs : List Value) (o : Nat) {wr : World} {cs : List Value}, BX w wr b t cs → BX w (wr.setCells b o vs) b t (setL cs o vs)
 | [], _, _, _, h => h
 | v :: vs, o, _, _, h => BX.sets vs (o + 1) (h.set o v)
theorem BX.fars {w : World} {b b' : Nat} {t : TypeId} {cs : List Value} (hn : b ≠ b') (hb : w.heap.size ≤ b') : ∀ (vs : List Value) (o : Nat) {wr : World}, BX w wr b t cs → BX w (wr.setCells b' o vs) b t cs
 | [], _, _, h => h
 | v :: vs, o, _, h => BX.fars hn hb vs (o + 1) (h.far hn hb o v)
theorem own_sets {lo : Nat} {e : TypeId} {size : Nat} {v : Value} {n : Nat} {xs : List Value} {b : Nat} (hb : b < lo) : ∀ (vs : List Value) (o : Nat) {wr : World}, wr.ownsRow lo e size v n xs → (wr.setCells b o vs).ownsRow lo e size v n xs
 | [], _, _, h => h
 | u :: vs, o, _, h => own_sets hb vs (o + 1) (ownsRow_setCell_below h (a := ⟨b, o, none⟩) hb u)
theorem BX.start {w w' : World} {o : Obj} {t : TypeId} {cs : List Value} (hw : Below w.heap.size w w') (ho : o = .cells cs.toArray t) : BX w (w'.alloc o) w'.heap.size t cs := ⟨by rw [zAk o rfl, ho], zAc hw (zAa _ _), hw.size⟩
end Go.Proofs.YtnphjhbfpoekpaaGreat
