import Derived.Test.YtnphjhbfpoekpaaGreatFkPh
import Derived.Test.YtnphjhbfpoekpaaGreatA11Ph
import Derived.Test.YtnphjhbfpoekpaaGreatFfPh
import Derived.Test.YtnphjhbfpoekpaaGreatA22Ph
namespace Go.Proofs.YtnphjhbfpoekpaaGreat
set_option linter.unusedSimpArgs false
set_option linter.unusedVariables false
set_option linter.unnecessarySimpa false
open Go.RowKit
def hcells : List Hd → List Value → List Value
 | h :: hs, x :: ss => .int .i64 h.id :: .int .i64 h.at_ :: x :: hcells hs ss
 | _, _ => []
theorem hcells_app : ∀ {hs : List Hd} {ss : List Value} {h : Hd} {x : Value}, hs.length = ss.length → hcells (hs ++ [h]) (ss ++ [x]) = hcells hs ss ++ [.int .i64 h.id, .int .i64 h.at_, x]
 | [], [], _, _, _ => rfl
 | a :: hs, y :: ss, h, x, e => by
  have := hcells_app (hs := hs) (ss := ss) (h := h) (x := x) (by simpa using e)
  simp only [List.cons_append, hcells, this]
theorem hcells_get : ∀ {hs : List Hd} {ss : List Value} {k : Nat} {h : Hd} {x : Value}, hs[k]? = some h → ss[k]? = some x → (hcells hs ss)[k * 3]? = some (.int .i64 h.id) ∧ (hcells hs ss)[k * 3 + 1]? = some (.int .i64 h.at_) ∧ (hcells hs ss)[k * 3 + 2]? = some x
 | a :: hs, y :: ss, 0, h, x, e1, e2 => by
  simp at e1 e2
  subst e1 e2
  simp [hcells]
 | a :: hs, y :: ss, k + 1, h, x, e1, e2 => by
  have := hcells_get (hs := hs) (ss := ss) (k := k) (h := h) (x := x) (by simpa using e1) (by simpa using e2)
  simp only [hcells, show (k + 1) * 3 = k * 3 + 1 + 1 + 1 by omega, show k * 3 + 1 + 1 + 1 + 1 = (k * 3 + 1) + 1 + 1 + 1 by omega, show k * 3 + 1 + 1 + 1 + 2 = (k * 3 + 2) + 1 + 1 + 1 by omega, List.getElem?_cons_succ]
  exact this
 | [], _, _, _, _, e1, _ => by simp at e1
 | _ :: _, [], _, _, _, _, e2 => by simp at e2
structure OwnH (w : World) (lo : Nat) (v : Value) (n : Nat) (ss : List Value) (hs : List Hd) : Prop where
 own : w.ownsRow lo 41 3 v n (hcells hs ss)
 len : hs.length = n
 slen : ss.length = n
 each : ∀ (k : Nat) x h, ss[k]? = some x → hs[k]? = some h → h.nd.length ≤ 1048576 ∧ w.ownsRow lo 3 1 x h.nd.length (ints h.nd)
 apart : ∀ (i j : Nat) x y, i < j → ss[i]? = some x → ss[j]? = some y → ∀ b, x.ownBlock = some b → y.ownBlock ≠ some b
theorem OwnH.bel {w w' : World} {lo : Nat} {v : Value} {n : Nat} {ss : List Value} {hs : List Hd} (h : OwnH w lo v n ss hs) (hb : Below w.heap.size w w') : OwnH w' lo v n ss hs :=
 ⟨zAe h.own hb, h.len, h.slen, fun k x p a c => ⟨(h.each k x p a c).1, zAe (h.each k x p a c).2 hb⟩, h.apart⟩
theorem OwnH.mono {w : World} {lo lo' : Nat} {v : Value} {n : Nat} {ss : List Value} {hs : List Hd} (h : OwnH w lo v n ss hs) (hl : lo' ≤ lo) : OwnH w lo' v n ss hs :=
 ⟨zAm h.own hl, h.len, h.slen, fun k x p a c => ⟨(h.each k x p a c).1, zAm (h.each k x p a c).2 hl⟩, h.apart⟩
theorem OwnH.nil (w : World) (lo : Nat) : OwnH w lo (.slice none 0 0) 0 [] [] := ⟨own_nil _ _ _ _, rfl, rfl, fun k x p h => by simp at h, fun i j x y _ h => by simp at h⟩
theorem OwnH.ltx {w : World} {lo : Nat} {v : Value} {n : Nat} {ss : List Value} {hs : List Hd} (h : OwnH w lo v n ss hs) {i : Nat} {y : Value} (hi : ss[i]? = some y) {b : Nat} (hb : y.ownBlock = some b) : b < w.heap.size := by
 have e1 := h.len
 have e2 := h.slen
 have hl := (List.getElem?_eq_some_iff.1 hi).1
 obtain ⟨p, hp⟩ : ∃ p, hs[i]? = some p := ⟨_, zgh (by omega)⟩
 exact own_lt (h.each i y p hi hp).2 b hb
theorem OwnH.app {w w' : World} {lo : Nat} {v v' x : Value} {n : Nat} {ss : List Value} {hs : List Hd} {p : Hd} (h : OwnH w lo v n ss hs) (ho : w'.ownsRow lo 41 3 v' (n + 1) (hcells hs ss ++ [.int .i64 p.id, .int .i64 p.at_, x])) (hg : w.grownBy w' v.ownBlock)
  (hx : w.ownsRow lo 3 1 x p.nd.length (ints p.nd)) (hl : p.nd.length ≤ 1048576) (hap : ∀ (i : Nat) y, ss[i]? = some y → ∀ b, y.ownBlock = some b → x.ownBlock ≠ some b) : OwnH w' lo v' (n + 1) (ss ++ [x]) (hs ++ [p]) := by
 have e1 := h.len
 have e2 := h.slen
 refine ⟨by rw [hcells_app (by omega)]; exact ho, by simp [e1], by simp [e2], fun k y q hk hp => ?_, fun i j y z hij hi hj => ?_⟩
 ·by_cases hkn : k < n
  ·rw [List.getElem?_append_left (by omega)] at hk hp
   obtain ⟨a1, a2⟩ := h.each k y q hk hp
   exact ⟨a1, zAx a2 hg (fun k hk => own_ap a2 h.own (by decide) k hk)⟩
  ·have hk2 : k = n := by have := (List.getElem?_eq_some_iff.1 hk).1; simp at this; omega
   subst hk2
   have h3 : x = y := by rw [List.getElem?_append_right (by omega), e2] at hk; simpa using hk
   have h4 : p = q := by rw [List.getElem?_append_right (by omega), e1] at hp; simpa using hp
   subst h3 h4
   exact ⟨hl, zAx hx hg (fun k hk => own_ap hx h.own (by decide) k hk)⟩
 ·have hj2 : j < n + 1 := by have := (List.getElem?_eq_some_iff.1 hj).1; simp at this; omega
  rw [List.getElem?_append_left (by omega)] at hi
  by_cases hjn : j < n
  ·rw [List.getElem?_append_left (by omega)] at hj
   exact h.apart i j y z hij hi hj
  ·rw [List.getElem?_append_right (by omega)] at hj
   have h3 : x = z := by rw [show j - ss.length = 0 by omega] at hj; simpa using hj
   subst h3
   exact hap i y hi
theorem OwnH.row {w : World} {lo : Nat} {A : Option Addr} {n c : Nat} {ss : List Value} {hs : List Hd} (h : OwnH w lo (.slice A n c) n ss hs) {k : Nat} (hk : k < n) :
  ∃ g p X d, A = some ⟨g, 0, none⟩ ∧ hs[k]? = some p ∧ ss[k]? = some (.slice X p.nd.length d) ∧ p.nd.length ≤ 1048576 ∧ w.ownsRow lo 3 1 (.slice X p.nd.length d) p.nd.length (ints p.nd) ∧ g < w.heap.size ∧
   w.cell? ⟨g, k * 3, none⟩ = some (.int .i64 p.id) ∧ w.cell? ⟨g, k * 3 + 1, none⟩ = some (.int .i64 p.at_) ∧ w.cell? ⟨g, k * 3 + 2, none⟩ = some (.slice X p.nd.length d) := by
 have e1 := h.len
 have e2 := h.slen
 obtain ⟨p, hp⟩ : ∃ p, hs[k]? = some p := ⟨_, zgh (by omega)⟩
 obtain ⟨x, hx⟩ : ∃ x, ss[k]? = some x := ⟨_, zgh (by omega)⟩
 obtain ⟨hl, ho⟩ := h.each k x p hx hp
 obtain ⟨X, d, rfl, _⟩ := zAq ho
 obtain ⟨g, rfl, hc⟩ := (zAn h.own).2 (by omega)
 obtain ⟨c0, c1, c2⟩ := hcells_get hp hx
 exact ⟨g, p, X, d, rfl, hp, hx, hl, ho, own_lt h.own g rfl, hc _ _ c0, hc _ _ c1, hc _ _ c2⟩
def bmk (k : Int) : Value := .bool (k % 3 == 0)
def bmarks (k0 : Int) (m : Nat) : List Value := (List.range m).map fun (j : Nat) => bmk (k0 + (j : Int))
def cntP (pss : List (List Q)) : Nat := (pss.map List.length).sum
structure PM (w : World) (A : Option Addr) (n : Nat) (xs : List Value) (pss : List (List Q)) (k0 : Int) (k : Nat) : Prop where
  row : Rd w A n 1 xs
  rl : ∀ g, A = some ⟨g, 0, none⟩ → g < w.heap.size
  len : pss.length = n
  each : ∀ (i : Nat) x ps, i < k → xs[i]? = some x → pss[i]? = some ps → ps.length ≤ 1048576 ∧ ∃ B c, x = .slice B ps.length c ∧ Rd w B ps.length 4 (imarks (k0 + 4 * (cntP (pss.take i) : Int)) (ps.length * 4)) ∧ ∀ g, B = some ⟨g, 0, none⟩ → g < w.heap.size
theorem PM.fr {S : Nat → Prop} {w w' : World} {A : Option Addr} {n : Nat} {xs : List Value} {pss : List (List Q)} {k0 : Int} {k : Nat} (h : PM w A n xs pss k0 k) (hb : Fr S w w') (h1 : ∀ b, atB A b → ¬ S b) (h2 : ∀ b, atX xs k b → ¬ S b) : PM w' A n xs pss k0 k :=
  ⟨h.row.fr h.rl hb h1, fun g hg => Nat.lt_of_lt_of_le (h.rl g hg) hb.size, h.len, fun i x ps hi hx hp => by
    obtain ⟨hl, B, c, rfl, hr, hB⟩ := h.each i x ps hi hx hp
    exact ⟨hl, B, c, rfl, hr.fr hB hb (fun b hb2 => h2 b ⟨i, _, hi, hx, atB_own' hb2⟩), fun g hg => Nat.lt_of_lt_of_le (hB g hg) hb.size⟩⟩
theorem PM.bel {w w' : World} {A : Option Addr} {n : Nat} {xs : List Value} {pss : List (List Q)} {k0 : Int} {k : Nat} (h : PM w A n xs pss k0 k) (hb : Below w.heap.size w w') : PM w' A n xs pss k0 k :=
  h.fr (Fr.of_below (fun _ => False) hb) (fun _ _ h => h) (fun _ _ h => h)
structure RoomMk (w : World) (a : RA) (r : Rm) (xs : List Value) : Prop where
  n : a.n ≤ 1048576
  m : a.m ≤ 1048576
  nu : a.nu ≤ 1048576
  np : a.np ≤ 1048576
  nl : a.nl ≤ 1048576
  cn : 4 * (cntP r.profs : Int) ≤ 4194304 * (a.np : Int)
  par : Rd w a.A a.n 1 (imarks 1 (a.n * 1))
  nodes : Rd w a.B a.m 4 (imarks (1 + 1 * (a.n : Int)) (a.m * 4))
  up : Rd w a.U a.nu 1 (bmarks (1 + 1 * (a.n : Int) + 4 * (a.m : Int)) a.nu)
  profs : PM w a.R a.np xs r.profs (1 + 1 * (a.n : Int) + 4 * (a.m : Int) + (a.nu : Int)) a.np
  lics : Rd w a.L a.nl 4 (imarks (1 + 1 * (a.n : Int) + 4 * (a.m : Int) + (a.nu : Int) + 4 * (cntP r.profs : Int)) (a.nl * 4))
  lA : ∀ g, a.A = some ⟨g, 0, none⟩ → g < w.heap.size
  lB : ∀ g, a.B = some ⟨g, 0, none⟩ → g < w.heap.size
  lU : ∀ g, a.U = some ⟨g, 0, none⟩ → g < w.heap.size
  lL : ∀ g, a.L = some ⟨g, 0, none⟩ → g < w.heap.size
theorem RoomMk.bel {w w' : World} {a : RA} {r : Rm} {xs : List Value} (h : RoomMk w a r xs) (hb : Below w.heap.size w w') : RoomMk w' a r xs :=
  ⟨h.n, h.m, h.nu, h.np, h.nl, h.cn, h.par.below h.lA hb, h.nodes.below h.lB hb, h.up.below h.lU hb, h.profs.bel hb, h.lics.below h.lL hb, zAi h.lA hb, zAi h.lB hb, zAi h.lU hb, zAi h.lL hb⟩
theorem own_atB {w : World} {lo : Nat} {e : TypeId} {size : Nat} {A : Option Addr} {n c m : Nat} {xs : List Value} (h : w.ownsRow lo e size (.slice A n c) m xs) {k : Nat} (hk : (Value.slice A n c).ownBlock = some k) : atB A k := by
  rcases h.2 with ⟨h0, _⟩ | ⟨g, cap, cur, hv, _⟩
  · cases h0; cases hk
  · cases hv; cases hk; exact ⟨0, rfl⟩
def atQ (a : RA) (xs : List Value) (b : Nat) : Prop := atR a xs b ∨ atB a.R b
theorem room_rng2 {w : World} {lo : Nat} {a : RA} {r : Rm} {xs : List Value} (h : RoomOwn w lo a r xs) : ∀ k, atQ a xs k → lo ≤ k ∧ k < w.heap.size := by
  rintro k (h1 | h1)
  · exact room_rng h k h1
  · exact own_rng h.profs.own k h1
theorem RoomOwn.fr {S : Nat → Prop} {w w' : World} {lo : Nat} {a : RA} {r : Rm} {xs : List Value} (h : RoomOwn w lo a r xs) (hb : Fr S w w') (hd : ∀ b, atQ a xs b → ¬ S b) : RoomOwn w' lo a r xs :=
  ⟨h.n, h.m, h.nu, h.np, h.nl, own_fr h.par hb (fun k hk => hd k (Or.inl (Or.inl (own_atB h.par hk)))), own_fr h.nodes hb (fun k hk => hd k (Or.inl (Or.inr (Or.inl (own_atB h.nodes hk))))), own_fr h.up hb (fun k hk => hd k (Or.inl (Or.inr (Or.inr (Or.inl (own_atB h.up hk)))))),
   h.profs.fr hb (fun k hk => hd k (Or.inr hk)) (fun k hk => hd k (Or.inl (Or.inr (Or.inr (Or.inr (Or.inl hk)))))), own_fr h.lics hb (fun k hk => hd k (Or.inl (Or.inr (Or.inr (Or.inr (Or.inr (own_atB h.lics hk))))))), h.apart⟩
theorem RoomMk.fr {S : Nat → Prop} {w w' : World} {a : RA} {r : Rm} {xs : List Value} (h : RoomMk w a r xs) (hb : Fr S w w') (hd : ∀ b, atQ a xs b → ¬ S b) : RoomMk w' a r xs :=
  ⟨h.n, h.m, h.nu, h.np, h.nl, h.cn, h.par.fr h.lA hb (fun k hk => hd k (Or.inl (Or.inl hk))), h.nodes.fr h.lB hb (fun k hk => hd k (Or.inl (Or.inr (Or.inl hk)))), h.up.fr h.lU hb (fun k hk => hd k (Or.inl (Or.inr (Or.inr (Or.inl hk))))), h.profs.fr hb (fun k hk => hd k (Or.inr hk)) (fun k hk => hd k (Or.inl (Or.inr (Or.inr (Or.inr (Or.inl hk)))))), h.lics.fr h.lL hb (fun k hk => hd k (Or.inl (Or.inr (Or.inr (Or.inr (Or.inr hk)))))), lt_fr h.lA hb, lt_fr h.lB hb, lt_fr h.lU hb, lt_fr h.lL hb⟩
def hcnt (hs : List Hd) : Nat := (hs.map fun h => 2 + h.nd.length).sum
structure HM (w : World) (A : Option Addr) (n : Nat) (ss : List Value) (hs : List Hd) (k0 : Int) (k : Nat) : Prop where
 len : hs.length = n
 rl : ∀ g, A = some ⟨g, 0, none⟩ → g < w.heap.size
 each : ∀ (i : Nat) p, i < k → hs[i]? = some p → ∃ g X d, A = some ⟨g, 0, none⟩ ∧ ss[i]? = some (.slice X p.nd.length d) ∧ p.nd.length ≤ 1048576 ∧
  w.cell? ⟨g, i * 3, none⟩ = some (.int .i64 (k0 + (hcnt (hs.take i) : Int))) ∧ w.cell? ⟨g, i * 3 + 1, none⟩ = some (.int .i64 (k0 + (hcnt (hs.take i) : Int) + 1)) ∧ w.cell? ⟨g, i * 3 + 2, none⟩ = some (.slice X p.nd.length d) ∧
  Rd w X p.nd.length 1 (imarks (k0 + (hcnt (hs.take i) : Int) + 1 + 1) (p.nd.length * 1)) ∧ ∀ g', X = some ⟨g', 0, none⟩ → g' < w.heap.size
theorem HM.fr {S : Nat → Prop} {w w' : World} {A : Option Addr} {n : Nat} {ss : List Value} {hs : List Hd} {k0 : Int} {k : Nat} (h : HM w A n ss hs k0 k) (hb : Fr S w w') (h1 : ∀ b, atB A b → ¬ S b) (h2 : ∀ b, atX ss k b → ¬ S b) : HM w' A n ss hs k0 k :=
 ⟨h.len, fun g hg => Nat.lt_of_lt_of_le (h.rl g hg) hb.size, fun i p hi hp => by
  obtain ⟨g, X, d, hA, hs', hl, c0, c1, c2, hr, hX⟩ := h.each i p hi hp
  have hg := h.rl g hA
  have hn := h1 g ⟨0, hA⟩
  exact ⟨g, X, d, hA, hs', hl, (hb.cell hg hn _).trans c0, (hb.cell hg hn _).trans c1, (hb.cell hg hn _).trans c2, hr.fr hX hb (fun b hb2 => h2 b ⟨i, _, hi, hs', atB_own' hb2⟩), fun g' hg' => Nat.lt_of_lt_of_le (hX g' hg') hb.size⟩⟩
theorem HM.bel {w w' : World} {A : Option Addr} {n : Nat} {ss : List Value} {hs : List Hd} {k0 : Int} {k : Nat} (h : HM w A n ss hs k0 k) (hb : Below w.heap.size w w') : HM w' A n ss hs k0 k :=
 h.fr (Fr.of_below (fun _ => False) hb) (fun _ _ h => h) (fun _ _ h => h)
end Go.Proofs.YtnphjhbfpoekpaaGreat
