/-
  Texts of this proof, put together.
-/
import Derived.Test.YtdppjjdhidkjoaaA6
import Derived.Test.YtdppjjdhidkjoaaA3
import Derived.Test.YtdppjjdhidkjoaaA7
import Derived.Test.YtdppjjdhidkjoaaA2
import Derived.Test.YtdppjjdhidkjoaaA5
import Derived.Test.YtdppjjdhidkjoaaA4
namespace Go.Proofs.Ytdppjjdhidkjoaa
set_option linter.unusedSimpArgs false
set_option linter.unusedVariables false
set_option linter.unnecessarySimpa false
open Go.RowKit
/-! rooms: the truths and the profiles -/
def bools (bs : List Bool) : List Value := bs.map Value.bool
/-- A slice of truths that came in. -/
def RdB (w : World) (A : Option Addr) (n : Nat) (zs : List Bool) : Prop :=
  zs.length = n ∧ (0 < n → ∃ b off, A = some ⟨b, off, none⟩ ∧ b < w.heap.size ∧ ∀ (k : Nat) z, zs[k]? = some z → w.cell? ⟨b, off + k, none⟩ = some (.bool z))
theorem RdB.below {w w' : World} {A : Option Addr} {n : Nat} {zs : List Bool} (h : RdB w A n zs) (hb : Below w.heap.size w w') : RdB w' A n zs :=
  ⟨h.1, fun hn => by
    obtain ⟨b, off, rfl, hl, hc⟩ := h.2 hn
    exact ⟨b, off, rfl, Nat.lt_of_lt_of_le hl hb.size, fun k z hz => (hb.cell (p := ⟨b, _, none⟩) hl).trans (hc k z hz)⟩⟩
/-- A slice of profiles that came in. -/
def RdPI (w : World) (A : Option Addr) (n : Nat) (pss : List (List Q)) : Prop :=
  pss.length = n ∧ (∀ ps ∈ pss, ps.length ≤ maxLen) ∧ (0 < n → ∃ b off, A = some ⟨b, off, none⟩ ∧ b < w.heap.size ∧ ∀ (k : Nat) ps, pss[k]? = some ps → ∃ B c, w.cell? ⟨b, off + k, none⟩ = some (.slice B ps.length c) ∧ RdE w B ps.length ps)
theorem RdPI.below {w w' : World} {A : Option Addr} {n : Nat} {pss : List (List Q)} (h : RdPI w A n pss) (hb : Below w.heap.size w w') : RdPI w' A n pss :=
  ⟨h.1, h.2.1, fun hn => by
    obtain ⟨b, off, rfl, hl, hc⟩ := h.2.2 hn
    exact ⟨b, off, rfl, Nat.lt_of_lt_of_le hl hb.size, fun k z hz => by
      obtain ⟨B, c, h1, h2⟩ := hc k z hz
      exact ⟨B, c, (hb.cell (p := ⟨b, _, none⟩) hl).trans h1, h2.below hb⟩⟩⟩
/-- A slice of profiles, as a program's function reads it. -/
def RdP (w : World) (A : Option Addr) (n : Nat) (pss : List (List Q)) : Prop :=
  pss.length = n ∧ (0 < n → ∃ g, A = some ⟨g, 0, none⟩ ∧ g < w.heap.size ∧ ∀ (k : Nat) ps, pss[k]? = some ps → ∃ B c, w.cell? ⟨g, k, none⟩ = some (.slice B ps.length c) ∧ ps.length ≤ 1048576 ∧ Rd w B ps.length 4 (flat ps) ∧ ∀ h, B = some ⟨h, 0, none⟩ → h < w.heap.size)
theorem RdP.below {w w' : World} {A : Option Addr} {n : Nat} {pss : List (List Q)} (h : RdP w A n pss) (hb : Below w.heap.size w w') : RdP w' A n pss :=
  ⟨h.1, fun hn => by
    obtain ⟨b, rfl, hl, hc⟩ := h.2 hn
    exact ⟨b, rfl, Nat.lt_of_lt_of_le hl hb.size, fun k z hz => by
      obtain ⟨B, c, h1, h2, h3, h4⟩ := hc k z hz
      exact ⟨B, c, (hb.cell (p := ⟨b, _, none⟩) hl).trans h1, h2, h3.below h4 hb, lt_below h4 hb⟩⟩⟩
theorem RdP.prof {w : World} {A : Option Addr} {n : Nat} {pss : List (List Q)} (h : RdP w A n pss) {k : Nat} (hk : k < n) : ∃ g B c ps, A = some ⟨g, 0, none⟩ ∧ g < w.heap.size ∧ pss[k]? = some ps ∧ w.cell? ⟨g, k, none⟩ = some (.slice B ps.length c) ∧ ps.length ≤ 1048576 ∧ Rd w B ps.length 4 (flat ps) ∧ ∀ h, B = some ⟨h, 0, none⟩ → h < w.heap.size := by
  obtain ⟨g, rfl, hg, hc⟩ := h.2 (by omega)
  have hl : k < pss.length := by have := h.1; omega
  have hq : pss[k]? = some pss[k] := List.getElem?_eq_getElem hl
  obtain ⟨B, c, h1, h2, h3, h4⟩ := hc k _ hq
  exact ⟨g, B, c, _, rfl, hg, hq, h1, h2, h3, h4⟩
theorem infoB : (Try.prog.info? 4).map (fun i => (i.zero, i.size, i.bytes)) = some (some (.bool false), 1, 1) := by kernel_rfl
theorem szOf_le {left : Int} {n : Nat} : szOf left n ≤ left ∨ szOf left n = -1 := by unfold szOf; split <;> omega
theorem szOf_pos {left : Int} {n : Nat} (h : 0 ≤ szOf left n) : (n : Int) ≤ left ∧ szOf left n = left - n := by unfold szOf at *; split at h <;> omega
theorem szOf_neg {left : Int} {n : Nat} (h : ¬ 0 ≤ szOf left n) : szOf left n = -1 := by unfold szOf at *; split at h <;> omega
end Go.Proofs.Ytdppjjdhidkjoaa

namespace Go.Proofs.Ytdppjjdhidkjoaa
set_option linter.unusedSimpArgs false
set_option linter.unusedVariables false
set_option linter.unnecessarySimpa false
open Go.RowKit
/-- A room's five slices. -/
structure RA where
  A : Option Addr
  B : Option Addr
  U : Option Addr
  R : Option Addr
  L : Option Addr
  n : Nat
  m : Nat
  nu : Nat
  np : Nat
  nl : Nat
  c : Nat
  d : Nat
  cu : Nat
  cp : Nat
  cl : Nat
def RA.v (a : RA) : Value := .agg #[.slice a.A a.n a.c, .slice a.B a.m a.d, .slice a.U a.nu a.cu, .slice a.R a.np a.cp, .slice a.L a.nl a.cl]
structure RoomIn (w : World) (a : RA) (r : Rm) : Prop where
  par : RdI w a.A a.n r.par
  nodes : RdE w a.B a.m r.nodes
  up : RdB w a.U a.nu r.up
  profs : RdPI w a.R a.np r.profs
  lics : RdE w a.L a.nl r.lics
theorem RoomIn.below {w w' : World} {a : RA} {r : Rm} (h : RoomIn w a r) (hb : Below w.heap.size w w') : RoomIn w' a r :=
  ⟨h.par.below hb, h.nodes.below hb, h.up.below hb, h.profs.below hb, h.lics.below hb⟩
structure RmSz (a : RA) (r : Rm) : Prop where
  n : a.n ≤ 1048576
  m : a.m ≤ 1048576
  nu : a.nu ≤ 1048576
  np : a.np ≤ 1048576
  nl : a.nl ≤ 1048576
  profs : ∀ ps ∈ r.profs, ps.length ≤ 1048576
structure RmMax (a : RA) : Prop where
  n : a.n ≤ maxLen
  m : a.m ≤ maxLen
  nu : a.nu ≤ maxLen
  np : a.np ≤ maxLen
  nl : a.nl ≤ maxLen
structure RoomRd (w : World) (a : RA) (r : Rm) : Prop where
  n : a.n ≤ 1048576
  m : a.m ≤ 1048576
  nu : a.nu ≤ 1048576
  np : a.np ≤ 1048576
  nl : a.nl ≤ 1048576
  par : Rd w a.A a.n 1 (ints r.par)
  nodes : Rd w a.B a.m 4 (flat r.nodes)
  up : Rd w a.U a.nu 1 (bools r.up)
  profs : RdP w a.R a.np r.profs
  lics : Rd w a.L a.nl 4 (flat r.lics)
  ltA : ∀ g, a.A = some ⟨g, 0, none⟩ → g < w.heap.size
  ltB : ∀ g, a.B = some ⟨g, 0, none⟩ → g < w.heap.size
  ltU : ∀ g, a.U = some ⟨g, 0, none⟩ → g < w.heap.size
  ltL : ∀ g, a.L = some ⟨g, 0, none⟩ → g < w.heap.size
theorem RoomRd.below {w w' : World} {a : RA} {r : Rm} (h : RoomRd w a r) (hb : Below w.heap.size w w') : RoomRd w' a r :=
  ⟨h.n, h.m, h.nu, h.np, h.nl, h.par.below h.ltA hb, h.nodes.below h.ltB hb, h.up.below h.ltU hb, h.profs.below hb, h.lics.below h.ltL hb, lt_below h.ltA hb, lt_below h.ltB hb, lt_below h.ltU hb, lt_below h.ltL hb⟩
theorem own_rdd' {w : World} {lo : Nat} {e : TypeId} {size : Nat} {A : Option Addr} {n c : Nat} {xs : List Value} (h : w.ownsRow lo e size (.slice A n c) n xs) : Rd w A n size xs := by
  obtain ⟨A', c', e, h⟩ := own_rd h
  injection e with e1 e2 e3
  subst e1; exact h
theorem szT_pos {n m : Nat} (h : 0 ≤ szT n m) : n ≤ 1048576 ∧ m ≤ 1048576 ∧ szT n m ≤ 1048576 := by
  rcases szT_cases n m with h1 | ⟨_, h1, h2⟩
  · omega
  · refine ⟨h1, h2, ?_⟩
    unfold szT szOf
    split
    · split <;> omega
    · omega
end Go.Proofs.Ytdppjjdhidkjoaa

/- A topology in a box of the call's own: its two slices grow. -/
namespace Go.Proofs.Ytdppjjdhidkjoaa
set_option linter.unusedSimpArgs false
set_option linter.unusedVariables false
set_option linter.unnecessarySimpa false
open Go.RowKit
/-- The box b holds a topology of the call's own. -/
structure TBox (w : World) (lo b : Nat) (ps : List Int) (ns : List Q) : Prop where
  ex : ∃ A c B d, w.heap[b]? = some (.cells #[.slice A ps.length c, .slice B ns.length d] 26 (0, 0)) ∧ w.ownsRow lo 3 1 (.slice A ps.length c) ps.length (ints ps) ∧ w.ownsRow lo 61 4 (.slice B ns.length d) ns.length (flat ns)
theorem TBox.lt {w : World} {lo b : Nat} {ps : List Int} {ns : List Q} (h : TBox w lo b ps ns) : b < w.heap.size := by
  obtain ⟨A, c, B, d, h, _⟩ := h.ex; exact heap_lt h
theorem TBox.bel {w w' : World} {lo b : Nat} {ps : List Int} {ns : List Q} (h : TBox w lo b ps ns) (hb : Below w.heap.size w w') : TBox w' lo b ps ns := by
  obtain ⟨A, c, B, d, h1, h2, h3⟩ := h.ex
  exact ⟨A, c, B, d, bx_below h1 hb, own_bel h2 hb, own_bel h3 hb⟩
theorem TBox.alloc {w : World} {lo b : Nat} {ps : List Int} {ns : List Q} (h : TBox w lo b ps ns) (o : Obj) : TBox (w.alloc o) lo b ps ns := h.bel (below_alloc w o)
theorem TBox.drewN {w : World} {lo b : Nat} {ps : List Int} {ns : List Q} (h : TBox w lo b ps ns) (k : Nat) : TBox (w.drewN k) lo b ps ns := ⟨h.ex⟩
theorem TBox.drew {w : World} {lo b : Nat} {ps : List Int} {ns : List Q} (h : TBox w lo b ps ns) : TBox w.drew lo b ps ns := ⟨h.ex⟩
/-- Where the frame leaves the box and its rows alone. -/
theorem TBox.fr {S : Nat → Prop} {w w' : World} {lo b : Nat} {ps : List Int} {ns : List Q} (h : TBox w lo b ps ns) (hf : Fr S w w') (hb : ¬ S b) (hS : ∀ k, S k → k < lo) : TBox w' lo b ps ns := by
  obtain ⟨A, c, B, d, h1, h2, h3⟩ := h.ex
  exact ⟨A, c, B, d, bx_fr h1 hf hb, own_fr h2 hf (fun k hk hs => by have := own_ge h2 k hk; have := hS k hs; omega), own_fr h3 hf (fun k hk hs => by have := own_ge h3 k hk; have := hS k hs; omega)⟩
theorem TBox.set {w : World} {lo b : Nat} {ps : List Int} {ns : List Q} (h : TBox w lo b ps ns) {p : Addr} (hb : p.block ≠ b) (hlo : ∀ A c B d, w.heap[b]? = some (.cells #[.slice A ps.length c, .slice B ns.length d] 26 (0, 0)) → ¬ atB A p.block ∧ ¬ atB B p.block) (v : Value) : TBox (w.setCell p v) lo b ps ns := by
  obtain ⟨A, c, B, d, h1, h2, h3⟩ := h.ex
  obtain ⟨n1, n2⟩ := hlo A c B d h1
  have e : ∀ (X : Option Addr) (n c : Nat) (k : Nat), (Value.slice X n c).ownBlock = some k → ∀ (lo' : Nat) (ty : TypeId) (sz : Nat) (xs : List Value), w.ownsRow lo' ty sz (.slice X n c) n xs → atB X k := by
    intro X n c k hk lo' ty sz xs ho
    rcases ho.2 with ⟨e0, _⟩ | ⟨g, cap, cur, e0, _⟩
    · rw [e0] at hk; simp [Value.ownBlock] at hk
    · injection e0 with e1
      subst e1
      simp [Value.ownBlock] at hk
      subst hk
      exact ⟨0, rfl⟩
  exact ⟨A, c, B, d, bx_set h1 (fun e => hb e.symm) v, own_set h2 (fun k hk ek => n1 (ek ▸ e A _ c k hk _ _ _ _ h2)) v, own_set h3 (fun k hk ek => n2 (ek ▸ e B _ d k hk _ _ _ _ h3)) v⟩
theorem topo_set0 {w : World} {b : Nat} {x y : Value} {t : TypeId} (h : w.heap[b]? = some (.cells #[x, y] t (0, 0))) (v : Value) : (w.setCell ⟨b, 0, none⟩ v).heap[b]? = some (.cells #[v, y] t (0, 0)) := by
  simpa using heap_set (i := 0) (v := v) h
theorem topo_set1 {w : World} {b : Nat} {x y : Value} {t : TypeId} (h : w.heap[b]? = some (.cells #[x, y] t (0, 0))) (v : Value) : (w.setCell ⟨b, 1, none⟩ v).heap[b]? = some (.cells #[x, v] t (0, 0)) := by
  simpa using heap_set (i := 1) (v := v) h
theorem own_ap {w : World} {lo lo' : Nat} {e e' : TypeId} {size size' : Nat} {u v : Value} {n m : Nat} {xs ys : List Value} (h : w.ownsRow lo e size u n xs) (h' : w.ownsRow lo' e' size' v m ys) (he : e ≠ e') : ∀ k, u.ownBlock = some k → v.ownBlock ≠ some k := by
  intro k hk hk'
  rcases h.2 with ⟨rfl, _⟩ | ⟨g, cap, cur, rfl, _, hh, _⟩
  · simp [Value.ownBlock] at hk
  · rcases h'.2 with ⟨rfl, _⟩ | ⟨g', cap', cur', rfl, _, hh', _⟩
    · simp [Value.ownBlock] at hk'
    · simp [Value.ownBlock] at hk hk'
      subst hk hk'
      rw [hh] at hh'
      simp at hh'
      exact he hh'.2
/-- A switch is appended. -/
theorem TBox.put0 {w w1 : World} {lo b : Nat} {ps : List Int} {ns : List Q} {x : Int} {A B : Option Addr} {c d : Nat} {v : Value}
    (h1 : w.heap[b]? = some (.cells #[.slice A ps.length c, .slice B ns.length d] 26 (0, 0))) (h2 : w.ownsRow lo 3 1 (.slice A ps.length c) ps.length (ints ps)) (h3 : w.ownsRow lo 61 4 (.slice B ns.length d) ns.length (flat ns))
    (hv : w1.ownsRow lo 3 1 v (ps.length + 1) (ints ps ++ [.int .i64 x])) (hg : w.grownBy w1 (Value.slice A ps.length c).ownBlock) : TBox (w1.setCell ⟨b, 0, none⟩ v) lo b (ps ++ [x]) ns := by
  obtain ⟨A', c', rfl, _⟩ := own_rd hv
  have e1 : w1.heap[b]? = some (.cells #[.slice A ps.length c, .slice B ns.length d] 26 (0, 0)) := bx_grown h1 hg (fun k hk => own_ne h2 h1 (by decide) k hk)
  have e3 : w1.ownsRow lo 61 4 (.slice B ns.length d) ns.length (flat ns) := own_grown h3 hg (fun k hk e => by
    have q1 := own_ap h2 h3 (by decide) k e
    exact q1 hk)
  have hl : (ps ++ [x]).length = ps.length + 1 := by simp
  have hi : ints (ps ++ [x]) = ints ps ++ [.int .i64 x] := ints_snoc ps x
  refine ⟨A', c', B, d, ?_, ?_, own_set e3 (own_ne e3 e1 (by decide)) _⟩
  · rw [hl]; exact topo_set0 e1 _
  · rw [hl, hi]; exact own_set hv (own_ne hv e1 (by decide)) _
/-- A node is appended. -/
theorem TBox.put1 {w w1 : World} {lo b : Nat} {ps : List Int} {ns : List Q} {q : Q} {A B : Option Addr} {c d : Nat} {v : Value}
    (h1 : w.heap[b]? = some (.cells #[.slice A ps.length c, .slice B ns.length d] 26 (0, 0))) (h2 : w.ownsRow lo 3 1 (.slice A ps.length c) ps.length (ints ps)) (h3 : w.ownsRow lo 61 4 (.slice B ns.length d) ns.length (flat ns))
    (hv : w1.ownsRow lo 61 4 v (ns.length + 1) (flat ns ++ [.int .i64 q.t, .int .i64 q.a, .int .i64 q.b, .int .i64 q.c])) (hg : w.grownBy w1 (Value.slice B ns.length d).ownBlock) : TBox (w1.setCell ⟨b, 1, none⟩ v) lo b ps (ns ++ [q]) := by
  obtain ⟨B', d', rfl, _⟩ := own_rd hv
  have e1 : w1.heap[b]? = some (.cells #[.slice A ps.length c, .slice B ns.length d] 26 (0, 0)) := bx_grown h1 hg (fun k hk => own_ne h3 h1 (by decide) k hk)
  have e2 : w1.ownsRow lo 3 1 (.slice A ps.length c) ps.length (ints ps) := own_grown h2 hg (fun k hk e => by
    have q1 := own_ap h3 h2 (by decide) k e
    exact q1 hk)
  have hl : (ns ++ [q]).length = ns.length + 1 := by simp
  refine ⟨A, c, B', d', ?_, own_set e2 (own_ne e2 e1 (by decide)) _, ?_⟩
  · rw [hl]; exact topo_set1 e1 _
  · rw [hl, flat_snoc]; exact own_set hv (own_ne hv e1 (by decide)) _
end Go.Proofs.Ytdppjjdhidkjoaa

namespace Go.Proofs.Ytdppjjdhidkjoaa
set_option linter.unusedSimpArgs false
set_option linter.unusedVariables false
set_option linter.unnecessarySimpa false
open Go.RowKit
structure SameLen (a b : RA) : Prop where
  n : a.n = b.n
  m : a.m = b.m
  nu : a.nu = b.nu
  np : a.np = b.np
  nl : a.nl = b.nl
theorem RoomRd.lens {w : World} {a : RA} {r : Rm} (h : RoomRd w a r) : r.par.length = a.n ∧ r.nodes.length = a.m ∧ r.up.length = a.nu ∧ r.profs.length = a.np ∧ r.lics.length = a.nl := by
  have h1 := h.par.1; have h2 := h.nodes.1; have h3 := h.up.1; have h4 := h.profs.1; have h5 := h.lics.1
  rw [flat_len] at h2 h5
  simp only [ints, bools, List.length_map] at h1 h3
  exact ⟨by omega, by omega, by omega, h4, by omega⟩
theorem RoomRd.same {w w' : World} {a b : RA} {r : Rm} (h : RoomRd w a r) (h' : RoomRd w' b r) : SameLen a b := by
  obtain ⟨e1, e2, e3, e4, e5⟩ := h.lens
  obtain ⟨f1, f2, f3, f4, f5⟩ := h'.lens
  exact ⟨by omega, by omega, by omega, by omega, by omega⟩

theorem okB_eq (r : Rm) {m nu np : Nat} (h1 : r.nodes.length = m) (h2 : r.up.length = nu) (h3 : r.profs.length = np) : r.okB = (topoOkB r.par r.nodes && decide (nu = m) && decide (np = m) && r.profs.all profOkB && profOkB r.lics) := by
  unfold Rm.okB; rw [h1, h2, h3]
theorem all_upto {pss : List (List Q)} {n : Nat} (hl : pss.length = n) (h : ∀ j ps, j < n → pss[j]? = some ps → profOkB ps = true) : pss.all profOkB = true := by
  rw [List.all_eq_true]
  intro ps hps
  obtain ⟨j, hj, rfl⟩ := List.getElem_of_mem hps
  exact h j _ (by omega) (List.getElem?_eq_getElem hj)
theorem not_all {pss : List (List Q)} {k : Nat} {ps : List Q} (hk : pss[k]? = some ps) (h : profOkB ps = false) : pss.all profOkB = false := by
  rw [List.all_eq_false]; exact ⟨ps, List.mem_of_getElem? hk, by simp [h]⟩

end Go.Proofs.Ytdppjjdhidkjoaa
