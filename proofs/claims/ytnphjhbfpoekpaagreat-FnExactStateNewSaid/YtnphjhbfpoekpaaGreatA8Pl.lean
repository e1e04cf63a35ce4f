import Derived.Test.YtnphjhbfpoekpaaGreatA6Pl
import Derived.Test.YtnphjhbfpoekpaaGreatA3Pl
import Derived.Test.YtnphjhbfpoekpaaGreatA7Pl
import Derived.Test.YtnphjhbfpoekpaaGreatA2Pl
import Derived.Test.YtnphjhbfpoekpaaGreatA5Pl
import Derived.Test.YtnphjhbfpoekpaaGreatA4Pl
namespace Go.Proofs.YtnphjhbfpoekpaaGreat
set_option linter.unusedSimpArgs false
set_option linter.unusedVariables false
set_option linter.unnecessarySimpa false
open Go.RowKit
def bools (bs : List Bool) : List Value := bs.map Value.bool
def RdB (w : World) (A : Option Addr) (n : Nat) (zs : List Bool) : Prop :=
 zs.length = n ∧ (0 < n → ∃ b off, A = some ⟨b, off, none⟩ ∧ b < w.heap.size ∧ ∀ (k : Nat) z, zs[k]? = some z → w.cell? ⟨b, off + k, none⟩ = some (.bool z))
theorem RdB.below {w w' : World} {A : Option Addr} {n : Nat} {zs : List Bool} (h : RdB w A n zs) (hb : Below w.heap.size w w') : RdB w' A n zs :=
 ⟨h.1, fun hn => by
  obtain ⟨b, off, rfl, hl, hc⟩ := h.2 hn
  exact ⟨b, off, rfl, Nat.lt_of_lt_of_le hl hb.size, fun k z hz => (hb.cell (p := ⟨b, _, none⟩) hl).trans (hc k z hz)⟩⟩
def RdPI (w : World) (A : Option Addr) (n : Nat) (pss : List (List Q)) : Prop :=
 pss.length = n ∧ (∀ ps ∈ pss, ps.length ≤ maxLen) ∧ (0 < n → ∃ b off, A = some ⟨b, off, none⟩ ∧ b < w.heap.size ∧ ∀ (k : Nat) ps, pss[k]? = some ps → ∃ B c, w.cell? ⟨b, off + k, none⟩ = some (.slice B ps.length c) ∧ RdE w B ps.length ps)
theorem RdPI.below {w w' : World} {A : Option Addr} {n : Nat} {pss : List (List Q)} (h : RdPI w A n pss) (hb : Below w.heap.size w w') : RdPI w' A n pss :=
 ⟨h.1, h.2.1, fun hn => by
  obtain ⟨b, off, rfl, hl, hc⟩ := h.2.2 hn
  exact ⟨b, off, rfl, Nat.lt_of_lt_of_le hl hb.size, fun k z hz => by
   obtain ⟨B, c, h1, h2⟩ := hc k z hz
   exact ⟨B, c, (hb.cell (p := ⟨b, _, none⟩) hl).trans h1, h2.below hb⟩⟩⟩
def RdP (w : World) (A : Option Addr) (n : Nat) (pss : List (List Q)) : Prop :=
 pss.length = n ∧ (0 < n → ∃ g, A = some ⟨g, 0, none⟩ ∧ g < w.heap.size ∧ ∀ (k : Nat) ps, pss[k]? = some ps → ∃ B c, w.cell? ⟨g, k, none⟩ = some (.slice B ps.length c) ∧ ps.length ≤ 1048576 ∧ Rd w B ps.length 4 (flat ps) ∧ ∀ h, B = some ⟨h, 0, none⟩ → h < w.heap.size)
theorem RdP.below {w w' : World} {A : Option Addr} {n : Nat} {pss : List (List Q)} (h : RdP w A n pss) (hb : Below w.heap.size w w') : RdP w' A n pss :=
 ⟨h.1, fun hn => by
  obtain ⟨b, rfl, hl, hc⟩ := h.2 hn
  exact ⟨b, rfl, Nat.lt_of_lt_of_le hl hb.size, fun k z hz => by
   obtain ⟨B, c, h1, h2, h3, h4⟩ := hc k z hz
   exact ⟨B, c, (hb.cell (p := ⟨b, _, none⟩) hl).trans h1, h2, h3.below h4 hb, zAi h4 hb⟩⟩⟩
theorem RdP.prof {w : World} {A : Option Addr} {n : Nat} {pss : List (List Q)} (h : RdP w A n pss) {k : Nat} (hk : k < n) : ∃ g B c ps, A = some ⟨g, 0, none⟩ ∧ g < w.heap.size ∧ pss[k]? = some ps ∧ w.cell? ⟨g, k, none⟩ = some (.slice B ps.length c) ∧ ps.length ≤ 1048576 ∧ Rd w B ps.length 4 (flat ps) ∧ ∀ h, B = some ⟨h, 0, none⟩ → h < w.heap.size := by
 obtain ⟨g, rfl, hg, hc⟩ := h.2 (by omega)
 have hl : k < pss.length := by have := h.1; omega
 have hq : pss[k]? = some pss[k] := zgh hl
 obtain ⟨B, c, h1, h2, h3, h4⟩ := hc k _ hq
 exact ⟨g, B, c, _, rfl, hg, hq, h1, h2, h3, h4⟩
structure OwnP (w : World) (lo : Nat) (v : Value) (n : Nat) (xs : List Value) (pss : List (List Q)) : Prop where
 own : w.ownsRow lo 31 1 v n xs
 len : pss.length = n
 each : ∀ (k : Nat) x ps, xs[k]? = some x → pss[k]? = some ps → ps.length ≤ 1048576 ∧ w.ownsRow lo 177 4 x ps.length (flat ps)
 apart : ∀ (i j : Nat) x y, i < j → xs[i]? = some x → xs[j]? = some y → ∀ b, x.ownBlock = some b → y.ownBlock ≠ some b
theorem OwnP.xlen {w : World} {lo : Nat} {v : Value} {n : Nat} {xs : List Value} {pss : List (List Q)} (h : OwnP w lo v n xs pss) : xs.length = n := by have := h.own.1; omega
theorem OwnP.mono {w : World} {lo lo' : Nat} {v : Value} {n : Nat} {xs : List Value} {pss : List (List Q)} (h : OwnP w lo v n xs pss) (hl : lo' ≤ lo) : OwnP w lo' v n xs pss :=
 ⟨zAn h.own hl, h.len, fun k x ps a b => ⟨(h.each k x ps a b).1, zAn (h.each k x ps a b).2 hl⟩, h.apart⟩
theorem OwnP.bel {w w' : World} {lo : Nat} {v : Value} {n : Nat} {xs : List Value} {pss : List (List Q)} (h : OwnP w lo v n xs pss) (hb : Below w.heap.size w w') : OwnP w' lo v n xs pss :=
 ⟨zAe h.own hb, h.len, fun k x ps a b => ⟨(h.each k x ps a b).1, zAe (h.each k x ps a b).2 hb⟩, h.apart⟩
theorem OwnP.rd {w : World} {lo : Nat} {v : Value} {n : Nat} {xs : List Value} {pss : List (List Q)} (h : OwnP w lo v n xs pss) : ∃ A c, v = .slice A n c ∧ RdP w A n pss ∧ ∀ g, A = some ⟨g, 0, none⟩ → g < w.heap.size := by
 have hx := h.xlen
 have h1 := h.len
 obtain ⟨A, c, rfl, rd⟩ := zAt h.own
 refine ⟨A, c, rfl, ⟨h.len, fun hn => ?_⟩, own_blk h.own⟩
 obtain ⟨g, rfl, hc⟩ := rd.2 hn
 refine ⟨g, rfl, own_blk h.own g rfl, fun k ps hk => ?_⟩
 have hkl : k < xs.length := by have := (List.getElem?_eq_some_iff.1 hk).1; omega
 have hq : xs[k]? = some xs[k] := zgh hkl
 obtain ⟨e1, e2⟩ := h.each k _ ps hq hk
 have e3 := hc k _ hq
 obtain ⟨B, c', e4, e5⟩ := zAt e2
 rw [e4] at e3 e2
 exact ⟨B, c', e3, e1, e5, own_blk e2⟩
theorem infoB : (Tryz.prog.info? 4).map (fun i => (i.zero, i.size, i.bytes)) = some (some (.bool false), 1, 1) := by kernel_rfl
theorem infoProf : (Tryz.prog.info? 31).map (fun i => (i.zero, i.size, i.bytes)) = some (some (.agg #[.slice none 0 0]), 1, 24) := by kernel_rfl
structure RA where
 A : Option Addr
 B : Option Addr
 U : Option Addr
 R : Option Addr
 L : Option Addr
 n : Nat
 m : Nat
 nu : Nat
 np : Nat
 nl : Nat
 c : Nat
 d : Nat
 cu : Nat
 cp : Nat
 cl : Nat
def RA.v (a : RA) : Value := .agg #[.slice a.A a.n a.c, .slice a.B a.m a.d, .slice a.U a.nu a.cu, .slice a.R a.np a.cp, .slice a.L a.nl a.cl]
structure RoomIn (w : World) (a : RA) (r : Rm) : Prop where
 par : RdI w a.A a.n r.par
 nodes : RdE w a.B a.m r.nodes
 up : RdB w a.U a.nu r.up
 profs : RdPI w a.R a.np r.profs
 lics : RdE w a.L a.nl r.lics
theorem RoomIn.below {w w' : World} {a : RA} {r : Rm} (h : RoomIn w a r) (hb : Below w.heap.size w w') : RoomIn w' a r :=
 ⟨h.par.below hb, h.nodes.below hb, h.up.below hb, h.profs.below hb, h.lics.below hb⟩
structure RmSz (a : RA) (r : Rm) : Prop where
 n : a.n ≤ 1048576
 m : a.m ≤ 1048576
 nu : a.nu ≤ 1048576
 np : a.np ≤ 1048576
 nl : a.nl ≤ 1048576
 profs : ∀ ps ∈ r.profs, ps.length ≤ 1048576
structure RmMax (a : RA) : Prop where
 n : a.n ≤ maxLen
 m : a.m ≤ maxLen
 nu : a.nu ≤ maxLen
 np : a.np ≤ maxLen
 nl : a.nl ≤ maxLen
structure RoomRd (w : World) (a : RA) (r : Rm) : Prop where
 n : a.n ≤ 1048576
 m : a.m ≤ 1048576
 nu : a.nu ≤ 1048576
 np : a.np ≤ 1048576
 nl : a.nl ≤ 1048576
 par : Rd w a.A a.n 1 (ints r.par)
 nodes : Rd w a.B a.m 4 (flat r.nodes)
 up : Rd w a.U a.nu 1 (bools r.up)
 profs : RdP w a.R a.np r.profs
 lics : Rd w a.L a.nl 4 (flat r.lics)
 ltA : ∀ g, a.A = some ⟨g, 0, none⟩ → g < w.heap.size
 ltB : ∀ g, a.B = some ⟨g, 0, none⟩ → g < w.heap.size
 ltU : ∀ g, a.U = some ⟨g, 0, none⟩ → g < w.heap.size
 ltL : ∀ g, a.L = some ⟨g, 0, none⟩ → g < w.heap.size
theorem RoomRd.below {w w' : World} {a : RA} {r : Rm} (h : RoomRd w a r) (hb : Below w.heap.size w w') : RoomRd w' a r :=
 ⟨h.n, h.m, h.nu, h.np, h.nl, h.par.below h.ltA hb, h.nodes.below h.ltB hb, h.up.below h.ltU hb, h.profs.below hb, h.lics.below h.ltL hb, zAi h.ltA hb, zAi h.ltB hb, zAi h.ltU hb, zAi h.ltL hb⟩
structure RoomOwn (w : World) (lo : Nat) (a : RA) (r : Rm) (xs : List Value) : Prop where
 n : a.n ≤ 1048576
 m : a.m ≤ 1048576
 nu : a.nu ≤ 1048576
 np : a.np ≤ 1048576
 nl : a.nl ≤ 1048576
 par : w.ownsRow lo 3 1 (.slice a.A a.n a.c) a.n (ints r.par)
 nodes : w.ownsRow lo 199 4 (.slice a.B a.m a.d) a.m (flat r.nodes)
 up : w.ownsRow lo 4 1 (.slice a.U a.nu a.cu) a.nu (bools r.up)
 profs : OwnP w lo (.slice a.R a.np a.cp) a.np xs r.profs
 lics : w.ownsRow lo 177 4 (.slice a.L a.nl a.cl) a.nl (flat r.lics)
 apart : ∀ (i : Nat) x, xs[i]? = some x → ∀ b, x.ownBlock = some b → ¬ atB a.L b
theorem zAv {w : World} {lo : Nat} {e : TypeId} {size : Nat} {A : Option Addr} {n c : Nat} {xs : List Value} (h : w.ownsRow lo e size (.slice A n c) n xs) : Rd w A n size xs := by
 obtain ⟨A', c', e, h⟩ := zAt h
 injection e with e1 e2 e3
 subst e1; exact h
theorem RoomOwn.rd {w : World} {lo : Nat} {a : RA} {r : Rm} {xs : List Value} (h : RoomOwn w lo a r xs) : RoomRd w a r := by
 refine ⟨h.n, h.m, h.nu, h.np, h.nl, zAv h.par, zAv h.nodes, zAv h.up, ?_, zAv h.lics, own_blk h.par, own_blk h.nodes, own_blk h.up, own_blk h.lics⟩
 obtain ⟨A', c', e, h, _⟩ := h.profs.rd
 injection e with e1 e2 e3
 rw [e1]; exact h
theorem RoomOwn.bel {w w' : World} {lo : Nat} {a : RA} {r : Rm} {xs : List Value} (h : RoomOwn w lo a r xs) (hb : Below w.heap.size w w') : RoomOwn w' lo a r xs :=
 ⟨h.n, h.m, h.nu, h.np, h.nl, zAe h.par hb, zAe h.nodes hb, zAe h.up hb, h.profs.bel hb, zAe h.lics hb, h.apart⟩
theorem RoomOwn.mono {w : World} {lo lo' : Nat} {a : RA} {r : Rm} {xs : List Value} (h : RoomOwn w lo a r xs) (hl : lo' ≤ lo) : RoomOwn w lo' a r xs :=
 ⟨h.n, h.m, h.nu, h.np, h.nl, zAn h.par hl, zAn h.nodes hl, zAn h.up hl, h.profs.mono hl, zAn h.lics hl, h.apart⟩
theorem OwnP.setBelow {w : World} {lo : Nat} {v : Value} {n : Nat} {xs : List Value} {pss : List (List Q)} (h : OwnP w lo v n xs pss) {a : Addr} (ha : a.block < lo) (u : Value) : OwnP (w.setCell a u) lo v n xs pss :=
 ⟨ownsRow_setCell_below h.own ha u, h.len, fun k x ps i j => ⟨(h.each k x ps i j).1, ownsRow_setCell_below (h.each k x ps i j).2 ha u⟩, h.apart⟩
theorem RoomOwn.setBelow {w : World} {lo : Nat} {a : RA} {r : Rm} {xs : List Value} (h : RoomOwn w lo a r xs) {q : Addr} (ha : q.block < lo) (u : Value) : RoomOwn (w.setCell q u) lo a r xs :=
 ⟨h.n, h.m, h.nu, h.np, h.nl, ownsRow_setCell_below h.par ha u, ownsRow_setCell_below h.nodes ha u, ownsRow_setCell_below h.up ha u, h.profs.setBelow ha u, ownsRow_setCell_below h.lics ha u, h.apart⟩
theorem RoomOwn.setCells {lo : Nat} {a : RA} {r : Rm} {xs : List Value} {b : Nat} (hb : b < lo) : ∀ (vs : List Value) (o : Nat) {w : World}, RoomOwn w lo a r xs → RoomOwn (w.setCells b o vs) lo a r xs
 | [], _, _, h => h
 | v :: vs, o, _, h => RoomOwn.setCells hb vs (o + 1) (h.setBelow (q := ⟨b, o, none⟩) hb v)
structure TBox (w : World) (lo b : Nat) (ps : List Int) (ns : List Q) : Prop where
 ex : ∃ A c B d, w.heap[b]? = some (.cells #[.slice A ps.length c, .slice B ns.length d] 26 (0, 0)) ∧ w.ownsRow lo 3 1 (.slice A ps.length c) ps.length (ints ps) ∧ w.ownsRow lo 199 4 (.slice B ns.length d) ns.length (flat ns)
theorem TBox.lt {w : World} {lo b : Nat} {ps : List Int} {ns : List Q} (h : TBox w lo b ps ns) : b < w.heap.size := by
 obtain ⟨A, c, B, d, h, _⟩ := h.ex; exact zAf h
theorem TBox.bel {w w' : World} {lo b : Nat} {ps : List Int} {ns : List Q} (h : TBox w lo b ps ns) (hb : Below w.heap.size w w') : TBox w' lo b ps ns := by
 obtain ⟨A, c, B, d, h1, h2, h3⟩ := h.ex
 exact ⟨A, c, B, d, zAg h1 hb, zAe h2 hb, zAe h3 hb⟩
theorem TBox.alloc {w : World} {lo b : Nat} {ps : List Int} {ns : List Q} (h : TBox w lo b ps ns) (o : Obj) : TBox (w.alloc o) lo b ps ns := h.bel (zAa w o)
theorem TBox.drewN {w : World} {lo b : Nat} {ps : List Int} {ns : List Q} (h : TBox w lo b ps ns) (k : Nat) : TBox (w.drewN k) lo b ps ns := ⟨h.ex⟩
theorem TBox.drew {w : World} {lo b : Nat} {ps : List Int} {ns : List Q} (h : TBox w lo b ps ns) : TBox w.drew lo b ps ns := ⟨h.ex⟩
theorem TBox.fr {S : Nat → Prop} {w w' : World} {lo b : Nat} {ps : List Int} {ns : List Q} (h : TBox w lo b ps ns) (hf : Fr S w w') (hb : ¬ S b) (hS : ∀ k, S k → k < lo) : TBox w' lo b ps ns := by
 obtain ⟨A, c, B, d, h1, h2, h3⟩ := h.ex
 exact ⟨A, c, B, d, bx_fr h1 hf hb, own_fr h2 hf (fun k hk hs => by have := own_ge h2 k hk; have := hS k hs; omega), own_fr h3 hf (fun k hk hs => by have := own_ge h3 k hk; have := hS k hs; omega)⟩
theorem TBox.set {w : World} {lo b : Nat} {ps : List Int} {ns : List Q} (h : TBox w lo b ps ns) {p : Addr} (hb : p.block ≠ b) (hlo : ∀ A c B d, w.heap[b]? = some (.cells #[.slice A ps.length c, .slice B ns.length d] 26 (0, 0)) → ¬ atB A p.block ∧ ¬ atB B p.block) (v : Value) : TBox (w.setCell p v) lo b ps ns := by
 obtain ⟨A, c, B, d, h1, h2, h3⟩ := h.ex
 obtain ⟨n1, n2⟩ := hlo A c B d h1
 have e : ∀ (X : Option Addr) (n c : Nat) (k : Nat), (Value.slice X n c).ownBlock = some k → ∀ (lo' : Nat) (ty : TypeId) (sz : Nat) (xs : List Value), w.ownsRow lo' ty sz (.slice X n c) n xs → atB X k := by
  intro X n c k hk lo' ty sz xs ho
  rcases ho.2 with ⟨e0, _⟩ | ⟨g, cap, cur, e0, _⟩
  ·rw [e0] at hk; simp [Value.ownBlock] at hk
  ·injection e0 with e1
   subst e1
   simp [Value.ownBlock] at hk
   subst hk
   exact ⟨0, rfl⟩
 exact ⟨A, c, B, d, bx_set h1 (fun e => hb e.symm) v, zAo h2 (fun k hk ek => n1 (ek ▸ e A _ c k hk _ _ _ _ h2)) v, zAo h3 (fun k hk ek => n2 (ek ▸ e B _ d k hk _ _ _ _ h3)) v⟩
theorem topo_set0 {w : World} {b : Nat} {x y : Value} {t : TypeId} (h : w.heap[b]? = some (.cells #[x, y] t (0, 0))) (v : Value) : (w.setCell ⟨b, 0, none⟩ v).heap[b]? = some (.cells #[v, y] t (0, 0)) := by
 simpa using zAq (i := 0) (v := v) h
theorem topo_set1 {w : World} {b : Nat} {x y : Value} {t : TypeId} (h : w.heap[b]? = some (.cells #[x, y] t (0, 0))) (v : Value) : (w.setCell ⟨b, 1, none⟩ v).heap[b]? = some (.cells #[x, v] t (0, 0)) := by
 simpa using zAq (i := 1) (v := v) h
theorem own_ap {w : World} {lo lo' : Nat} {e e' : TypeId} {size size' : Nat} {u v : Value} {n m : Nat} {xs ys : List Value} (h : w.ownsRow lo e size u n xs) (h' : w.ownsRow lo' e' size' v m ys) (he : e ≠ e') : ∀ k, u.ownBlock = some k → v.ownBlock ≠ some k := by
 intro k hk hk'
 rcases h.2 with ⟨rfl, _⟩ | ⟨g, cap, cur, rfl, _, hh, _⟩
 ·simp [Value.ownBlock] at hk
 ·rcases h'.2 with ⟨rfl, _⟩ | ⟨g', cap', cur', rfl, _, hh', _⟩
  ·simp [Value.ownBlock] at hk'
  ·simp [Value.ownBlock] at hk hk'
   subst hk hk'
   rw [hh] at hh'
   simp at hh'
   exact he hh'.2
theorem TBox.put1 {w w1 : World} {lo b : Nat} {ps : List Int} {ns : List Q} {q : Q} {A B : Option Addr} {c d : Nat} {v : Value}
  (h1 : w.heap[b]? = some (.cells #[.slice A ps.length c, .slice B ns.length d] 26 (0, 0))) (h2 : w.ownsRow lo 3 1 (.slice A ps.length c) ps.length (ints ps)) (h3 : w.ownsRow lo 199 4 (.slice B ns.length d) ns.length (flat ns))
  (hv : w1.ownsRow lo 199 4 v (ns.length + 1) (flat ns ++ [.int .i64 q.t, .int .i64 q.a, .int .i64 q.b, .int .i64 q.c])) (hg : w.grownBy w1 (Value.slice B ns.length d).ownBlock) : TBox (w1.setCell ⟨b, 1, none⟩ v) lo b ps (ns ++ [q]) := by
 obtain ⟨B', d', rfl, _⟩ := zAt hv
 have e1 : w1.heap[b]? = some (.cells #[.slice A ps.length c, .slice B ns.length d] 26 (0, 0)) := zAr h1 hg (fun k hk => zAm h3 h1 (by decide) k hk)
 have e2 : w1.ownsRow lo 3 1 (.slice A ps.length c) ps.length (ints ps) := own_grown h2 hg (fun k hk e => by
  have q1 := own_ap h3 h2 (by decide) k e
  exact q1 hk)
 have hl : (ns ++ [q]).length = ns.length + 1 := by simp
 refine ⟨A, c, B', d', ?_, zAo e2 (zAm e2 e1 (by decide)) _, ?_⟩
 ·rw [hl]; exact topo_set1 e1 _
 ·rw [hl, flat_snoc]; exact zAo hv (zAm hv e1 (by decide)) _
structure SameLen (a b : RA) : Prop where
 n : a.n = b.n
 m : a.m = b.m
 nu : a.nu = b.nu
 np : a.np = b.np
 nl : a.nl = b.nl
theorem RoomRd.lens {w : World} {a : RA} {r : Rm} (h : RoomRd w a r) : r.par.length = a.n ∧ r.nodes.length = a.m ∧ r.up.length = a.nu ∧ r.profs.length = a.np ∧ r.lics.length = a.nl := by
 have h1 := h.par.1; have h2 := h.nodes.1; have h3 := h.up.1; have h4 := h.profs.1; have h5 := h.lics.1
 rw [flat_len] at h2 h5
 simp only [ints, bools, List.length_map] at h1 h3
 exact ⟨by omega, by omega, by omega, h4, by omega⟩
theorem RoomRd.same {w w' : World} {a b : RA} {r : Rm} (h : RoomRd w a r) (h' : RoomRd w' b r) : SameLen a b := by
 obtain ⟨e1, e2, e3, e4, e5⟩ := h.lens
 obtain ⟨f1, f2, f3, f4, f5⟩ := h'.lens
 exact ⟨by omega, by omega, by omega, by omega, by omega⟩
theorem okB_eq (r : Rm) {m nu np : Nat} (h1 : r.nodes.length = m) (h2 : r.up.length = nu) (h3 : r.profs.length = np) : r.okB = (topoOkB r.par r.nodes && decide (nu = m) && decide (np = m) && r.profs.all zAx && zAx r.lics) := by
 unfold Rm.okB; rw [h1, h2, h3]
theorem all_upto {pss : List (List Q)} {n : Nat} (hl : pss.length = n) (h : ∀ j ps, j < n → pss[j]? = some ps → zAx ps = true) : pss.all zAx = true := by
 rw [List.all_eq_true]
 intro ps hps
 obtain ⟨j, hj, rfl⟩ := List.getElem_of_mem hps
 exact h j _ (by omega) (zgh hj)
theorem not_all {pss : List (List Q)} {k : Nat} {ps : List Q} (hk : pss[k]? = some ps) (h : zAx ps = false) : pss.all zAx = false := by
 rw [List.all_eq_false]; exact ⟨ps, List.mem_of_getElem? hk, by simp [h]⟩
set_option maxHeartbeats 4000000 in
theorem roomOk_any (a : RA) (r : Rm) (w : World) (h : RoomRd w a r) :
  Calls Tryz.prog 52 #[a.v] w fun e w' => e = .returned (.bool r.okB) ∧ Below w.heap.size w w' := by
 obtain ⟨l1, l2, l3, l4, l5⟩ := h.lens
 have ho := okB_eq r l2 l3 l4
 obtain ⟨A, B, U, R, L, n, m, nu, np, nl, c, d, cu, cp, cl⟩ := a
 dsimp only [RA.v]
 dsimp only at *
 have H := Lib.hid h
 have HO := Lib.hid ho
 have L4 := Lib.hid l4
 have hm9 : m ≤ 9223372036854775807 := Nat.le_trans H.out.m (by decide)
 clear h ho l1 l2 l3 l4 l5
 cases ht : topoOkB r.par r.nodes
 ·have HF : Hid (r.okB = false) := Lib.hid (by rw [HO.out, ht]; simp)
  have HT := Lib.hid ht
  clear ht
  go_enter Tryz.func52, Tryz.ntmps52
  go_wp2_with fail
  refine (topoOk_any A B n c m d r.par r.nodes _ H.out.n H.out.m (H.out.below zBe).par (H.out.below zBe).nodes (H.out.below zBe).ltA (H.out.below zBe).ltB).mono ?_
  rintro e w1 ⟨rfl, hb1⟩
  have hs1 := hb1.size
  (try simp at hs1)
  have hy10 : w.heap.size < w1.heap.size := by omega
  have hk10 := fun o => hb1.cell (p := ⟨w.heap.size, o, none⟩) zOm
  have hg10 := fun o => hb1.frozen (p := ⟨w.heap.size, o, none⟩) zOm
  rw [HT.out]
  go_wp2
  go_ret
  exact ⟨zAj HF.out.symm, zBe⟩
 ·have HT := Lib.hid ht
  clear ht
  by_cases hu : m = nu
  ·subst hu
   by_cases hp : m = np
   ·subst hp
    go_enter Tryz.func52, Tryz.ntmps52
    go_wp2_with fail
    refine (topoOk_any A B n c m d r.par r.nodes _ H.out.n H.out.m (H.out.below zBe).par (H.out.below zBe).nodes (H.out.below zBe).ltA (H.out.below zBe).ltB).mono ?_
    rintro e w1 ⟨rfl, hb1⟩
    have hs1 := hb1.size
    (try simp at hs1)
    have hy10 : w.heap.size < w1.heap.size := by omega
    have hk10 := fun o => hb1.cell (p := ⟨w.heap.size, o, none⟩) zOm
    have hg10 := fun o => hb1.frozen (p := ⟨w.heap.size, o, none⟩) zOm
    rw [HT.out]
    go_wp2
    go_loopw [32] (fun i wr => ∃ k : Nat, k ≤ m ∧ i = .int .i64 k ∧ Below w1.heap.size w1 wr ∧ Hid (∀ j ps, j < k → r.profs[j]? = some ps → zAx ps = true)) (fun i _ => m - (intOf i).toNat)
    case atStart => exact ⟨0, Nat.zero_le _, rfl, zBe, Lib.hid (fun j ps hj => absurd hj (by omega))⟩
    case round =>
     obtain ⟨k, hk, rfl, hbw, hall⟩ := hrel
     have hx0 := fun o => hbw.cell (p := ⟨w.heap.size, o, none⟩) (by omega)
     have hxl : w.heap.size < wr.heap.size := Nat.lt_of_lt_of_le (by omega) hbw.size
     by_cases hlt : k < m
     ·obtain ⟨g, B', e', ps, rfl, hg, hq, hc, hle, hrd, hlb⟩ := (H.out.below (w' := wr) zBe).profs.prof hlt
      have HQ := Lib.hid hq
      have HLE := Lib.hid hle
      have HRD := Lib.hid hrd
      have HLB := Lib.hid hlb
      have HW := Lib.hid hbw
      clear hq hle hrd hlb
      have hlt' : (k : Int) < m := by omega
      cases hpo : zAx ps
      ·have HF : Hid (r.okB = false) := Lib.hid (by rw [HO.out, not_all HQ.out hpo]; simp)
       have HPO := Lib.hid hpo
       clear hpo
       go_wp2_with fail
       refine (profOk_any B' ps.length e' ps _ HLE.out (HRD.out.below HLB.out zBe) (zAi HLB.out zBe)).mono ?_
       rintro e w5 ⟨rfl, hb5⟩
       rw [HPO.out]
       go_wp2
       go_ret
       exact ⟨zAj HF.out.symm, zBe⟩
      ·have HPO := Lib.hid hpo
       clear hpo
       go_wp2_with fail
       refine (profOk_any B' ps.length e' ps _ HLE.out (HRD.out.below HLB.out zBe) (zAi HLB.out zBe)).mono ?_
       rintro e w5 ⟨rfl, hb5⟩
       rw [HPO.out]
       go_wp2
       go_roundw
       case rel =>
        refine ⟨k + 1, by omega, by go_num, zBe, Lib.hid (fun j ps' hj hps => ?_)⟩
        rcases Nat.lt_or_ge j k with h | h
        ·exact hall.out j ps' h hps
        ·have : j = k := by omega
         rw [this, HQ.out] at hps
         injection hps with hps
         rw [← hps]; exact HPO.out
       case measure => simp [intOf]; omega
     ·have hk9 : k = m := by omega
      subst hk9
      have HA := Lib.hid (all_upto L4.out hall.out)
      clear hall
      go_wp2_with fail
      refine (profOk_any L nl cl r.lics _ H.out.nl (H.out.below zBe).lics (H.out.below zBe).ltL).mono ?_
      rintro e w6 ⟨rfl, hb6⟩
      have hs6 := hb6.size
      (try simp at hs6)
      go_wp2
      go_ret
      exact ⟨zAj (by rw [HO.out, HT.out, HA.out]; simp), zBe⟩
   ·have HF : Hid (r.okB = false) := Lib.hid (by rw [HO.out]; rw [decide_eq_false (show ¬ np = m from fun e => hp (Eq.symm e))]; simp)
    have hne : ¬ ((np : Int) = m) := by omega
    have hnb : (((np : Int)) != m) = true := by simp [hne]
    go_enter Tryz.func52, Tryz.ntmps52
    go_wp2_with fail
    refine (topoOk_any A B n c m d r.par r.nodes _ H.out.n H.out.m (H.out.below zBe).par (H.out.below zBe).nodes (H.out.below zBe).ltA (H.out.below zBe).ltB).mono ?_
    rintro e w1 ⟨rfl, hb1⟩
    have hs1 := hb1.size
    (try simp at hs1)
    have hy10 : w.heap.size < w1.heap.size := by omega
    have hk10 := fun o => hb1.cell (p := ⟨w.heap.size, o, none⟩) zOm
    have hg10 := fun o => hb1.frozen (p := ⟨w.heap.size, o, none⟩) zOm
    rw [HT.out]
    go_wp2
    go_ret
    exact ⟨zAj HF.out.symm, zBe⟩
  ·have HF : Hid (r.okB = false) := Lib.hid (by rw [HO.out]; rw [decide_eq_false (show ¬ nu = m from fun e => hu (Eq.symm e))]; simp)
   have hne : ¬ ((nu : Int) = m) := by omega
   have hnb : (((nu : Int)) != m) = true := by simp [hne]
   go_enter Tryz.func52, Tryz.ntmps52
   go_wp2_with fail
   refine (topoOk_any A B n c m d r.par r.nodes _ H.out.n H.out.m (H.out.below zBe).par (H.out.below zBe).nodes (H.out.below zBe).ltA (H.out.below zBe).ltB).mono ?_
   rintro e w1 ⟨rfl, hb1⟩
   have hs1 := hb1.size
   (try simp at hs1)
   have hy10 : w.heap.size < w1.heap.size := by omega
   have hk10 := fun o => hb1.cell (p := ⟨w.heap.size, o, none⟩) zOm
   have hg10 := fun o => hb1.frozen (p := ⟨w.heap.size, o, none⟩) zOm
   rw [HT.out]
   go_wp2
   go_ret
   exact ⟨zAj HF.out.symm, zBe⟩
set_option maxHeartbeats 4000000 in
theorem sroomOk_any (a : RA) (r : Rm) (w : World) (h : RoomRd w a r) :
  Calls Tryz.prog 58 #[a.v] w fun e w' => e = .returned (.bool r.okB) ∧ Below w.heap.size w w' := by
 obtain ⟨l1, l2, l3, l4, l5⟩ := h.lens
 have ho := okB_eq r l2 l3 l4
 obtain ⟨A, B, U, R, L, n, m, nu, np, nl, c, d, cu, cp, cl⟩ := a
 dsimp only [RA.v]
 dsimp only at *
 have H := Lib.hid h
 have HO := Lib.hid ho
 have L4 := Lib.hid l4
 have hm9 : m ≤ 9223372036854775807 := Nat.le_trans H.out.m (by decide)
 clear h ho l1 l2 l3 l4 l5
 cases ht : topoOkB r.par r.nodes
 ·have HF : Hid (r.okB = false) := Lib.hid (by rw [HO.out, ht]; simp)
  have HT := Lib.hid ht
  clear ht
  go_enter Tryz.func58, Tryz.ntmps58
  go_wp2_with fail
  refine (stopoOk_any A B n c m d r.par r.nodes _ H.out.n H.out.m (H.out.below zBe).par (H.out.below zBe).nodes (H.out.below zBe).ltA (H.out.below zBe).ltB).mono ?_
  rintro e w1 ⟨rfl, hb1⟩
  have hs1 := hb1.size
  (try simp at hs1)
  have hy10 : w.heap.size < w1.heap.size := by omega
  have hk10 := fun o => hb1.cell (p := ⟨w.heap.size, o, none⟩) zOm
  have hg10 := fun o => hb1.frozen (p := ⟨w.heap.size, o, none⟩) zOm
  rw [HT.out]
  go_wp2
  go_ret
  exact ⟨zAj HF.out.symm, zBe⟩
 ·have HT := Lib.hid ht
  clear ht
  by_cases hu : m = nu
  ·subst hu
   by_cases hp : m = np
   ·subst hp
    cases hl : zAx r.lics
    ·have HF : Hid (r.okB = false) := Lib.hid (by rw [HO.out, hl]; simp)
     have HL := Lib.hid hl
     clear hl
     go_enter Tryz.func58, Tryz.ntmps58
     go_wp2_with fail
     refine (stopoOk_any A B n c m d r.par r.nodes _ H.out.n H.out.m (H.out.below zBe).par (H.out.below zBe).nodes (H.out.below zBe).ltA (H.out.below zBe).ltB).mono ?_
     rintro e w1 ⟨rfl, hb1⟩
     have hs1 := hb1.size
     (try simp at hs1)
     have hy10 : w.heap.size < w1.heap.size := by omega
     have hk10 := fun o => hb1.cell (p := ⟨w.heap.size, o, none⟩) zOm
     have hg10 := fun o => hb1.frozen (p := ⟨w.heap.size, o, none⟩) zOm
     rw [HT.out]
     go_wp2_with fail
     refine (sprofOk_any L nl cl r.lics _ H.out.nl (H.out.below zBe).lics (H.out.below zBe).ltL).mono ?_
     rintro e w6 ⟨rfl, hb6⟩
     have hs6 := hb6.size
     (try simp at hs6)
     have hy60 : w.heap.size < w6.heap.size := by omega
     have hk60 := fun o => hb6.cell (p := ⟨w.heap.size, o, none⟩) zOm
     have hg60 := fun o => hb6.frozen (p := ⟨w.heap.size, o, none⟩) zOm
     rw [HL.out]
     go_wp2
     go_ret
     exact ⟨zAj HF.out.symm, zBe⟩
    have HL := Lib.hid hl
    clear hl
    go_enter Tryz.func58, Tryz.ntmps58
    go_wp2_with fail
    refine (stopoOk_any A B n c m d r.par r.nodes _ H.out.n H.out.m (H.out.below zBe).par (H.out.below zBe).nodes (H.out.below zBe).ltA (H.out.below zBe).ltB).mono ?_
    rintro e w1 ⟨rfl, hb1⟩
    have hs1 := hb1.size
    (try simp at hs1)
    have hy10 : w.heap.size < w1.heap.size := by omega
    have hk10 := fun o => hb1.cell (p := ⟨w.heap.size, o, none⟩) zOm
    have hg10 := fun o => hb1.frozen (p := ⟨w.heap.size, o, none⟩) zOm
    rw [HT.out]
    go_wp2_with fail
    refine (sprofOk_any L nl cl r.lics _ H.out.nl (H.out.below zBe).lics (H.out.below zBe).ltL).mono ?_
    rintro e w6 ⟨rfl, hb6⟩
    have hs6 := hb6.size
    (try simp at hs6)
    have hy60 : w.heap.size < w6.heap.size := by omega
    have hk60 := fun o => hb6.cell (p := ⟨w.heap.size, o, none⟩) zOm
    have hg60 := fun o => hb6.frozen (p := ⟨w.heap.size, o, none⟩) zOm
    rw [HL.out]
    go_wp2
    go_loopw [38] (fun i wr => ∃ k : Nat, k ≤ m ∧ i = .int .i64 k ∧ Below w6.heap.size w6 wr ∧ Hid (∀ j ps, j < k → r.profs[j]? = some ps → zAx ps = true)) (fun i _ => m - (intOf i).toNat)
    case atStart => exact ⟨0, Nat.zero_le _, rfl, zBe, Lib.hid (fun j ps hj => absurd hj (by omega))⟩
    case round =>
     obtain ⟨k, hk, rfl, hbw, hall⟩ := hrel
     have hx0 := fun o => hbw.cell (p := ⟨w.heap.size, o, none⟩) (by omega)
     have hxl : w.heap.size < wr.heap.size := Nat.lt_of_lt_of_le (by omega) hbw.size
     by_cases hlt : k < m
     ·obtain ⟨g, B', e', ps, rfl, hg, hq, hc, hle, hrd, hlb⟩ := (H.out.below (w' := wr) zBe).profs.prof hlt
      have HQ := Lib.hid hq
      have HLE := Lib.hid hle
      have HRD := Lib.hid hrd
      have HLB := Lib.hid hlb
      have HW := Lib.hid hbw
      clear hq hle hrd hlb
      have hlt' : (k : Int) < m := by omega
      cases hpo : zAx ps
      ·have HF : Hid (r.okB = false) := Lib.hid (by rw [HO.out, not_all HQ.out hpo]; simp)
       have HPO := Lib.hid hpo
       clear hpo
       go_wp2_with fail
       refine (sprofOk_any B' ps.length e' ps _ HLE.out (HRD.out.below HLB.out zBe) (zAi HLB.out zBe)).mono ?_
       rintro e w5 ⟨rfl, hb5⟩
       rw [HPO.out]
       go_wp2
       go_ret
       exact ⟨zAj HF.out.symm, zBe⟩
      ·have HPO := Lib.hid hpo
       clear hpo
       go_wp2_with fail
       refine (sprofOk_any B' ps.length e' ps _ HLE.out (HRD.out.below HLB.out zBe) (zAi HLB.out zBe)).mono ?_
       rintro e w5 ⟨rfl, hb5⟩
       rw [HPO.out]
       go_wp2
       go_roundw
       case rel =>
        refine ⟨k + 1, by omega, by go_num, zBe, Lib.hid (fun j ps' hj hps => ?_)⟩
        rcases Nat.lt_or_ge j k with h | h
        ·exact hall.out j ps' h hps
        ·have : j = k := by omega
         rw [this, HQ.out] at hps
         injection hps with hps
         rw [← hps]; exact HPO.out
       case measure => simp [intOf]; omega
     ·have hk9 : k = m := by omega
      subst hk9
      have HA := Lib.hid (all_upto L4.out hall.out)
      clear hall
      go_wp2
      go_ret
      exact ⟨zAj (by rw [HO.out, HT.out, HA.out, HL.out]; simp), zBe⟩
   ·have HF : Hid (r.okB = false) := Lib.hid (by rw [HO.out]; rw [decide_eq_false (show ¬ np = m from fun e => hp (Eq.symm e))]; simp)
    have hne : ¬ ((np : Int) = m) := by omega
    have hnb : (((np : Int)) != m) = true := by simp [hne]
    go_enter Tryz.func58, Tryz.ntmps58
    go_wp2_with fail
    refine (stopoOk_any A B n c m d r.par r.nodes _ H.out.n H.out.m (H.out.below zBe).par (H.out.below zBe).nodes (H.out.below zBe).ltA (H.out.below zBe).ltB).mono ?_
    rintro e w1 ⟨rfl, hb1⟩
    have hs1 := hb1.size
    (try simp at hs1)
    have hy10 : w.heap.size < w1.heap.size := by omega
    have hk10 := fun o => hb1.cell (p := ⟨w.heap.size, o, none⟩) zOm
    have hg10 := fun o => hb1.frozen (p := ⟨w.heap.size, o, none⟩) zOm
    rw [HT.out]
    go_wp2
    go_ret
    exact ⟨zAj HF.out.symm, zBe⟩
  ·have HF : Hid (r.okB = false) := Lib.hid (by rw [HO.out]; rw [decide_eq_false (show ¬ nu = m from fun e => hu (Eq.symm e))]; simp)
   have hne : ¬ ((nu : Int) = m) := by omega
   have hnb : (((nu : Int)) != m) = true := by simp [hne]
   go_enter Tryz.func58, Tryz.ntmps58
   go_wp2_with fail
   refine (stopoOk_any A B n c m d r.par r.nodes _ H.out.n H.out.m (H.out.below zBe).par (H.out.below zBe).nodes (H.out.below zBe).ltA (H.out.below zBe).ltB).mono ?_
   rintro e w1 ⟨rfl, hb1⟩
   have hs1 := hb1.size
   (try simp at hs1)
   have hy10 : w.heap.size < w1.heap.size := by omega
   have hk10 := fun o => hb1.cell (p := ⟨w.heap.size, o, none⟩) zOm
   have hg10 := fun o => hb1.frozen (p := ⟨w.heap.size, o, none⟩) zOm
   rw [HT.out]
   go_wp2
   go_ret
   exact ⟨zAj HF.out.symm, zBe⟩
end Go.Proofs.YtnphjhbfpoekpaaGreat
