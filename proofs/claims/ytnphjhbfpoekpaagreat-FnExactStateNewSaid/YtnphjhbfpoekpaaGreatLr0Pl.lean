import Derived.Test.YtnphjhbfpoekpaaGreatFkPl
import Derived.Test.YtnphjhbfpoekpaaGreatFjPl
import Derived.Test.YtnphjhbfpoekpaaGreatVkPl
import Derived.Test.YtnphjhbfpoekpaaGreatFhPl
import Derived.Deep.RegionHeld3
import Derived.Test.YtnphjhbfpoekpaaGreatHePl
import Derived.Test.YtnphjhbfpoekpaaGreatA11Pl
import Derived.Test.YtnphjhbfpoekpaaGreatFePl
namespace Go.Proofs.YtnphjhbfpoekpaaGreat
set_option linter.unusedSimpArgs false
set_option linter.unusedVariables false
set_option linter.unnecessarySimpa false
open Go.RowKit
theorem own_cap9 {w : World} {lo : Nat} {e : TypeId} {size : Nat} {A : Option Addr} {n c : Nat} {xs : List Value} (h : w.ownsRow lo e size (.slice A n c) n xs) : n ≤ c ∧ c ≤ 9223372036854775807 := by
 rcases h.2 with ⟨h0, h1⟩ | ⟨g, cap, cur, hv, _, _, h3, h4, _⟩
 ·cases h0; omega
 ·cases hv; unfold maxLen at h4; exact ⟨h3, h4⟩
theorem heap_at9 (w : World) (o : Obj) : (w.alloc o).heap[w.heap.size]? = some o := zAk _ rfl
theorem heap_at9d (w : World) (o : Obj) : (w.alloc o).drew.heap[w.heap.size]? = some o := bx_drew (zAk _ rfl)
theorem own_nb {w : World} {lo : Nat} {e : TypeId} {size : Nat} {A : Option Addr} {n c m : Nat} {xs : List Value} {t : TypeId} {vs : Array Value} {f : Nat × Nat} {b : Nat} (h : w.ownsRow lo e size (.slice A n c) m xs) (hb : w.heap[b]? = some (.cells vs t f)) (he : e ≠ t) : ¬ atB A b := fun h1 => zAm h hb he b (atB_own' h1) rfl
theorem RoomOwn.nbox {w : World} {lo : Nat} {a : RA} {r : Rm} {xs : List Value} (h : RoomOwn w lo a r xs) {b : Nat} {vs : Array Value} {f : Nat × Nat} (hb : w.heap[b]? = some (.cells vs 33 f)) : ¬ atQ a xs b := by
 rintro ((h1 | h1 | h1 | ⟨i, x, hi, hx, hk⟩ | h1) | h1)
 ·exact own_nb h.par hb (by decide) h1
 ·exact own_nb h.nodes hb (by decide) h1
 ·exact own_nb h.up hb (by decide) h1
 ·obtain ⟨ps, hps⟩ : ∃ ps, r.profs[i]? = some ps := ⟨_, zgh (by have := h.profs.len; omega)⟩
  exact zAm (h.profs.each i x ps hx hps).2 hb (by decide) b hk rfl
 ·exact own_nb h.lics hb (by decide) h1
 ·exact own_nb h.profs.own hb (by decide) h1
structure BX (w wr : World) (b : Nat) (t : TypeId) (cs : List Value) : Prop where
 bx : wr.heap[b]? = some (.cells cs.toArray t (0, 0))
 bel : Below w.heap.size w wr
 hb : w.heap.size ≤ b
theorem BX.step {w wr w' : World} {b : Nat} {t : TypeId} {cs : List Value} (h : BX w wr b t cs) (hb : Below wr.heap.size wr w') : BX w w' b t cs := ⟨zAg h.bx hb, zAc h.bel hb, h.hb⟩
theorem BX.set {w wr : World} {b : Nat} {t : TypeId} {cs : List Value} (h : BX w wr b t cs) (i : Nat) (v : Value) : BX w (wr.setCell ⟨b, i, none⟩ v) b t (cs.set i v) := ⟨(zAq h.bx).trans (by simp), h.bel.setCell h.hb v, h.hb⟩
theorem BX.far {w wr : World} {b : Nat} {t : TypeId} {cs : List Value} (h : BX w wr b t cs) {b' : Nat} (hn : b ≠ b') (hb : w.heap.size ≤ b') (i : Nat) (v : Value) : BX w (wr.setCell ⟨b', i, none⟩ v) b t cs := ⟨bx_set h.bx hn v, h.bel.setCell hb v, h.hb⟩
theorem BX.sets {w : World} {b : Nat} {t : TypeId} : ∀ (vs : List Value) (o : Nat) {wr : World} {cs : List Value}, BX w wr b t cs → BX w (wr.setCells b o vs) b t (setL cs o vs)
 | [], _, _, _, h => h
 | v :: vs, o, _, _, h => BX.sets vs (o + 1) (h.set o v)
theorem BX.fars {w : World} {b b' : Nat} {t : TypeId} {cs : List Value} (hn : b ≠ b') (hb : w.heap.size ≤ b') : ∀ (vs : List Value) (o : Nat) {wr : World}, BX w wr b t cs → BX w (wr.setCells b' o vs) b t cs
 | [], _, _, h => h
 | v :: vs, o, _, h => BX.fars hn hb vs (o + 1) (h.far hn hb o v)
theorem own_sets {lo : Nat} {e : TypeId} {size : Nat} {v : Value} {n : Nat} {xs : List Value} {b : Nat} (hb : b < lo) : ∀ (vs : List Value) (o : Nat) {wr : World}, wr.ownsRow lo e size v n xs → (wr.setCells b o vs).ownsRow lo e size v n xs
 | [], _, _, h => h
 | u :: vs, o, _, h => own_sets hb vs (o + 1) (ownsRow_setCell_below h (a := ⟨b, o, none⟩) hb u)
theorem bel_sets {lo : Nat} {w : World} {b : Nat} (hb : lo ≤ b) : ∀ (vs : List Value) (o : Nat) {wr : World}, Below lo w wr → Below lo w (wr.setCells b o vs)
 | [], _, _, h => h
 | u :: vs, o, _, h => bel_sets hb vs (o + 1) (h.setCell hb u)
theorem BX.start {w w' : World} {o : Obj} {t : TypeId} {cs : List Value} (hw : Below w.heap.size w w') (ho : o = .cells cs.toArray t) : BX w (w'.alloc o) w'.heap.size t cs := ⟨by rw [zAk o rfl, ho], zAc hw (zAa _ _), hw.size⟩
structure Rn where
 j : J
 at_ : Int
 nd : List Int
structure En where
 id : Int
 at_ : Int
 why : Int
structure St where
 par : List Int
 nodes : List Q
 up : List Bool
 lic : V
 dep : Int
 now : Int
 queue : List J
 runs : List Rn
 ends : List En
def St.empty (s : St) : Rm := ⟨s.par, s.nodes, s.up, s.nodes.map (fun q => newP ⟨q.a, q.b, q.c⟩), newP s.lic⟩
def runB (now : Int) (x : Rn) : Bool := x.j.okB && inB x.at_ 0 now && inB (x.at_ + x.j.wl) (now + 1) 1000000000
def runO (now : Int) (r : Rm) (x : Rn) : Option Rm := if runB now x then movedV (takeO now (x.at_ + x.j.wl)) r x.j x.nd else none
def runsV (now : Int) : Rm → List Rn → Option Rm
 | r, [] => some r
 | r, x :: l => match runO now r x with
  | none => none
  | some s => runsV now s l
def preB (s : St) : Bool := topoOkB s.par s.nodes && decide (s.up.length = s.nodes.length) && s.lic.ok && timeB s.now
def roomO (s : St) : Option Rm := if preB s then runsV s.now s.empty s.runs else none
theorem runsV_none {now : Int} {r : Rm} {x : Rn} {l : List Rn} (h : runO now r x = none) : runsV now r (x :: l) = none := by simp [runsV, h]
theorem runsV_some {now : Int} {r s : Rm} {x : Rn} {l : List Rn} (h : runO now r x = some s) : runsV now r (x :: l) = runsV now s l := by simp [runsV, h]
def sRunB (now : Int) (r : Rm) (x : Rn) : Bool := jnB r x.j x.nd && timeB x.at_ && decide (x.at_ ≤ now) && decide (now < x.at_ + x.j.wl) && decide (x.at_ + x.j.wl ≤ 1000000000)
def Rn.left (now : Int) (x : Rn) : J := { x.j with wl := x.at_ + x.j.wl - now }
theorem run_no {now : Int} {r : Rm} {x : Rn} (h : sRunB now r x = false) : runO now r x = none := by
 unfold runO
 split
 ·rename_i hb
  simp only [runB, Bool.and_eq_true] at hb
  obtain ⟨⟨h1, h2⟩, h3⟩ := hb
  simp only [inB, Bool.and_eq_true, decide_eq_true_eq] at h2 h3
  by_cases hj : jnB r x.j x.nd = true
  ·exfalso
   have : sRunB now r x = true := by
    unfold sRunB
    have h4 := job_wl h1
    simp [hj, timeB, inB]
    omega
   rw [h] at this; cases this
  ·exact moved_bad (by simpa [jnB] using hj)
 ·rfl
theorem run_yes {now : Int} {r : Rm} {x : Rn} (hn : timeB now = true) (h : sRunB now r x = true) : resV r (x.left now) now x.nd = runO now r x := by
 simp only [sRunB, Bool.and_eq_true, decide_eq_true_eq] at h
 obtain ⟨⟨⟨⟨h1, h2⟩, h3⟩, h4⟩, h5⟩ := h
 have hj := h1
 simp only [jnB, Bool.and_eq_true] at hj
 obtain ⟨⟨j1, j2⟩, j3⟩ := hj
 have hw := job_wl j2
 simp only [timeB, inB, Bool.and_eq_true, decide_eq_true_eq] at h2
 have hb : runB now x = true := by
  simp [runB, j2, inB]
  omega
 have hl : (x.left now).okB = true := by
  have h9 := j2
  unfold Rn.left
  unfold J.okB at h9 ⊢
  simp only [Bool.and_eq_true, inB, decide_eq_true_eq] at h9 ⊢
  obtain ⟨⟨⟨⟨⟨⟨a1, a2⟩, a3⟩, a4⟩, a5⟩, a6⟩, a7⟩ := h9
  exact ⟨⟨⟨⟨⟨⟨a1, a2⟩, a3⟩, a4⟩, a5⟩, by omega⟩, a7⟩
 unfold resV runO
 rw [if_pos hn, if_pos hb]
 have e : now + (x.left now).wl = x.at_ + x.j.wl := by unfold Rn.left; simp only; omega
 rw [e]
 unfold movedV
 rw [hl, j2]
 rfl
def okRun (s : St) (x : Rn) : Bool := x.nd.all (fun n => s.up.getD n.toNat false) && ascB x.nd && decide (lev s.par (lowestV s.par s.nodes x.nd).toNat ≤ x.j.lv)
def okEnd (now : Int) (e : En) : Bool := inB e.id 1 999 && inB e.at_ 0 now && inB e.why 1 4
def St.jobs (s : St) : List J := s.queue ++ s.runs.map (·.j)
def stateB (s : St) : Bool := (roomO s).isSome && inB s.dep 0 60 && queueB s.jobs && decide (s.ends.length ≤ 300) && s.runs.all (okRun s) && s.ends.all (okEnd s.now)
theorem runsV_all {now : Int} : ∀ {l : List Rn} {r R : Rm}, runsV now r l = some R → (∀ x ∈ l, runB now x = true ∧ areB r.par r.nodes x.nd = true ∧ 1 ≤ x.nd.length ∧ x.nd.length ≤ 24) ∧ R.par = r.par ∧ R.nodes = r.nodes
 | [], r, R, h => by
  simp only [runsV, Option.some.injEq] at h
  subst h
  exact ⟨fun x hx => by simp at hx, rfl, rfl⟩
 | x :: l, r, R, h => by
  cases hx : runO now r x with
  | none => rw [runsV_none hx] at h; cases h
  | some s =>
   rw [runsV_some hx] at h
   unfold runO at hx
   split at hx
   ·rename_i hb
    obtain ⟨g1, g2, g3, e1, e2, e3, e4, hl, hn, ho⟩ := moved_some hx
    obtain ⟨k1, k2, k3⟩ := runsV_all h
    have hj : jobNodesB r x.j x.nd = true := g3
    simp only [jobNodesB, Bool.and_eq_true, decide_eq_true_eq] at hj
    have hw := job_wl g2
    refine ⟨fun y hy => ?_, by rw [k2, e1], by rw [k3, e2]⟩
    rcases List.mem_cons.1 hy with rfl | hy
    ·exact ⟨hb, hj.1.2, by omega, by omega⟩
    ·have := k1 y hy
     rw [e1, e2] at this
     exact this
   ·cases hx
end Go.Proofs.YtnphjhbfpoekpaaGreat
